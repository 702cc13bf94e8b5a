/- Part of the proof. -/
import Derived.Test.YtakfdnnlhjhcfaaGreatDoorA20
set_option linter.unusedVariables false
set_option linter.unusedSimpArgs false
set_option maxRecDepth 100000
set_option maxHeartbeats 4000000
namespace Go.Proofs.YtakfdnnlhjhcfaaGreatDoor
open Go.RowKit Bk
section
variable{w0 w w':World}{B0 r fuel f m:Nat}{R:Rn}{S:Sv}{σ:PSt}{kd:Nat->Int}
theorem Ej{s:Sq}{σ':PSt}(h:σ.Ok kd m)(hr:CY s σ=.ok σ'):σ'.Ok kd m:=by
 cases s with
 |upd op p e _=>exact DZ h hr
 |swp p q _=>exact DX h hr
 |stk op s p _=>exact DW h hr
 |tap op p _=>exact DY h hr
 |_=>simp only[CY,Except.ok.injEq]at hr;subst hr;exact h
theorem N5(procs:List Pr)(n:Nat)(inner:Bool->Sq->Mo)(back:Bool){s:Sq}(hb:s.basic):jB procs n inner back s=eM (CY (if back then s.inv else s)):=by
 cases s<;>first|exact hb.elim|(cases back<;>rfl)
theorem Nw{d:Nat}(h:RAt w0 B0 w r R S σ fuel f kd m){s:Sq}{x:Nd}(hs:StAt w0 B0 (d+1) s x)(hb:s.basic)(hv:KV w0 B0 (d+1) x):Calls Tryz.prog 109 #[.pointer (some ⟨R.st,0,none⟩),.agg #[.int .u8 x.k,.int .i64 x.num,.string x.nm,.slice x.A x.n x.cap]] w fun e w'=>pS w0 B0 w r R S fuel f (CY s σ) e w':=by
 have hm:=h.fm;have:=Nv h.on h.B h.ok (by omega) (StAt.upS h.base h.B _ _ _ hs) hb (hv.upS h.base h.B);rw[h.st]at this;exact this.mono fun e w' hr=>h.opS hr
theorem TJ{d:Nat}(h:RAt w0 B0 w r R S σ fuel f kd m){s:Sq}{x:Nd}(hs:StAt w0 B0 (d+1) s x)(hb:s.basic)(hv:KV w0 B0 (d+1) x):Calls Tryz.prog 108 #[.pointer (some ⟨R.st,0,none⟩),.agg #[.int .u8 x.k,.int .i64 x.num,.string x.nm,.slice x.A x.n x.cap]] w fun e w'=>pS w0 B0 w r R S fuel f (CY s.inv σ) e w':=by
 have hm:=h.fm;have:=Dy h.on h.B h.ok (by omega) (StAt.upS h.base h.B _ _ _ hs) hb (hv.upS h.base h.B);rw[h.st]at this;exact this.mono fun e w' hr=>h.opS hr
theorem Y0{d:Nat}{s:Sq}{x:Nd}(hs:StAt w0 B0 (d+1) s x)(hb:s.basic):40<=x.k∧x.k<=49∨x.k=56:=by
 cases s with
 |upd op p e _=>obtain⟨h1,h2,_⟩:=hs;omega
 |swp p q _=>obtain⟨h1,_⟩:=hs;omega
 |stk op s p _=>obtain⟨h1,h2,_⟩:=hs;omega
 |tap op p _=>obtain⟨h1,h2,_⟩:=hs;omega
 |_=>exact hb.elim
theorem qU{procs:List Pr}{n d:Nat}(h:RAt w0 B0 w r R S σ fuel f kd m)(hf:f<n+1)(back:Bool){s:Sq}{x:Nd}(hx:StAt w0 B0 (d+1) s x)(hb:s.basic)(hk:KV w0 B0 (d+1) x):
  Calls Tryz.prog 67 #[.pointer (some ⟨r,0,none⟩),.agg #[.int .u8 x.k,.int .i64 x.num,.string x.nm,.slice x.A x.n x.cap],.bool back] w fun en w'=>RunP w0 B0 w r R S fuel (jB procs n (execP procs n) back s σ f) en w':=by
 rw[N5 _ _ _ _ hb];obtain⟨s',hs'⟩:∃s',(if back then s.inv else s)=s':=⟨_,rfl⟩;rw[hs'];have H1:Hid (∀W,Below w.heap.size w W->RAt w0 B0 W r R S σ fuel f kd m):=aA fun W hW=>h.next hW h.B
 have oZ:Hid (∀b,w.heap.size<=b->¬RO S R r b):=aA fun b hb=>h.nro hb
 have DJ:=Y0 hx hb;have q52:(x.k==52)=false:=by simp;omega
 have q53:(x.k==53)=false:=by simp;omega
 have q54:(x.k==54)=false:=by simp;omega
 have q55:(x.k==55)=false:=by simp;omega
 have q50:(x.k==50)=false:=by simp;omega
 have q51:(x.k==51)=false:=by simp;omega
 have Tl:Hid (∀W f',RAt w0 B0 W r R S σ fuel f' kd m->back=false->Calls Tryz.prog 109 #[.pointer (some ⟨R.st,0,none⟩),.agg #[.int .u8 x.k,.int .i64 x.num,.string x.nm,.slice x.A x.n x.cap]] W fun e w'=>pS w0 B0 W r R S fuel f' (CY s' σ) e w'):=aA fun W f' hW gX=>by
  subst gX;obtain rfl:s=s':=hs';exact Nw hW hx hb hk
 have Ir:Hid (∀W f',RAt w0 B0 W r R S σ fuel f' kd m->back=true->Calls Tryz.prog 108 #[.pointer (some ⟨R.st,0,none⟩),.agg #[.int .u8 x.k,.int .i64 x.num,.string x.nm,.slice x.A x.n x.cap]] W fun e w'=>pS w0 B0 W r R S fuel f' (CY s' σ) e w'):=aA fun W f' hW gX=>by
  subst gX;obtain rfl:s.inv=s':=hs';exact TJ hW hx hb hk
 obtain⟨QT,hQT⟩:∃QT,eM (CY s') σ f=QT:=⟨_,rfl⟩;rw[hQT];have tG:=aA hQT;clear hQT h hx hb hk hs' DJ hf;obtain⟨xk,num,nm,A,nn,cap⟩:=x;dsimp only at *;go_enter Tryz.func67,Tryz.ntmps67;go_upto_region 1 with fail;refine aB ?_;intro w1 aF;have aG:Below w.heap.size w w1:=(by rw[aF];go_grown);have K1:Blk w1 w.heap.size 26 #[.int .u8 xk,.int .i64 num,.string nm,.slice A nn cap]:=(by rw[aF];exact aQ);have aO:=aA aG;have a9:=aA K1;have hs1:=aG.size;have rC:=aA (H1.out w1 aG);have oM:=aA (oZ.out w.heap.size (aH _));have iL:=aA (Fr.of (O:=RO S R r) aG);have wZ:Hid (∀S5,S.Ext S5 w1->S.Ext S5 w):=aA fun S5 h=>⟨h.1,fun k hk=>h.2 k (dX hk aG.size)⟩
 obtain⟨aL,aJ,aK⟩:=K1.open_;clear aF aG K1 H1 oZ;generalize w.heap.size=bi at *;go_wp2_with fail;cases f with
 |zero=>
  obtain rfl:QT=.error 18:=tG.out.symm;have HC:=aA (g9 rC.out);unfold bZ at HC;refine HC.out.mono ?_;rintro en w4 ⟨rfl,vP⟩;have t6:=aA vP;clear vP;go_wp2_with fail;exact⟨rfl,rfl,t6.out⟩
 |succ f=>
  have j6:Hid ((match CY s' σ with|.error e=>(.error e:Except Int (PSt×Nat))|.ok σ'=>.ok (σ',f))=QT):=aA (by rw[<-tG.out];rfl);clear tG;refine(jN rC.out).mono ?_;rintro en w4 ⟨rfl,xI,pI⟩;have lH:=aA xI;have l9:Hid (Fr (RO S R r) w1 w4):=aA (pI.mono fun k hk=>.inr (.inl hk));have HD:=aA (fun W hW=>Tl.out W f (xI.next hW xI.B));have HU:=aA (fun W hW=>Ir.out W f (xI.next hW xI.B));clear xI pI rC aJ aL aK Tl Ir;have eG:=aA (l9.out.blk a9.out oM.out);obtain⟨QO,hQO⟩:∃QO,CY s' σ=QO:=⟨_,rfl⟩;rw[hQO]at HD HU j6;have Im:Hid (∀σ',QO=.ok σ'->σ'.Ok kd m):=aA fun σ' h=>Ej lH.out.ok (hQO.trans h)
  have t8:=aA (fun(y:Int)(hy:y≠0) W=>kJ (.pointer (some ⟨r,0,none⟩)) y hy W);have kC:=aA (fun W=>kI (.pointer (some ⟨r,0,none⟩)) W);unfold bZ at t8;clear hQO;cases back
  ·have fN:=aA (fun W hW=>HD.out W hW rfl)
   clear HD HU;cases QO with
   |error eo=>
    obtain rfl:QT=.error eo:=j6.out.symm;unfold pS at fN;dsimp only at fN;go_wp2_with fail;refine wp_region_held_drew (S:=fun W=>Fr (RO S R r) w4 W∧W.cell? ⟨r,6,none⟩=some (.pointer (some ⟨R.st,0,none⟩))) (by kernel_rfl) (⟨(Fr.refl _ _).drew,lH.out.cell6⟩) (fun hH=>?_);refine aE ?_;intro wa bP;have hX:Below w4.heap.size w4 wa:=by rw[bP];exact(aM _ _).drew
    replace hH:=(show Fr (RO S R r) w4 wa∧wa.cell? ⟨r,6,none⟩=some (.pointer (some ⟨R.st,0,none⟩)) by rw[bP];exact hH);clear bP;refine aW 0 (v:=?_) rfl hH ?_;(try simp only[PU,aD])
    refine aW 1 (v:=?_) rfl hH ?_;(try simp only[PU,aD])
    refine aW 2 (v:=?_) rfl hH ?_;(try simp only[PU,aD])
    refine aW 3 (v:=?_) rfl hH ?_;(try simp only[PU,aD])
    refine cH 4 (v:=?_) rfl ?hy hH ?_
    case hy=>(intro bW aN;have t:=aN.2;clear aN;go_simp;try with_reducible rfl)
    (try simp only[PU,aD])
    refine cH 5 (v:=?_) rfl ?hy hH ?_
    case hy=>(intro bW aN;have t:=(aN.1.blk eG.out oM.out).cell;clear aN;go_simp;try with_reducible rfl)
    (try simp only[PU,aD])
    refine cE 6 (by kernel_rfl) rfl (fun K hK=>?_);go_simp;refine(fN.out _ hX).mono ?_;rintro en wb_ ⟨rfl,dG,sT,iP,h6⟩;refine hK.out _ _ ⟨(Fr.of hX).trans iP,h6⟩ (fun hH=>?_);clear hK;(try simp only[PU,aD])
    refine cE 7 (by kernel_rfl) rfl (fun K hK=>?_);go_simp;refine(t8.out _ dG _).mono ?_;rintro en wc_ ⟨rfl,rfl⟩;dsimp only;exact⟨rfl,rfl,sT⟩
   |ok σ3=>
    obtain rfl:QT=.ok (σ3,f):=j6.out.symm;unfold pS at fN;dsimp only at fN j6;go_wp2_with fail;refine wp_region_held_drew (S:=fun W=>Fr (RO S R r) w4 W∧W.cell? ⟨r,6,none⟩=some (.pointer (some ⟨R.st,0,none⟩))) (by kernel_rfl) (⟨(Fr.refl _ _).drew,lH.out.cell6⟩) (fun hH=>?_);refine aE ?_;intro wa bP;have hX:Below w4.heap.size w4 wa:=by rw[bP];exact(aM _ _).drew
    replace hH:=(show Fr (RO S R r) w4 wa∧wa.cell? ⟨r,6,none⟩=some (.pointer (some ⟨R.st,0,none⟩)) by rw[bP];exact hH);clear bP;refine aW 0 (v:=?_) rfl hH ?_;(try simp only[PU,aD])
    refine aW 1 (v:=?_) rfl hH ?_;(try simp only[PU,aD])
    refine aW 2 (v:=?_) rfl hH ?_;(try simp only[PU,aD])
    refine aW 3 (v:=?_) rfl hH ?_;(try simp only[PU,aD])
    refine cH 4 (v:=?_) rfl ?hy hH ?_
    case hy=>(intro bW aN;have t:=aN.2;clear aN;go_simp;try with_reducible rfl)
    (try simp only[PU,aD])
    refine cH 5 (v:=?_) rfl ?hy hH ?_
    case hy=>(intro bW aN;have t:=(aN.1.blk eG.out oM.out).cell;clear aN;go_simp;try with_reducible rfl)
    (try simp only[PU,aD])
    refine cE 6 (by kernel_rfl) rfl (fun K hK=>?_);go_simp;refine(fN.out _ hX).mono ?_;rintro en wb_ ⟨rfl,⟨S5,mV,sW⟩,iP,h6⟩;refine hK.out _ _ ⟨(Fr.of hX).trans iP,h6⟩ (fun hH=>?_);clear hK;(try simp only[PU,aD])
    have tH:=aA mV;have gP:=aA sW;clear mV sW iP h6;refine cE 7 (by kernel_rfl) rfl (fun K hK=>?_);go_simp;refine(kC.out _).mono ?_;rintro en wc_ ⟨rfl,rfl⟩;refine hK.out _ _ hH (fun hH=>?_);clear hK;(try simp only[PU,aD])
    refine wpAnyH_done (by kernel_rfl) ?_ _;have Cx:=aA (tH.out kd m (Im.out _ rfl) lH.out.fm lH.out.m0);have X3:Hid (S.Ext S5 w1):=aA ⟨gP.out.1,fun k hk=>gP.out.2 k (dX hk (fC l9.out.size hX.size))⟩;have Bn:=aA (l9.out.trans hH.1);clear hX hH tH gP fN;go_wp2_with fail;refine bodyPost_end (results_none rfl _ _ _) rfl ?_;exact⟨rfl,S5,kd,m,Cx.out,wZ.out _ X3.out,iL.out.trans Bn.out⟩
  ·have fN:=aA (fun W hW=>HU.out W hW rfl)
   clear HD HU;cases QO with
   |error eo=>
    obtain rfl:QT=.error eo:=j6.out.symm;unfold pS at fN;dsimp only at fN;go_wp2_with fail;refine wp_region_held_drew (S:=fun W=>Fr (RO S R r) w4 W∧W.cell? ⟨r,6,none⟩=some (.pointer (some ⟨R.st,0,none⟩))) (by kernel_rfl) (⟨(Fr.refl _ _).drew,lH.out.cell6⟩) (fun hH=>?_);refine aE ?_;intro wa bP;have hX:Below w4.heap.size w4 wa:=by rw[bP];exact(aM _ _).drew
    replace hH:=(show Fr (RO S R r) w4 wa∧wa.cell? ⟨r,6,none⟩=some (.pointer (some ⟨R.st,0,none⟩)) by rw[bP];exact hH);clear bP;refine aW 0 (v:=?_) rfl hH ?_;(try simp only[PU,aD])
    refine aW 1 (v:=?_) rfl hH ?_;(try simp only[PU,aD])
    refine aW 2 (v:=?_) rfl hH ?_;(try simp only[PU,aD])
    refine aW 3 (v:=?_) rfl hH ?_;(try simp only[PU,aD])
    refine cH 4 (v:=?_) rfl ?hy hH ?_
    case hy=>(intro bW aN;have t:=aN.2;clear aN;go_simp;try with_reducible rfl)
    (try simp only[PU,aD])
    refine cH 5 (v:=?_) rfl ?hy hH ?_
    case hy=>(intro bW aN;have t:=(aN.1.blk eG.out oM.out).cell;clear aN;go_simp;try with_reducible rfl)
    (try simp only[PU,aD])
    refine cE 6 (by kernel_rfl) rfl (fun K hK=>?_);go_simp;refine(fN.out _ hX).mono ?_;rintro en wb_ ⟨rfl,dG,sT,iP,h6⟩;refine hK.out _ _ ⟨(Fr.of hX).trans iP,h6⟩ (fun hH=>?_);clear hK;(try simp only[PU,aD])
    refine cE 7 (by kernel_rfl) rfl (fun K hK=>?_);go_simp;refine(t8.out _ dG _).mono ?_;rintro en wc_ ⟨rfl,rfl⟩;dsimp only;exact⟨rfl,rfl,sT⟩
   |ok σ3=>
    obtain rfl:QT=.ok (σ3,f):=j6.out.symm;unfold pS at fN;dsimp only at fN j6;go_wp2_with fail;refine wp_region_held_drew (S:=fun W=>Fr (RO S R r) w4 W∧W.cell? ⟨r,6,none⟩=some (.pointer (some ⟨R.st,0,none⟩))) (by kernel_rfl) (⟨(Fr.refl _ _).drew,lH.out.cell6⟩) (fun hH=>?_);refine aE ?_;intro wa bP;have hX:Below w4.heap.size w4 wa:=by rw[bP];exact(aM _ _).drew
    replace hH:=(show Fr (RO S R r) w4 wa∧wa.cell? ⟨r,6,none⟩=some (.pointer (some ⟨R.st,0,none⟩)) by rw[bP];exact hH);clear bP;refine aW 0 (v:=?_) rfl hH ?_;(try simp only[PU,aD])
    refine aW 1 (v:=?_) rfl hH ?_;(try simp only[PU,aD])
    refine aW 2 (v:=?_) rfl hH ?_;(try simp only[PU,aD])
    refine aW 3 (v:=?_) rfl hH ?_;(try simp only[PU,aD])
    refine cH 4 (v:=?_) rfl ?hy hH ?_
    case hy=>(intro bW aN;have t:=aN.2;clear aN;go_simp;try with_reducible rfl)
    (try simp only[PU,aD])
    refine cH 5 (v:=?_) rfl ?hy hH ?_
    case hy=>(intro bW aN;have t:=(aN.1.blk eG.out oM.out).cell;clear aN;go_simp;try with_reducible rfl)
    (try simp only[PU,aD])
    refine cE 6 (by kernel_rfl) rfl (fun K hK=>?_);go_simp;refine(fN.out _ hX).mono ?_;rintro en wb_ ⟨rfl,⟨S5,mV,sW⟩,iP,h6⟩;refine hK.out _ _ ⟨(Fr.of hX).trans iP,h6⟩ (fun hH=>?_);clear hK;(try simp only[PU,aD])
    have tH:=aA mV;have gP:=aA sW;clear mV sW iP h6;refine cE 7 (by kernel_rfl) rfl (fun K hK=>?_);go_simp;refine(kC.out _).mono ?_;rintro en wc_ ⟨rfl,rfl⟩;refine hK.out _ _ hH (fun hH=>?_);clear hK;(try simp only[PU,aD])
    refine wpAnyH_done (by kernel_rfl) ?_ _;have Cx:=aA (tH.out kd m (Im.out _ rfl) lH.out.fm lH.out.m0);have X3:Hid (S.Ext S5 w1):=aA ⟨gP.out.1,fun k hk=>gP.out.2 k (dX hk (fC l9.out.size hX.size))⟩;have Bn:=aA (l9.out.trans hH.1);clear hX hH tH gP fN;go_wp2_with fail;refine bodyPost_end (results_none rfl _ _ _) rfl ?_;exact⟨rfl,S5,kd,m,Cx.out,wZ.out _ X3.out,iL.out.trans Bn.out⟩
theorem PN{q:Except Int (PSt×Nat)}(h:RAt w0 B0 w r R S σ fuel f kd m)(back:Bool){x:Nd}(Jo:x.k=52∨x.k=53∨x.k=54)
  (hc:∀W,Below w.heap.size w W->(x.k=52->Calls Tryz.prog 100 #[.pointer (some ⟨r,0,none⟩),.agg #[.int .u8 x.k,.int .i64 x.num,.string x.nm,.slice x.A x.n x.cap],.bool back] W fun en w'=>RunP w0 B0 W r R S fuel q en w')
   ∧(x.k=53->Calls Tryz.prog 101 #[.pointer (some ⟨r,0,none⟩),.agg #[.int .u8 x.k,.int .i64 x.num,.string x.nm,.slice x.A x.n x.cap],.bool back] W fun en w'=>RunP w0 B0 W r R S fuel q en w')
   ∧(x.k=54->Calls Tryz.prog 102 #[.pointer (some ⟨r,0,none⟩),.agg #[.int .u8 x.k,.int .i64 x.num,.string x.nm,.slice x.A x.n x.cap],.bool back] W fun en w'=>RunP w0 B0 W r R S fuel q en w')):
  Calls Tryz.prog 67 #[.pointer (some ⟨r,0,none⟩),.agg #[.int .u8 x.k,.int .i64 x.num,.string x.nm,.slice x.A x.n x.cap],.bool back] w fun en w'=>RunP w0 B0 w r R S fuel q en w':=by
 have H1:Hid (∀W,Below w.heap.size w W->RAt w0 B0 W r R S σ fuel f kd m):=aA fun W hW=>h.next hW h.B
 have oZ:Hid (∀b,w.heap.size<=b->¬RO S R r b):=aA fun b hb=>h.nro hb
 have HC:=aA hc;clear hc h;obtain⟨xk,num,nm,A,nn,cap⟩:=x;dsimp only at *;go_enter Tryz.func67,Tryz.ntmps67;go_upto_region 1 with fail;refine aB ?_;intro w1 aF;have aG:Below w.heap.size w w1:=(by rw[aF];go_grown);have K1:Blk w1 w.heap.size 26 #[.int .u8 xk,.int .i64 num,.string nm,.slice A nn cap]:=(by rw[aF];exact aQ);have aO:=aA aG;have a9:=aA K1;have hs1:=aG.size;have HQ:=aA (HC.out w1 aG);have rC:=aA (H1.out w1 aG);have oM:=aA (oZ.out w.heap.size (aH _));have iL:=aA (Fr.of (O:=RO S R r) aG);have wZ:Hid (∀S5,S.Ext S5 w1->S.Ext S5 w):=aA fun S5 h=>⟨h.1,fun k hk=>h.2 k (dX hk aG.size)⟩
 obtain⟨aL,aJ,aK⟩:=K1.open_;clear aF aG K1 H1 oZ;generalize w.heap.size=bi at *;rcases Jo with rfl|rfl|rfl
 ·have HG:=aA (HQ.out.1 rfl)
  clear HQ HC;go_wp2_with fail;refine HG.out.mono ?_;intro en w6 h6;have H6:=aA h6;have pQ:=aA (RunP.pre (w':=w1) (S':=S) (Sv.Ext.refl _ _) iL.out h6);clear h6;cases q with
  |error e3=>
   obtain⟨rfl,_⟩:=H6.out;unfold bZ at *;go_wp2_with fail;exact⟨rfl,pQ.out⟩
  |ok p3=>
   obtain⟨rfl,_⟩:=H6.out;go_wp2_with fail;refine bodyPost_end (results_none rfl _ _ _) rfl ?_;exact pQ.out
 ·have HG:=aA (HQ.out.2.1 rfl)
  clear HQ HC;go_wp2_with fail;refine HG.out.mono ?_;intro en w6 h6;have H6:=aA h6;have pQ:=aA (RunP.pre (w':=w1) (S':=S) (Sv.Ext.refl _ _) iL.out h6);clear h6;cases q with
  |error e3=>
   obtain⟨rfl,_⟩:=H6.out;unfold bZ at *;go_wp2_with fail;exact⟨rfl,pQ.out⟩
  |ok p3=>
   obtain⟨rfl,_⟩:=H6.out;go_wp2_with fail;refine bodyPost_end (results_none rfl _ _ _) rfl ?_;exact pQ.out
 ·have HG:=aA (HQ.out.2.2 rfl)
  clear HQ HC;go_wp2_with fail;refine HG.out.mono ?_;intro en w6 h6;have H6:=aA h6;have pQ:=aA (RunP.pre (w':=w1) (S':=S) (Sv.Ext.refl _ _) iL.out h6);clear h6;cases q with
  |error e3=>
   obtain⟨rfl,_⟩:=H6.out;unfold bZ at *;go_wp2_with fail;exact⟨rfl,pQ.out⟩
  |ok p3=>
   obtain⟨rfl,_⟩:=H6.out;go_wp2_with fail;refine bodyPost_end (results_none rfl _ _ _) rfl ?_;exact pQ.out
end
section
variable{w0 w w':World}{B0 r fuel f m:Nat}{R:Rn}{S:Sv}{σ:PSt}{kd:Nat->Int}
theorem Ht{procs:List Pr}{n d:Nat}(mQ:G4 w0 B0 r R fuel procs n)(h:RAt w0 B0 w r R S σ fuel f kd m)(hf:f<n+1)(back:Bool){v:ByteArray}{b rest:Sq}{x:Nd}(hx:StAt w0 B0 (d+1) (.lst v b rest) x)(hk:KV w0 B0 (d+1) x)(pT:(Sq.lst v b rest).cok procs):
  Calls Tryz.prog 67 #[.pointer (some ⟨r,0,none⟩),.agg #[.int .u8 x.k,.int .i64 x.num,.string x.nm,.slice x.A x.n x.cap],.bool back] w fun en w'=>RunP w0 B0 w r R S fuel (jB procs n (execP procs n) back (.lst v b rest) σ f) en w':=by
 obtain⟨aAx,hnm,NX,y,k0,b1⟩:=hx;have kv:=hk.kid (by omega) k0;show Calls _ _ _ _ fun en w'=>RunP w0 B0 w r R S fuel ((PO.seq ((Bk.liftM (cX ⟨v,3,0⟩ [])).seq ((execP procs n back b).seq (PO.seq (Bk.liftM (bU v 0)))))) σ f) en w'
 have H1:Hid (∀W,Below w.heap.size w W->RAt w0 B0 W r R S σ fuel f kd m):=aA fun W hW=>h.next hW h.B
 have oZ:Hid (∀b,w.heap.size<=b->¬RO S R r b):=aA fun b hb=>h.nro hb
 have V5:=aA (fun W S' σ' f' kd' m'(h:RAt w0 B0 W r R S' σ' fuel f' kd' m')(hf:f'<n)=>mQ W S' σ' f' kd' m' h hf back d b y b1 kv.succ pT.1);generalize execP procs n back b=MB at *;obtain⟨QT,hQT⟩:∃QT,(PO.seq ((Bk.liftM (cX ⟨v,3,0⟩ [])).seq (MB.seq (PO.seq (Bk.liftM (bU v 0)))))) σ f=QT:=⟨_,rfl⟩;rw[hQT];have tG:=aA hQT;have G6:=aA hf;obtain⟨g,o,hA,cR,GH⟩:=k0;clear hQT h mQ hk pT hf kv b1;obtain⟨xk,num,nm,A,nn,cap⟩:=x;obtain⟨yk,ynum,ynm,yA,yn,yc⟩:=y;dsimp only at *;subst hA;subst NX;subst hnm;subst aAx;simp only[Nat.zero_mul,Nat.add_zero]at GH;have E5:Hid (∀W,Below B0 w0 W->W.cell? ⟨g,o,none⟩=some (.int .u8 yk)∧W.cell? ⟨g,o+1,none⟩=some (.int .i64 ynum)∧W.cell? ⟨g,o+2,none⟩=some (.string ynm)∧W.cell? ⟨g,o+3,none⟩=some (.slice yA yn yc)):=aA fun W hW=>⟨(hW.cell (p:=⟨g,o,none⟩) cR).trans (GH 0 _ rfl),(hW.cell (p:=⟨g,o+1,none⟩) cR).trans (GH 1 _ rfl),(hW.cell (p:=⟨g,o+2,none⟩) cR).trans (GH 2 _ rfl),(hW.cell (p:=⟨g,o+3,none⟩) cR).trans (GH 3 _ rfl)⟩
 clear GH cR;go_enter Tryz.func67,Tryz.ntmps67;go_upto_region 1 with fail;refine aB ?_;intro w1 aF;have aG:Below w.heap.size w w1:=(by rw[aF];go_grown);have K1:Blk w1 w.heap.size 26 #[.int .u8 55,.int .i64 num,.string nm,.slice (some ⟨g,o,none⟩) 1 cap]:=(by rw[aF];exact aQ);have aO:=aA aG;have a9:=aA K1;have hs1:=aG.size;have rC:=aA (H1.out w1 aG);have oM:=aA (oZ.out w.heap.size (aH _));have iL:=aA (Fr.of (O:=RO S R r) aG);have wZ:Hid (∀S5,S.Ext S5 w1->S.Ext S5 w):=aA fun S5 h=>⟨h.1,fun k hk=>h.2 k (dX hk aG.size)⟩
 obtain⟨aL,aJ,aK⟩:=K1.open_;clear aF aG K1 H1 oZ;generalize w.heap.size=bi at *;go_wp2_with fail;cases f with
 |zero=>
  obtain rfl:QT=.error 18:=tG.out.symm;have HC:=aA (g9 rC.out);unfold bZ at HC;refine HC.out.mono ?_;rintro en w4 ⟨rfl,vP⟩;have t6:=aA vP;clear vP;go_wp2_with fail;exact⟨rfl,rfl,t6.out⟩
 |succ f=>
  have Xo:Hid (m+1+f<=3000):=aA (by have:=rC.out.fm;omega);have JJ:Hid (f<n):=aA (by have:=G6.out;omega);have iN:Hid ((match cX ⟨nm,3,0⟩ [] σ with|.error e=>(.error e:Except Int (PSt×Nat))|.ok σ'=>(MB.seq (PO.seq (Bk.liftM (bU nm 0)))) σ' f)=QT):=aA (by
   rw[<-tG.out];show _=((Bk.liftM (cX ⟨nm,3,0⟩ [])).seq (MB.seq (PO.seq (Bk.liftM (bU nm 0))))) σ f;unfold Mo.seq Bk.liftM;cases cX ⟨nm,3,0⟩ [] σ<;>rfl)
  clear tG G6;refine(jN rC.out).mono ?_;rintro en w4 ⟨rfl,xI,pI⟩;have lH:=aA xI;have l9:Hid (Fr (RO S R r) w1 w4):=aA (pI.mono fun k hk=>.inr (.inl hk));clear xI pI rC aJ aL aK;have eG:=aA (l9.out.blk a9.out oM.out);have gK:Hid (∀W,Fr (RO S R r) w1 W->Blk W bi 26 #[.int .u8 55,.int .i64 num,.string nm,.slice (some ⟨g,o,none⟩) 1 cap]):=aA fun W hW=>hW.blk a9.out oM.out
  have t8:=aA (fun(y:Int)(hy:y≠0) W=>kJ (.pointer (some ⟨r,0,none⟩)) y hy W);have kC:=aA (fun W=>kI (.pointer (some ⟨r,0,none⟩)) W);unfold bZ at t8;have fN:Hid (∀W,Below w4.heap.size w4 W->Calls Tryz.prog 105 #[.pointer (some ⟨R.st,0,none⟩),.agg #[.string nm,.int .u8 3,.int .i64 0],.int .i64 0] W fun e w'=>pS w0 B0 W r R S fuel f (cX ⟨nm,3,0⟩ [] σ) e w'):=aA fun W hW=>CS (lH.out.next hW lH.out.B) nm 3 (.inr rfl) 0
  obtain⟨QO,hQO⟩:∃QO,cX ⟨nm,3,0⟩ [] σ=QO:=⟨_,rfl⟩;rw[hQO]at fN iN;have JU:=aA hQO;clear hQO;cases QO with
  |error eo=>
   obtain rfl:QT=.error eo:=iN.out.symm;unfold pS at fN;dsimp only at fN;go_wp2_with fail;refine wp_region_held_drew (S:=fun W=>Fr (RO S R r) w4 W∧W.cell? ⟨r,6,none⟩=some (.pointer (some ⟨R.st,0,none⟩))) (by kernel_rfl) (⟨(Fr.refl _ _).drew,lH.out.cell6⟩) (fun hH=>?_);refine aE ?_;intro wa bP;have hX:Below w4.heap.size w4 wa:=by rw[bP];exact(aM _ _).drew
   replace hH:=(show Fr (RO S R r) w4 wa∧wa.cell? ⟨r,6,none⟩=some (.pointer (some ⟨R.st,0,none⟩)) by rw[bP];exact hH);clear bP;refine aW 0 (v:=?_) rfl hH ?_;(try simp only[PU,aD])
   refine aW 1 (v:=?_) rfl hH ?_;(try simp only[PU,aD])
   refine aW 2 (v:=?_) rfl hH ?_;(try simp only[PU,aD])
   refine aW 3 (v:=?_) rfl hH ?_;(try simp only[PU,aD])
   refine cH 4 (v:=?_) rfl ?hy hH ?_
   case hy=>(intro bW aN;have t:=aN.2;clear aN;go_simp;try with_reducible rfl)
   (try simp only[PU,aD])
   refine aW 5 (v:=?_) rfl hH ?_;(try simp only[PU,aD])
   refine cH 6 (v:=?_) rfl ?hy hH ?_
   case hy=>(intro bW aN;have t:=(aN.1.blk eG.out oM.out).cell;clear aN;go_simp;try with_reducible rfl)
   (try simp only[PU,aD])
   refine aW 7 (v:=?_) rfl hH ?_;(try simp only[PU,aD])
   refine cE 8 (by kernel_rfl) rfl (fun K hK=>?_);go_simp;refine(fN.out _ hX).mono ?_;rintro en wb_ ⟨rfl,dG,sT,iP,h6⟩;refine hK.out _ _ ⟨(Fr.of hX).trans iP,h6⟩ (fun hH=>?_);clear hK;(try simp only[PU,aD])
   refine cE 9 (by kernel_rfl) rfl (fun K hK=>?_);go_simp;refine(t8.out _ dG _).mono ?_;rintro en wc_ ⟨rfl,rfl⟩;dsimp only;exact⟨rfl,rfl,sT⟩
  |ok σ1=>
   unfold pS at fN;dsimp only at fN iN;go_wp2_with fail;refine wp_region_held_drew (S:=fun W=>Fr (RO S R r) w4 W∧W.cell? ⟨r,6,none⟩=some (.pointer (some ⟨R.st,0,none⟩))) (by kernel_rfl) (⟨(Fr.refl _ _).drew,lH.out.cell6⟩) (fun hH=>?_);refine aE ?_;intro wa bP;have hX:Below w4.heap.size w4 wa:=by rw[bP];exact(aM _ _).drew
   replace hH:=(show Fr (RO S R r) w4 wa∧wa.cell? ⟨r,6,none⟩=some (.pointer (some ⟨R.st,0,none⟩)) by rw[bP];exact hH);clear bP;refine aW 0 (v:=?_) rfl hH ?_;(try simp only[PU,aD])
   refine aW 1 (v:=?_) rfl hH ?_;(try simp only[PU,aD])
   refine aW 2 (v:=?_) rfl hH ?_;(try simp only[PU,aD])
   refine aW 3 (v:=?_) rfl hH ?_;(try simp only[PU,aD])
   refine cH 4 (v:=?_) rfl ?hy hH ?_
   case hy=>(intro bW aN;have t:=aN.2;clear aN;go_simp;try with_reducible rfl)
   (try simp only[PU,aD])
   refine aW 5 (v:=?_) rfl hH ?_;(try simp only[PU,aD])
   refine cH 6 (v:=?_) rfl ?hy hH ?_
   case hy=>(intro bW aN;have t:=(aN.1.blk eG.out oM.out).cell;clear aN;go_simp;try with_reducible rfl)
   (try simp only[PU,aD])
   refine aW 7 (v:=?_) rfl hH ?_;(try simp only[PU,aD])
   refine cE 8 (by kernel_rfl) rfl (fun K hK=>?_);go_simp;refine(fN.out _ hX).mono ?_;rintro en wb_ ⟨rfl,⟨S5,mV,sW⟩,iP,h6⟩;refine hK.out _ _ ⟨(Fr.of hX).trans iP,h6⟩ (fun hH=>?_);clear hK;(try simp only[PU,aD])
   have tH:=aA mV;have gP:=aA sW;clear mV sW iP h6;refine cE 9 (by kernel_rfl) rfl (fun K hK=>?_);go_simp;refine(kC.out _).mono ?_;rintro en wc_ ⟨rfl,rfl⟩;refine hK.out _ _ hH (fun hH=>?_);clear hK;(try simp only[PU,aD])
   refine wpAnyH_done (by kernel_rfl) ?_ _;have nK:=aA (tH.out _ (m+1) (qN lH.out.ok (fun h=>absurd (show(3:Int)=1 from h) (by decide)) (by simp) JU.out) Xo.out (by have:=lH.out.m0;omega));have kD:Hid (S.Ext S5 w1):=aA ⟨gP.out.1,fun k hk=>gP.out.2 k (dX hk (fC l9.out.size hX.size))⟩;have s7:=aA (l9.out.trans hH.1);clear hX hH tH gP fN lH l9 eG;obtain⟨aL,aJ,aK⟩:=(gK.out _ s7.out).open_;obtain⟨c0,c1,c2,c3⟩:=E5.out _ nK.out.base;have HC:=aA (V5.out _ S5 σ1 f _ _ nK.out JJ.out);obtain⟨QB,hQB⟩:∃QB,MB σ1 f=QB:=⟨_,rfl⟩;unfold Mo.seq at iN;rw[hQB]at HC iN;clear hQB;go_wp2_with fail;cases QB with
   |error e4=>
    obtain rfl:QT=.error e4:=iN.out.symm;unfold RunP bZ at HC;dsimp only at HC;refine HC.out.mono ?_;rintro en w7 ⟨rfl,N4⟩;have JG:=aA N4;clear N4;go_wp2_with fail;exact⟨rfl,rfl,JG.out⟩
   |ok r4=>
    obtain⟨σ2,f2⟩:=r4;unfold RunP at HC;dsimp only at HC iN;refine HC.out.mono ?_;rintro en w7 ⟨rfl,S7,kd7,m7,JC,OJ,N7⟩;have X1:=aA JC;have E6:=aA (RO.fr kD.out s7.out N7);have uF:=aA (kD.out.trans OJ s7.out.size);clear JC OJ N7 HC aL aJ aK c0 c1 c2 c3 kD s7 nK;go_wp2_with fail;cases f2 with
    |zero=>
     obtain rfl:QT=.error 18:=iN.out.symm;have HC:=aA (g9 X1.out);unfold bZ at HC;refine HC.out.mono ?_;rintro en w8 ⟨rfl,vQ⟩;have V8:=aA vQ;clear vQ;go_wp2_with fail;exact⟨rfl,rfl,V8.out⟩
    |succ f3=>
     refine(jN X1.out).mono ?_;rintro en w8 ⟨rfl,hr8,lQ⟩;have j7:=aA hr8;have pR:Hid (Fr (RO S R r) w1 w8):=aA (RO.fr uF.out E6.out (lQ.mono fun k hk=>.inr (.inl hk)));have U3:=uF;have ET:Hid (¬RO S7 R r bi):=aA (RO.keep uF.out a9.out.lt oM.out);clear hr8 lQ X1;have F0:Hid ((match bU nm 0 σ2 with|.error e=>(.error e:Except Int (PSt×Nat))|.ok σ'=>.ok (σ',f3))=QT):=aA (by rw[<-iN.out];rfl);clear iN;have eG:=aA (gK.out w8 pR.out);have fN:Hid (∀W,Below w8.heap.size w8 W->Calls Tryz.prog 106 #[.pointer (some ⟨R.st,0,none⟩),.string nm,.int .i64 0] W fun e w'=>pS w0 B0 W r R S7 fuel f3 (bU nm 0 σ2) e w'):=aA fun W hW=>I7 (j7.out.next hW j7.out.B) nm 0
     obtain⟨QO,hQO⟩:∃QO,bU nm 0 σ2=QO:=⟨_,rfl⟩;rw[hQO]at fN F0;replace JU:=aA hQO;clear hQO;cases QO with
     |error eo=>
      obtain rfl:QT=.error eo:=F0.out.symm;unfold pS at fN;dsimp only at fN;go_wp2_with fail;refine wp_region_held_drew (S:=fun W=>Fr (RO S7 R r) w8 W∧W.cell? ⟨r,6,none⟩=some (.pointer (some ⟨R.st,0,none⟩))) (by kernel_rfl) (⟨(Fr.refl _ _).drew,j7.out.cell6⟩) (fun hH=>?_);refine aE ?_;intro wa bP;have hX:Below w8.heap.size w8 wa:=by rw[bP];exact(aM _ _).drew
      replace hH:=(show Fr (RO S7 R r) w8 wa∧wa.cell? ⟨r,6,none⟩=some (.pointer (some ⟨R.st,0,none⟩)) by rw[bP];exact hH);clear bP;refine aW 0 (v:=?_) rfl hH ?_;(try simp only[PU,aD])
      refine aW 1 (v:=?_) rfl hH ?_;(try simp only[PU,aD])
      refine aW 2 (v:=?_) rfl hH ?_;(try simp only[PU,aD])
      refine aW 3 (v:=?_) rfl hH ?_;(try simp only[PU,aD])
      refine cH 4 (v:=?_) rfl ?hy hH ?_
      case hy=>(intro bW aN;have t:=aN.2;clear aN;go_simp;try with_reducible rfl)
      (try simp only[PU,aD])
      refine aW 5 (v:=?_) rfl hH ?_;(try simp only[PU,aD])
      refine cH 6 (v:=?_) rfl ?hy hH ?_
      case hy=>(intro bW aN;have t:=(aN.1.blk eG.out ET.out).cell;clear aN;go_simp;try with_reducible rfl)
      (try simp only[PU,aD])
      refine cE 7 (by kernel_rfl) rfl (fun K hK=>?_);go_simp;refine(fN.out _ hX).mono ?_;rintro en wb_ ⟨rfl,dG,sT,iP,h6⟩;refine hK.out _ _ ⟨(Fr.of hX).trans iP,h6⟩ (fun hH=>?_);clear hK;(try simp only[PU,aD])
      refine cE 8 (by kernel_rfl) rfl (fun K hK=>?_);go_simp;refine(t8.out _ dG _).mono ?_;rintro en wc_ ⟨rfl,rfl⟩;dsimp only;exact⟨rfl,rfl,sT⟩
     |ok σ3=>
      obtain rfl:QT=.ok (σ3,f3):=F0.out.symm;unfold pS at fN;dsimp only at fN F0;go_wp2_with fail;refine wp_region_held_drew (S:=fun W=>Fr (RO S7 R r) w8 W∧W.cell? ⟨r,6,none⟩=some (.pointer (some ⟨R.st,0,none⟩))) (by kernel_rfl) (⟨(Fr.refl _ _).drew,j7.out.cell6⟩) (fun hH=>?_);refine aE ?_;intro wa bP;have hX:Below w8.heap.size w8 wa:=by rw[bP];exact(aM _ _).drew
      replace hH:=(show Fr (RO S7 R r) w8 wa∧wa.cell? ⟨r,6,none⟩=some (.pointer (some ⟨R.st,0,none⟩)) by rw[bP];exact hH);clear bP;refine aW 0 (v:=?_) rfl hH ?_;(try simp only[PU,aD])
      refine aW 1 (v:=?_) rfl hH ?_;(try simp only[PU,aD])
      refine aW 2 (v:=?_) rfl hH ?_;(try simp only[PU,aD])
      refine aW 3 (v:=?_) rfl hH ?_;(try simp only[PU,aD])
      refine cH 4 (v:=?_) rfl ?hy hH ?_
      case hy=>(intro bW aN;have t:=aN.2;clear aN;go_simp;try with_reducible rfl)
      (try simp only[PU,aD])
      refine aW 5 (v:=?_) rfl hH ?_;(try simp only[PU,aD])
      refine cH 6 (v:=?_) rfl ?hy hH ?_
      case hy=>(intro bW aN;have t:=(aN.1.blk eG.out ET.out).cell;clear aN;go_simp;try with_reducible rfl)
      (try simp only[PU,aD])
      refine cE 7 (by kernel_rfl) rfl (fun K hK=>?_);go_simp;refine(fN.out _ hX).mono ?_;rintro en wb_ ⟨rfl,⟨S5,mV,sW⟩,iP,h6⟩;refine hK.out _ _ ⟨(Fr.of hX).trans iP,h6⟩ (fun hH=>?_);clear hK;(try simp only[PU,aD])
      have tH:=aA mV;have gP:=aA sW;clear mV sW iP h6;refine cE 8 (by kernel_rfl) rfl (fun K hK=>?_);go_simp;refine(kC.out _).mono ?_;rintro en wc_ ⟨rfl,rfl⟩;refine hK.out _ _ hH (fun hH=>?_);clear hK;(try simp only[PU,aD])
      refine wpAnyH_done (by kernel_rfl) ?_ _;have Cx:=aA (tH.out kd7 m7 (nQ j7.out.ok JU.out) j7.out.fm j7.out.m0);have X3:Hid (S.Ext S5 w1):=aA (U3.out.trans ⟨gP.out.1,fun k hk=>gP.out.2 k (dX hk hX.size)⟩ pR.out.size);have Bn:=aA (RO.fr U3.out pR.out hH.1);clear hX hH tH gP fN eG;go_wp2_with fail;refine bodyPost_end (results_none rfl _ _ _) rfl ?_;exact⟨rfl,S5,kd7,m7,Cx.out,wZ.out _ X3.out,iL.out.trans Bn.out⟩
end
end Go.Proofs.YtakfdnnlhjhcfaaGreatDoor
