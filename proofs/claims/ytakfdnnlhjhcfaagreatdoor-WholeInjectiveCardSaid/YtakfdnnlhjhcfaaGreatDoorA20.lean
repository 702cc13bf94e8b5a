/- Part of the proof. -/
import Derived.Test.YtakfdnnlhjhcfaaGreatDoorA19
set_option linter.unusedVariables false
set_option linter.unusedSimpArgs false
set_option maxRecDepth 100000
set_option maxHeartbeats 4000000
namespace Go.Proofs.YtakfdnnlhjhcfaaGreatDoor
open Go.RowKit Bk
section
variable{w0 w w':World}{B0 r fuel f m:Nat}{R:Rn}{S:Sv}{σ:PSt}{kd:Nat->Int}
def pS(w0:World)(B0:Nat)(w:World)(r:Nat)(R:Rn)(S:Sv)(fuel f:Nat)(q:Rs)(e:Ending)(w':World):Prop:=match q with
 |.error x=>e=.returned (.int .i64 x)∧x≠0∧Bs w0 B0 R w'∧Fr (RO S R r) w w'∧w'.cell? ⟨r,6,none⟩=some (.pointer (some ⟨R.st,0,none⟩))
 |.ok σ'=>e=.returned (.int .i64 0)∧(∃S',(∀kd' m',σ'.Ok kd' m'->m'+f<=3000->32<=m'->RAt w0 B0 w' r R S' σ' fuel f kd' m')∧S.Ext S' w)∧Fr (RO S R r) w w'∧w'.cell? ⟨r,6,none⟩=some (.pointer (some ⟨R.st,0,none⟩))
theorem RAt.cell6(h:RAt w0 B0 w r R S σ fuel f kd m):w.cell? ⟨r,6,none⟩=some (.pointer (some ⟨R.st,0,none⟩)):=by rw[h.blk.cell];rfl
theorem RAt.opS(h:RAt w0 B0 w r R S σ fuel f kd m){q:Rs}{e:Ending}(hr:RetS B0 S w q e w'):pS w0 B0 w r R S fuel f q e w':=by
 have hB:=h.B;have iP:Fr S.O w w':=by cases q with
  |error x=>exact hr.2.2
  |ok σ'=>exact hr.2.2
 have Ha:¬S.O r:=fun hk=>hk h.ro
 have xA:Bs w0 B0 R w':=⟨h.base.trans (iP.below hB fun k hk=>(h.on.new k hk).1),h.kpF iP fun b h1 _ _ h2=>h2 h1⟩;have C4:=iP.blk h.blk Ha;have h6:w'.cell? ⟨r,6,none⟩=some (.pointer (some ⟨R.st,0,none⟩)):=by rw[C4.cell];rfl
 have gD:Fr (RO S R r) w w':=iP.mono fun k hk=>.inl hk
 cases q with
 |error x=>exact⟨hr.1,hr.2.1,xA,gD,h6⟩
 |ok σ'=>
  obtain⟨he,⟨S',hs',hx⟩,_⟩:=hr;refine⟨he,⟨S',fun kd' m' hok hm hm0=>?_,hx⟩,gD,h6⟩;obtain⟨g,cp,n,xs,e1,e2,e3,e4,e5⟩:=h.ent;have gR:g<w.heap.size:=bT (k:=g) e2 (by rw[e1];rfl);refine⟨xA.1,C4,hs',hok,hx.1.trans h.st,(hx.2 r h.blk.lt).trans h.ro,h.rb,⟨g,cp,n,xs,e1,bL e2 iP fun k hk=>?_,e3,(hx.2 g gR).trans e4,e5⟩,h.ff,hm,h.fu,hm0,h.kxF hx iP.size,xA.2⟩;rw[e1]at hk;injection hk with hk;subst hk;exact fun ho=>ho e4
theorem CS(h:RAt w0 B0 w r R S σ fuel f kd m)(x:ByteArray)(k:Int)(hk:k=1∨k=3)(v:Int):Calls Tryz.prog 105 #[.pointer (some ⟨R.st,0,none⟩),.agg #[.string x,.int .u8 k,.int .i64 0],.int .i64 v] w fun e w'=>pS w0 B0 w r R S fuel f (cX ⟨x,k,0⟩ (if k=1 then [v]else []) σ) e w':=by
 have hm:=h.fm;have:=Dw h.on h.B h.ok (by omega) x k hk v (by have:=h.ok.cur.loc;have:=h.ok.cur.bd;omega);rw[h.st]at this;exact this.mono fun e w' hr=>h.opS hr
theorem I7(h:RAt w0 B0 w r R S σ fuel f kd m)(x:ByteArray)(v:Int):Calls Tryz.prog 106 #[.pointer (some ⟨R.st,0,none⟩),.string x,.int .i64 v] w fun e w'=>pS w0 B0 w r R S fuel f (bU x v σ) e w':=by
 have hm:=h.fm;have:=TE h.on h.ok (by omega) x v;rw[h.st]at this;exact this.mono fun e w' hr=>h.opS hr
theorem TO{procs:List Pr}{n d:Nat}(mQ:G4 w0 B0 r R fuel procs n)(h:RAt w0 B0 w r R S σ fuel f kd m)(hf:f<n+1)(back:Bool){v:ByteArray}{e e':Ex}{b rest:Sq}{x:Nd}(hx:StAt w0 B0 (d+1) (.loc v e b e' rest) x)(hk:KV w0 B0 (d+1) x)(pT:(Sq.loc v e b e' rest).cok procs):
  Calls Tryz.prog 102 #[.pointer (some ⟨r,0,none⟩),.agg #[.int .u8 x.k,.int .i64 x.num,.string x.nm,.slice x.A x.n x.cap],.bool back] w fun en w'=>RunP w0 B0 w r R S fuel (jB procs n (execP procs n) back (.loc v e b e' rest) σ f) en w':=by
 obtain⟨aAw,hnm,U9,y0,y1,y2,k0,k1,k2,v0,b1,v2⟩:=hx;have kv:=fun i y(hi:i<3)(hy:Kid w0 B0 x i y)=>hk.kid (by rw[U9];exact hi) hy
 obtain⟨p,q,hp,hq,hE⟩:=z6 (y:=y0) (z:=y2) k0 (by rw[U9];exact k2) (by omega) (by omega) back;have HP:EV w0 B0 aS (if back then e' else e) p∧KV w0 B0 d p:=by
  subst hp;cases back
  ·exact⟨v0,kv 0 _ (by omega) k0⟩
  ·exact⟨v2,kv 2 _ (by omega) k2⟩
 have HQ:EV w0 B0 aS (if back then e else e') q∧KV w0 B0 d q:=by
  subst hq;cases back
  ·exact⟨v2,kv 2 _ (by omega) k2⟩
  ·exact⟨v0,kv 0 _ (by omega) k0⟩
 show Calls _ _ _ _ fun en w'=>RunP w0 B0 w r R S fuel ((PO.seq ((b8 (if back then e' else e) fun v1=>liftM (cX ⟨v,1,0⟩ [v1])).seq ((execP procs n back b).seq (PO.seq (b8 (if back then e else e') fun v2=>liftM (bU v v2)))))) σ f) en w'
 generalize (if back then e' else e)=E1 at *;generalize (if back then e else e')=E2 at *;have H1:Hid (∀W,Below w.heap.size w W->RAt w0 B0 W r R S σ fuel f kd m):=aA fun W hW=>h.next hW h.B
 have RS:=aA hE;have HB:=aA (show Below B0 w0 w∧B0<=w.heap.size from⟨h.base,h.B⟩);have oZ:Hid (∀b,w.heap.size<=b->¬RO S R r b):=aA fun b hb=>h.nro hb
 have Dg:=aA (fun W S' σ' f' kd' m'(h:RAt w0 B0 W r R S' σ' fuel f' kd' m')=>CW h HP.1 HP.2);have HVB:=aA (fun W S' σ' f' kd' m'(h:RAt w0 B0 W r R S' σ' fuel f' kd' m')=>CW h HQ.1 HQ.2);have V5:=aA (fun W S' σ' f' kd' m'(h:RAt w0 B0 W r R S' σ' fuel f' kd' m')(hf:f'<n)=>mQ W S' σ' f' kd' m' h hf back d b y1 b1 (kv 1 _ (by omega) k1).succ pT.1);have HL:Hid (∀σ f σ' f',f<n->execP procs n back b σ f=.ok (σ',f')->f'<=f):=aA fun σ f σ' f' h1 h2=>(Fuels.execP procs n back b σ f h1 σ' f' h2).1
 generalize execP procs n back b=MB at *;have G6:=aA hf;have HHR:=aA h;obtain⟨QT,hQT⟩:∃QT,(PO.seq ((b8 E1 fun v1=>liftM (cX ⟨v,1,0⟩ [v1])).seq (MB.seq (PO.seq (b8 E2 fun v2=>liftM (bU v v2)))))) σ f=QT:=⟨_,rfl⟩;rw[hQT];obtain⟨g,o,hA,cR,rZ⟩:=k1;clear hE mQ h hp hq HP HQ kv k0 k2 v0 v2 b1 hk aAw hf pT;obtain⟨xk,num,nm,A,nn,cap⟩:=x;obtain⟨pk,pnum,pnm,pA,pn,pc⟩:=p;obtain⟨qk,qnum,qnm,qA,qn,qc⟩:=q;obtain⟨yk,ynum,ynm,yA,yn,yc⟩:=y1;dsimp only at *;subst hA;subst U9;subst hnm;simp only[Nat.one_mul,Nat.reduceMul]at rZ;have E5:Hid (∀W,Below B0 w0 W->W.cell? ⟨g,o+4,none⟩=some (.int .u8 yk)∧W.cell? ⟨g,o+4+1,none⟩=some (.int .i64 ynum)∧W.cell? ⟨g,o+4+2,none⟩=some (.string ynm)∧W.cell? ⟨g,o+4+3,none⟩=some (.slice yA yn yc)):=aA fun W hW=>⟨(hW.cell (p:=⟨g,o+4,none⟩) cR).trans (rZ 0 _ rfl),(hW.cell (p:=⟨g,o+4+1,none⟩) cR).trans (rZ 1 _ rfl),(hW.cell (p:=⟨g,o+4+2,none⟩) cR).trans (rZ 2 _ rfl),(hW.cell (p:=⟨g,o+4+3,none⟩) cR).trans (rZ 3 _ rfl)⟩
 clear rZ cR;have tG:=aA hQT;clear hQT;go_enter Tryz.func102,Tryz.ntmps102;go_upto_region 1 with fail;refine aB ?_;intro w1 aF;have aG:Below w.heap.size w w1:=(by rw[aF];go_grown);have K1:Blk w1 w.heap.size 26 #[.int .u8 xk,.int .i64 num,.string nm,.slice (some ⟨g,o,none⟩) 3 cap]:=(by rw[aF];exact aQ);have aO:=aA aG;have a9:=aA K1;have hs1:=aG.size;obtain⟨aL,aJ,aK⟩:=K1.open_;clear aF aG K1;go_wp2_with fail;refine(RS.out w1 (HB.out.1.trans (aO.out.mono HB.out.2)) (fC HB.out.2 hs1)).mono ?_;rintro en w2 ⟨rfl,hb2⟩;have aP:=aA (aO.out.next hb2);have bI:=aA (a9.out.next hb2);have hs2:=hb2.size;clear hb2 aL aJ aK a9 aO;go_upto_region 2 with fail;refine aB ?_;intro w3 dP;have aT:Below w2.heap.size w2 w3:=(by rw[dP];go_grown);have K6:Blk w3 w2.heap.size 26 #[.int .u8 pk,.int .i64 pnum,.string pnm,.slice pA pn pc]:=(by rw[dP];exact aQ);have K7:Blk w3 (w2.heap.size+1) 26 #[.int .u8 qk,.int .i64 qnum,.string qnm,.slice qA qn qc]:=(by rw[dP];exact(Blk.new' (by simp) _ _));have bD:=aA (aP.out.next aT);have dD:=aA (bI.out.next aT);have oF:=aA K6;have E8:=aA K7;have oM:=aA (oZ.out w.heap.size (aH _));have IQ:=aA (oZ.out w2.heap.size (by omega));have Ch:=aA (oZ.out (w2.heap.size+1) (by omega));have Gn:w.heap.size<w2.heap.size:=by have:=bI.out.lt;omega
 clear dP aT K6 K7 bI aP oZ hs1;have HW3:Hid (w.heap.size<=w3.heap.size):=aA bD.out.size;have jK:=aA (Fr.of (O:=RO S R r) bD.out);have wZ:Hid (∀S5,S.Ext S5 w3->S.Ext S5 w):=aA fun S5 h=>⟨h.1,fun k hk=>h.2 k (dX hk bD.out.size)⟩
 have wY:=aA (H1.out w3 bD.out);generalize Gd:w2.heap.size+1=b7 at *;generalize w2.heap.size=b6 at *;generalize Jc:w.heap.size=bi at *;clear Gd Jc bD H1;have gK:Hid (∀W,Fr (RO S R r) w3 W->YO W bi b6 b7 26 #[.int .u8 xk,.int .i64 num,.string nm,.slice (some ⟨g,o,none⟩) 3 cap] #[.int .u8 pk,.int .i64 pnum,.string pnm,.slice pA pn pc] #[.int .u8 qk,.int .i64 qnum,.string qnm,.slice qA qn qc]):=aA fun W hW=>⟨hW.blk dD.out oM.out,hW.blk oF.out IQ.out,hW.blk E8.out Ch.out⟩
 clear dD oF E8;go_wp2_with fail;cases f with
 |zero=>
  obtain rfl:QT=.error 18:=tG.out.symm;have HC:=aA (g9 wY.out);unfold bZ at HC;refine HC.out.mono ?_;rintro en w4 ⟨rfl,vP⟩;have t6:=aA vP;clear vP;go_wp2_with fail;exact⟨rfl,rfl,t6.out⟩
 |succ f=>
  have Xo:Hid (m+1+f<=3000):=aA (by have:=wY.out.fm;omega);have JJ:Hid (f<n):=aA (by have:=G6.out;omega);have j6:Hid (((b8 E1 fun v1=>liftM (cX ⟨nm,1,0⟩ [v1])).seq (MB.seq (PO.seq (b8 E2 fun v2=>liftM (bU nm v2))))) σ f=QT):=tG;clear tG G6;refine(jN wY.out).mono ?_;rintro en w4 ⟨rfl,xI,pI⟩;have lH:=aA xI;have l9:Hid (Fr (RO S R r) w3 w4):=aA (pI.mono fun k hk=>.inr (.inl hk));clear xI pI wY;unfold Mo.seq b8 at j6;obtain⟨⟨v1,er⟩,hq⟩:∃q,aX σ.look E1=q:=⟨_,rfl⟩;rw[hq]at j6;have HV:Hid (∀W,Below w4.heap.size w4 W->Calls Tryz.prog 128 #[.pointer (some ⟨r,0,none⟩),.agg #[.int .u8 pk,.int .i64 pnum,.string pnm,.slice pA pn pc]] W fun en w'=>(if er≠0 then en=bZ er else en=.returned (.int .i64 v1))∧Below W.heap.size W w'):=aA fun W hW=>by
   have:=Dg.out W S σ f kd m (lH.out.next hW lH.out.B);rw[hq]at this;exact this
  clear hq;dsimp only at j6;have eG:=aA (gK.out w4 l9.out);by_cases h0:er=0;rotate_left
  ·rw[if_pos h0]at j6
   obtain rfl:QT=.error er:=j6.out.symm;simp only[if_pos h0]at HV;unfold bZ at HV;go_wp2_with fail;refine wp_region_held_drew (S:=fun W=>Fr (RO S R r) w4 W∧W.cell? ⟨r,6,none⟩=some (.pointer (some ⟨R.st,0,none⟩))) (by kernel_rfl) (⟨(Fr.refl _ _).drew,lH.out.cell6⟩) (fun hH=>?_);refine aE ?_;intro wa bP;have hX:Below w4.heap.size w4 wa:=by rw[bP];exact(aM _ _).drew
   replace hH:=(show Fr (RO S R r) w4 wa∧wa.cell? ⟨r,6,none⟩=some (.pointer (some ⟨R.st,0,none⟩)) by rw[bP];exact hH);clear bP;refine aW 0 (v:=?_) rfl hH ?_;(try simp only[PU,aD])
   refine aW 1 (v:=?_) rfl hH ?_;(try simp only[PU,aD])
   refine aW 2 (v:=?_) rfl hH ?_;(try simp only[PU,aD])
   refine aW 3 (v:=?_) rfl hH ?_;(try simp only[PU,aD])
   refine cH 4 (v:=?_) rfl ?hy hH ?_
   case hy=>(intro bW aN;have t:=aN.2;clear aN;go_simp;try with_reducible rfl)
   (try simp only[PU,aD])
   refine aW 5 (v:=?_) rfl hH ?_;(try simp only[PU,aD])
   refine cH 6 (v:=?_) rfl ?hy hH ?_
   case hy=>(intro bW aN;have t:=(aN.1.blk (eG.out).1 oM.out).cell;clear aN;go_simp;try with_reducible rfl)
   (try simp only[PU,aD])
   refine aW 7 (v:=?_) rfl hH ?_;(try simp only[PU,aD])
   refine aW 8 (v:=?_) rfl hH ?_;(try simp only[PU,aD])
   refine cH 9 (v:=?_) rfl ?hy hH ?_
   case hy=>(intro bW aN;have t:=(aN.1.blk (eG.out).2.1 IQ.out).cell;clear aN;go_simp;try with_reducible rfl)
   (try simp only[PU,aD])
   refine cE 10 (by kernel_rfl) rfl (fun K hK=>?_);go_simp;refine(HV.out _ hX).mono ?_;rintro en wb_ ⟨rfl,aR⟩;dsimp only;exact⟨rfl,rfl,(lH.out.next (hX.next aR) lH.out.B).bs⟩
  subst h0;simp only[ne_eq,not_true_eq_false,if_false]at HV j6;have iN:Hid ((match cX ⟨nm,1,0⟩ [v1] σ with|.error e=>(.error e:Except Int (PSt×Nat))|.ok σ'=>(MB.seq (PO.seq (b8 E2 fun v2=>liftM (bU nm v2)))) σ' f)=QT):=aA (by rw[<-j6.out];unfold Bk.liftM;cases cX ⟨nm,1,0⟩ [v1] σ<;>rfl);have fN:Hid (∀W,Below w4.heap.size w4 W->Calls Tryz.prog 105 #[.pointer (some ⟨R.st,0,none⟩),.agg #[.string nm,.int .u8 1,.int .i64 0],.int .i64 v1] W fun e w'=>pS w0 B0 W r R S fuel f (cX ⟨nm,1,0⟩ [v1] σ) e w'):=aA fun W hW=>CS (lH.out.next hW lH.out.B) nm 1 (.inl rfl) v1
  obtain⟨QO,hQO⟩:∃QO,cX ⟨nm,1,0⟩ [v1] σ=QO:=⟨_,rfl⟩;rw[hQO]at fN iN;have JU:=aA hQO;have t8:=aA (fun(y:Int)(hy:y≠0) W=>kJ (.pointer (some ⟨r,0,none⟩)) y hy W);have kC:=aA (fun W=>kI (.pointer (some ⟨r,0,none⟩)) W);unfold bZ at t8;clear hQO j6;cases QO with
  |error eo=>
   obtain rfl:QT=.error eo:=iN.out.symm;unfold pS at fN;dsimp only at fN;go_wp2_with fail;refine wp_region_held_drew (S:=fun W=>Fr (RO S R r) w4 W∧W.cell? ⟨r,6,none⟩=some (.pointer (some ⟨R.st,0,none⟩))) (by kernel_rfl) (⟨(Fr.refl _ _).drew,lH.out.cell6⟩) (fun hH=>?_);refine aE ?_;intro wa bP;have hX:Below w4.heap.size w4 wa:=by rw[bP];exact(aM _ _).drew
   replace hH:=(show Fr (RO S R r) w4 wa∧wa.cell? ⟨r,6,none⟩=some (.pointer (some ⟨R.st,0,none⟩)) by rw[bP];exact hH);clear bP;refine aW 0 (v:=?_) rfl hH ?_;(try simp only[PU,aD])
   refine aW 1 (v:=?_) rfl hH ?_;(try simp only[PU,aD])
   refine aW 2 (v:=?_) rfl hH ?_;(try simp only[PU,aD])
   refine aW 3 (v:=?_) rfl hH ?_;(try simp only[PU,aD])
   refine cH 4 (v:=?_) rfl ?hy hH ?_
   case hy=>(intro bW aN;have t:=aN.2;clear aN;go_simp;try with_reducible rfl)
   (try simp only[PU,aD])
   refine aW 5 (v:=?_) rfl hH ?_;(try simp only[PU,aD])
   refine cH 6 (v:=?_) rfl ?hy hH ?_
   case hy=>(intro bW aN;have t:=(aN.1.blk (eG.out).1 oM.out).cell;clear aN;go_simp;try with_reducible rfl)
   (try simp only[PU,aD])
   refine aW 7 (v:=?_) rfl hH ?_;(try simp only[PU,aD])
   refine aW 8 (v:=?_) rfl hH ?_;(try simp only[PU,aD])
   refine cH 9 (v:=?_) rfl ?hy hH ?_
   case hy=>(intro bW aN;have t:=(aN.1.blk (eG.out).2.1 IQ.out).cell;clear aN;go_simp;try with_reducible rfl)
   (try simp only[PU,aD])
   refine cE 10 (by kernel_rfl) rfl (fun K hK=>?_);go_simp;refine(HV.out _ hX).mono ?_;rintro en wb_ ⟨rfl,aR⟩;replace hX:=hX.next aR;refine hK.out _ _ ⟨Fr.of hX,(lH.out.next hX lH.out.B).cell6⟩ (fun hH=>?_);clear hK;(try simp only[PU,aD])
   clear aR;refine cE 11 (by kernel_rfl) rfl (fun K hK=>?_);go_simp;refine(fN.out _ hX).mono ?_;rintro en wc_ ⟨rfl,dG,sT,iP,h6⟩;refine hK.out _ _ ⟨(Fr.of hX).trans iP,h6⟩ (fun hH=>?_);clear hK;(try simp only[PU,aD])
   refine cE 12 (by kernel_rfl) rfl (fun K hK=>?_);go_simp;refine(t8.out _ dG _).mono ?_;rintro en wd_ ⟨rfl,rfl⟩;dsimp only;exact⟨rfl,rfl,sT⟩
  |ok σ1=>
   unfold pS at fN;dsimp only at fN iN;go_wp2_with fail;refine wp_region_held_drew (S:=fun W=>Fr (RO S R r) w4 W∧W.cell? ⟨r,6,none⟩=some (.pointer (some ⟨R.st,0,none⟩))) (by kernel_rfl) (⟨(Fr.refl _ _).drew,lH.out.cell6⟩) (fun hH=>?_);refine aE ?_;intro wa bP;have hX:Below w4.heap.size w4 wa:=by rw[bP];exact(aM _ _).drew
   replace hH:=(show Fr (RO S R r) w4 wa∧wa.cell? ⟨r,6,none⟩=some (.pointer (some ⟨R.st,0,none⟩)) by rw[bP];exact hH);clear bP;refine aW 0 (v:=?_) rfl hH ?_;(try simp only[PU,aD])
   refine aW 1 (v:=?_) rfl hH ?_;(try simp only[PU,aD])
   refine aW 2 (v:=?_) rfl hH ?_;(try simp only[PU,aD])
   refine aW 3 (v:=?_) rfl hH ?_;(try simp only[PU,aD])
   refine cH 4 (v:=?_) rfl ?hy hH ?_
   case hy=>(intro bW aN;have t:=aN.2;clear aN;go_simp;try with_reducible rfl)
   (try simp only[PU,aD])
   refine aW 5 (v:=?_) rfl hH ?_;(try simp only[PU,aD])
   refine cH 6 (v:=?_) rfl ?hy hH ?_
   case hy=>(intro bW aN;have t:=(aN.1.blk (eG.out).1 oM.out).cell;clear aN;go_simp;try with_reducible rfl)
   (try simp only[PU,aD])
   refine aW 7 (v:=?_) rfl hH ?_;(try simp only[PU,aD])
   refine aW 8 (v:=?_) rfl hH ?_;(try simp only[PU,aD])
   refine cH 9 (v:=?_) rfl ?hy hH ?_
   case hy=>(intro bW aN;have t:=(aN.1.blk (eG.out).2.1 IQ.out).cell;clear aN;go_simp;try with_reducible rfl)
   (try simp only[PU,aD])
   refine cE 10 (by kernel_rfl) rfl (fun K hK=>?_);go_simp;refine(HV.out _ hX).mono ?_;rintro en wb_ ⟨rfl,aR⟩;replace hX:=hX.next aR;refine hK.out _ _ ⟨Fr.of hX,(lH.out.next hX lH.out.B).cell6⟩ (fun hH=>?_);clear hK;(try simp only[PU,aD])
   clear aR;refine cE 11 (by kernel_rfl) rfl (fun K hK=>?_);go_simp;refine(fN.out _ hX).mono ?_;rintro en wc_ ⟨rfl,⟨S5,mV,sW⟩,iP,h6⟩;refine hK.out _ _ ⟨(Fr.of hX).trans iP,h6⟩ (fun hH=>?_);clear hK;(try simp only[PU,aD])
   have tH:=aA mV;have gP:=aA sW;clear mV sW iP h6;refine cE 12 (by kernel_rfl) rfl (fun K hK=>?_);go_simp;refine(kC.out _).mono ?_;rintro en wd_ ⟨rfl,rfl⟩;refine hK.out _ _ hH (fun hH=>?_);clear hK;(try simp only[PU,aD])
   refine wpAnyH_done (by kernel_rfl) ?_ _;have nK:=aA (tH.out _ (m+1) (qN lH.out.ok (fun _=>rfl) (by simp) JU.out) Xo.out (by have:=lH.out.m0;omega));have kD:Hid (S.Ext S5 w3):=aA ⟨gP.out.1,fun k hk=>gP.out.2 k (dX hk (fC l9.out.size hX.size))⟩;have s7:=aA (l9.out.trans hH.1);clear hX hH tH gP fN HV lH l9 eG;obtain⟨K1,K6,K7⟩:=gK.out _ s7.out;obtain⟨aL,aJ,aK⟩:=K1.open_;obtain⟨c0,c1,c2,c3⟩:=E5.out _ nK.out.base;have HC:=aA (V5.out _ S5 σ1 f _ _ nK.out JJ.out);obtain⟨QB,hQB⟩:∃QB,MB σ1 f=QB:=⟨_,rfl⟩;unfold Mo.seq at iN;rw[hQB]at HC iN;clear hQB K1 K6 K7;go_wp2_with fail;cases QB with
   |error e4=>
    obtain rfl:QT=.error e4:=iN.out.symm;unfold RunP bZ at HC;dsimp only at HC;refine HC.out.mono ?_;rintro en w7 ⟨rfl,N4⟩;have JG:=aA N4;clear N4;go_wp2_with fail;exact⟨rfl,rfl,JG.out⟩
   |ok r4=>
    obtain⟨σ2,f2⟩:=r4;unfold RunP at HC;dsimp only at HC iN;refine HC.out.mono ?_;rintro en w7 ⟨rfl,S7,kd7,m7,JC,OJ,N7⟩;have X1:=aA JC;have E6:=aA (RO.fr kD.out s7.out N7);have uF:=aA (kD.out.trans OJ s7.out.size);clear JC OJ N7 HC aL aJ aK c0 c1 c2 c3 kD s7 nK;go_wp2_with fail;cases f2 with
    |zero=>
     obtain rfl:QT=.error 18:=iN.out.symm;have HC:=aA (g9 X1.out);unfold bZ at HC;refine HC.out.mono ?_;rintro en w8 ⟨rfl,vQ⟩;have V8:=aA vQ;clear vQ;go_wp2_with fail;exact⟨rfl,rfl,V8.out⟩
    |succ f3=>
     refine(jN X1.out).mono ?_;rintro en w8 ⟨rfl,hr8,lQ⟩;have j7:=aA hr8;have pR:Hid (Fr (RO S R r) w3 w8):=aA (RO.fr uF.out E6.out (lQ.mono fun k hk=>.inr (.inl hk)));have U3:=uF;have ET:Hid (¬RO S7 R r bi):=aA (RO.keep uF.out (gK.out w3 (Fr.refl _ _)).1.lt oM.out);have Ci:Hid (¬RO S7 R r b7):=aA (RO.keep uF.out (gK.out w3 (Fr.refl _ _)).2.2.lt Ch.out);clear hr8 lQ X1;have EY:Hid (((b8 E2 fun v2=>liftM (bU nm v2)) σ2 f3)=QT):=iN;unfold b8 at EY;obtain⟨⟨v2,er2⟩,hq2⟩:∃q,aX σ2.look E2=q:=⟨_,rfl⟩;rw[hq2]at EY;have HV:Hid (∀W,Below w8.heap.size w8 W->Calls Tryz.prog 128 #[.pointer (some ⟨r,0,none⟩),.agg #[.int .u8 qk,.int .i64 qnum,.string qnm,.slice qA qn qc]] W fun en w'=>(if er2≠0 then en=bZ er2 else en=.returned (.int .i64 v2))∧Below W.heap.size W w'):=aA fun W hW=>by
      have:=HVB.out W S7 σ2 f3 kd7 m7 (j7.out.next hW j7.out.B);rw[hq2]at this;exact this
     clear hq2 iN;dsimp only at EY;have eG:=aA (gK.out w8 pR.out);by_cases h0:er2=0;rotate_left
     ·rw[if_pos h0]at EY
      obtain rfl:QT=.error er2:=EY.out.symm;simp only[if_pos h0]at HV;unfold bZ at HV;go_wp2_with fail;refine wp_region_held_drew (S:=fun W=>Fr (RO S7 R r) w8 W∧W.cell? ⟨r,6,none⟩=some (.pointer (some ⟨R.st,0,none⟩))) (by kernel_rfl) (⟨(Fr.refl _ _).drew,j7.out.cell6⟩) (fun hH=>?_);refine aE ?_;intro wa bP;have hX:Below w8.heap.size w8 wa:=by rw[bP];exact(aM _ _).drew
      replace hH:=(show Fr (RO S7 R r) w8 wa∧wa.cell? ⟨r,6,none⟩=some (.pointer (some ⟨R.st,0,none⟩)) by rw[bP];exact hH);clear bP;refine aW 0 (v:=?_) rfl hH ?_;(try simp only[PU,aD])
      refine aW 1 (v:=?_) rfl hH ?_;(try simp only[PU,aD])
      refine aW 2 (v:=?_) rfl hH ?_;(try simp only[PU,aD])
      refine aW 3 (v:=?_) rfl hH ?_;(try simp only[PU,aD])
      refine cH 4 (v:=?_) rfl ?hy hH ?_
      case hy=>(intro bW aN;have t:=aN.2;clear aN;go_simp;try with_reducible rfl)
      (try simp only[PU,aD])
      refine aW 5 (v:=?_) rfl hH ?_;(try simp only[PU,aD])
      refine cH 6 (v:=?_) rfl ?hy hH ?_
      case hy=>(intro bW aN;have t:=(aN.1.blk (eG.out).1 ET.out).cell;clear aN;go_simp;try with_reducible rfl)
      (try simp only[PU,aD])
      refine aW 7 (v:=?_) rfl hH ?_;(try simp only[PU,aD])
      refine cH 8 (v:=?_) rfl ?hy hH ?_
      case hy=>(intro bW aN;have t:=(aN.1.blk (eG.out).2.2 Ci.out).cell;clear aN;go_simp;try with_reducible rfl)
      (try simp only[PU,aD])
      refine cE 9 (by kernel_rfl) rfl (fun K hK=>?_);go_simp;refine(HV.out _ hX).mono ?_;rintro en wb_ ⟨rfl,aR⟩;dsimp only;exact⟨rfl,rfl,(j7.out.next (hX.next aR) j7.out.B).bs⟩
     subst h0;simp only[ne_eq,not_true_eq_false,if_false]at HV EY;have F0:Hid ((match bU nm v2 σ2 with|.error e=>(.error e:Except Int (PSt×Nat))|.ok σ'=>.ok (σ',f3))=QT):=aA (by rw[<-EY.out];unfold Bk.liftM;cases bU nm v2 σ2<;>rfl);have fN:Hid (∀W,Below w8.heap.size w8 W->Calls Tryz.prog 106 #[.pointer (some ⟨R.st,0,none⟩),.string nm,.int .i64 v2] W fun e w'=>pS w0 B0 W r R S7 fuel f3 (bU nm v2 σ2) e w'):=aA fun W hW=>I7 (j7.out.next hW j7.out.B) nm v2
     obtain⟨QO,hQO⟩:∃QO,bU nm v2 σ2=QO:=⟨_,rfl⟩;rw[hQO]at fN F0;replace JU:=aA hQO;clear hQO EY;cases QO with
     |error eo=>
      obtain rfl:QT=.error eo:=F0.out.symm;unfold pS at fN;dsimp only at fN;go_wp2_with fail;refine wp_region_held_drew (S:=fun W=>Fr (RO S7 R r) w8 W∧W.cell? ⟨r,6,none⟩=some (.pointer (some ⟨R.st,0,none⟩))) (by kernel_rfl) (⟨(Fr.refl _ _).drew,j7.out.cell6⟩) (fun hH=>?_);refine aE ?_;intro wa bP;have hX:Below w8.heap.size w8 wa:=by rw[bP];exact(aM _ _).drew
      replace hH:=(show Fr (RO S7 R r) w8 wa∧wa.cell? ⟨r,6,none⟩=some (.pointer (some ⟨R.st,0,none⟩)) by rw[bP];exact hH);clear bP;refine aW 0 (v:=?_) rfl hH ?_;(try simp only[PU,aD])
      refine aW 1 (v:=?_) rfl hH ?_;(try simp only[PU,aD])
      refine aW 2 (v:=?_) rfl hH ?_;(try simp only[PU,aD])
      refine aW 3 (v:=?_) rfl hH ?_;(try simp only[PU,aD])
      refine cH 4 (v:=?_) rfl ?hy hH ?_
      case hy=>(intro bW aN;have t:=aN.2;clear aN;go_simp;try with_reducible rfl)
      (try simp only[PU,aD])
      refine aW 5 (v:=?_) rfl hH ?_;(try simp only[PU,aD])
      refine cH 6 (v:=?_) rfl ?hy hH ?_
      case hy=>(intro bW aN;have t:=(aN.1.blk (eG.out).1 ET.out).cell;clear aN;go_simp;try with_reducible rfl)
      (try simp only[PU,aD])
      refine aW 7 (v:=?_) rfl hH ?_;(try simp only[PU,aD])
      refine cH 8 (v:=?_) rfl ?hy hH ?_
      case hy=>(intro bW aN;have t:=(aN.1.blk (eG.out).2.2 Ci.out).cell;clear aN;go_simp;try with_reducible rfl)
      (try simp only[PU,aD])
      refine cE 9 (by kernel_rfl) rfl (fun K hK=>?_);go_simp;refine(HV.out _ hX).mono ?_;rintro en wb_ ⟨rfl,aR⟩;replace hX:=hX.next aR;refine hK.out _ _ ⟨Fr.of hX,(j7.out.next hX j7.out.B).cell6⟩ (fun hH=>?_);clear hK;(try simp only[PU,aD])
      clear aR;refine cE 10 (by kernel_rfl) rfl (fun K hK=>?_);go_simp;refine(fN.out _ hX).mono ?_;rintro en wc_ ⟨rfl,dG,sT,iP,h6⟩;refine hK.out _ _ ⟨(Fr.of hX).trans iP,h6⟩ (fun hH=>?_);clear hK;(try simp only[PU,aD])
      refine cE 11 (by kernel_rfl) rfl (fun K hK=>?_);go_simp;refine(t8.out _ dG _).mono ?_;rintro en wd_ ⟨rfl,rfl⟩;dsimp only;exact⟨rfl,rfl,sT⟩
     |ok σ3=>
      obtain rfl:QT=.ok (σ3,f3):=F0.out.symm;unfold pS at fN;dsimp only at fN F0;go_wp2_with fail;refine wp_region_held_drew (S:=fun W=>Fr (RO S7 R r) w8 W∧W.cell? ⟨r,6,none⟩=some (.pointer (some ⟨R.st,0,none⟩))) (by kernel_rfl) (⟨(Fr.refl _ _).drew,j7.out.cell6⟩) (fun hH=>?_);refine aE ?_;intro wa bP;have hX:Below w8.heap.size w8 wa:=by rw[bP];exact(aM _ _).drew
      replace hH:=(show Fr (RO S7 R r) w8 wa∧wa.cell? ⟨r,6,none⟩=some (.pointer (some ⟨R.st,0,none⟩)) by rw[bP];exact hH);clear bP;refine aW 0 (v:=?_) rfl hH ?_;(try simp only[PU,aD])
      refine aW 1 (v:=?_) rfl hH ?_;(try simp only[PU,aD])
      refine aW 2 (v:=?_) rfl hH ?_;(try simp only[PU,aD])
      refine aW 3 (v:=?_) rfl hH ?_;(try simp only[PU,aD])
      refine cH 4 (v:=?_) rfl ?hy hH ?_
      case hy=>(intro bW aN;have t:=aN.2;clear aN;go_simp;try with_reducible rfl)
      (try simp only[PU,aD])
      refine aW 5 (v:=?_) rfl hH ?_;(try simp only[PU,aD])
      refine cH 6 (v:=?_) rfl ?hy hH ?_
      case hy=>(intro bW aN;have t:=(aN.1.blk (eG.out).1 ET.out).cell;clear aN;go_simp;try with_reducible rfl)
      (try simp only[PU,aD])
      refine aW 7 (v:=?_) rfl hH ?_;(try simp only[PU,aD])
      refine cH 8 (v:=?_) rfl ?hy hH ?_
      case hy=>(intro bW aN;have t:=(aN.1.blk (eG.out).2.2 Ci.out).cell;clear aN;go_simp;try with_reducible rfl)
      (try simp only[PU,aD])
      refine cE 9 (by kernel_rfl) rfl (fun K hK=>?_);go_simp;refine(HV.out _ hX).mono ?_;rintro en wb_ ⟨rfl,aR⟩;replace hX:=hX.next aR;refine hK.out _ _ ⟨Fr.of hX,(j7.out.next hX j7.out.B).cell6⟩ (fun hH=>?_);clear hK;(try simp only[PU,aD])
      clear aR;refine cE 10 (by kernel_rfl) rfl (fun K hK=>?_);go_simp;refine(fN.out _ hX).mono ?_;rintro en wc_ ⟨rfl,⟨S5,mV,sW⟩,iP,h6⟩;refine hK.out _ _ ⟨(Fr.of hX).trans iP,h6⟩ (fun hH=>?_);clear hK;(try simp only[PU,aD])
      have tH:=aA mV;have gP:=aA sW;clear mV sW iP h6;refine cE 11 (by kernel_rfl) rfl (fun K hK=>?_);go_simp;refine(kC.out _).mono ?_;rintro en wd_ ⟨rfl,rfl⟩;refine hK.out _ _ hH (fun hH=>?_);clear hK;(try simp only[PU,aD])
      refine wpAnyH_done (by kernel_rfl) ?_ _;have Cx:=aA (tH.out kd7 m7 (nQ j7.out.ok JU.out) j7.out.fm j7.out.m0);have X3:Hid (S.Ext S5 w3):=aA (U3.out.trans ⟨gP.out.1,fun k hk=>gP.out.2 k (dX hk hX.size)⟩ pR.out.size);have Bn:=aA (RO.fr U3.out pR.out hH.1);clear hX hH tH gP fN HV eG;go_wp2_with fail;refine bodyPost_end (results_none rfl _ _ _) rfl ?_;exact⟨rfl,S5,kd7,m7,Cx.out,wZ.out _ X3.out,jK.out.trans Bn.out⟩
end
end Go.Proofs.YtakfdnnlhjhcfaaGreatDoor
