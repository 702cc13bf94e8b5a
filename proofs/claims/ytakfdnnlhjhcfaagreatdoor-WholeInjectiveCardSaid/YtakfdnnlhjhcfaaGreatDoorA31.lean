/- Part of the proof. -/
import Derived.Test.YtakfdnnlhjhcfaaGreatDoorA30
set_option linter.unusedVariables false
set_option linter.unusedSimpArgs false
set_option maxRecDepth 100000
set_option maxHeartbeats 8000000
namespace Go.Proofs.YtakfdnnlhjhcfaaGreatDoor
open Go.RowKit Bk
structure ProgAt(w:World)(B d:Nat)(V:Option Addr)(nv cv:Nat)(Q:Option Addr)(nq cq:Nat)(m:Nd)(p:Pg)(pcs:List Pc):Prop where
 hB:B<=w.heap.size
 vars:VsAt w B V p.vars
 hnv:p.vars.length=nv
 procs:PrsAt w B (d+1) Q pcs
 hnq:pcs.length=nq
 hnq2:nq<=1000
 len:p.procs.length=nq
 pr:∀(i:Nat)(c:Pc)(u:Pr),pcs[i]?=some c->p.procs[i]?=some u->c.nm=u.nm∧c.vs=u.params∧SqAt w B d u.body c.body∧c.vs.length<=8∧u.body.cok p.procs
 main:SqAt w B d p.main m
 kv:KV w B (d+1) m
 cok:p.main.cok p.procs
 valid:∀W,Below B w W->Calls Tryz.prog 16 #[.agg #[.slice V nv cv,.slice Q nq cq,.int .u8 m.k,.int .i64 m.num,.string m.nm,.slice m.A m.n m.cap]] W fun e w'=>e=.returned (.bool true)∧Below W.heap.size W w'
 check:∀W,Below B w W->Calls Tryz.prog 17 #[.agg #[.slice V nv cv,.slice Q nq cq,.int .u8 m.k,.int .i64 m.num,.string m.nm,.slice m.A m.n m.cap]] W fun e w'=>∃A c,e=.returned (.slice A 0 c)∧Below W.heap.size W w'
theorem J5{Q:Program}{f:FuncId}{args:Array Value}{R:Ending->World->Prop}{w:World}(h:∀w',w'=w->Calls Q f args w' R):Calls Q f args w R:=h w rfl
theorem kX{P:Program}{fn:Func}{p u:Tmp}{ty:TypeId}(h:fn.results=#[.tmp u,.cell p ty])(tmps:Array Value)(w:World)(g:Nat)(t:TypeId)(cs:Array Value)(d:TypeDesc)
  (hp:tmps.getD p undef=.pointer (some ⟨g,0,none⟩)) (hg:Blk w g t cs) (hu:P.underlying ty=some d) (hd:(match d with|.struct _|.array _ _=>true|_=>false)=true) (hi:(P.info? ty).map (·.size)=some cs.size):
  (results fn tmps).run P w=.ok (.tuple #[tmps.getD u undef,.agg cs]) w:=by
 simp only[results,h];simp only[Array.getD_eq_getD_getElem?]at hp⊢;simp[Sem.run_bind,Result.andThen,hp,asAddr,run_loadVar_row w g t ty cs (0,0) d hg hu hd hi]
theorem jT:(Tryz.prog.info? 41).map (·.size)=some 5:=by kernel_rfl
def ResP(cs:List (List Int))(inp out:List Int)(fuel:Nat)(q:Except Int (PSt×Nat))(v:Value)(lo:Nat)(w:World):Prop:=match q with
 |.error x=>∃uC uI uO,v=.agg #[uC,uI,uO,.int .i64 0,.int .i64 x]∧SW w (fun k=>lo<=k∧k<w.heap.size) uC uI uO cs inp out
 |.ok p=>∃uC uI uO,v=.agg #[uC,uI,uO,.int .i64 ((fuel:Int)-p.2),.int .i64 0]∧SW w (fun k=>lo<=k∧k<w.heap.size) uC uI uO p.1.fin p.1.inp p.1.out
def Dm(cs:List (List Int))(inp out:List Int)(fuel:Nat)(q:Except Int (PSt×Nat))(w:World)(e:Ending)(w':World):Prop:=∃u v,e=.returned (.tuple #[u,v])∧ResP cs inp out fuel q v w.heap.size w'∧Below w.heap.size w w'
section
variable{w w':World}{B:Nat}
theorem CV{d nv cv nq cq fuel:Nat}{V Q:Option Addr}{m:Nd}{p:Pg}{pcs:List Pc}(hp:ProgAt w B d V nv cv Q nq cq m p pcs){vC vI vO:Value}{cs:List (List Int)}{inp out:List Int}(hS:SW w (·<B) vC vI vO cs inp out)(eN:eS p.vars cs inp out=true)(NO:fuel<=2000)(back:Bool)(hb:Below B w w'):
  Calls Tryz.prog 20 #[.agg #[.slice V nv cv,.slice Q nq cq,.int .u8 m.k,.int .i64 m.num,.string m.nm,.slice m.A m.n m.cap],.agg #[vC,vI,vO],.int .i64 fuel,.bool back] w' fun e w''=>Dm cs inp out fuel (fA p back cs inp out fuel) w' e w'':=by
 have FA:=aA (fun W hW=>hp.valid W hW);have XU:=aA (fun W hW=>hp.check W hW);have HNW:=aA (fun W hW=>Y7 (cv:=cv) hp.hB hp.vars hp.hnv hS eN W hW);have hok:=m6 eN;have HSC:=aA (fun W(hW:Below B w W)=>FG (w:=W) (hS.next hW) (by have:=hW.size;have:=hp.hB;omega) (by
  have hc:=hok.base.len;have:=hok.base.bd;have h2:cs.length=p.vars.length:=by
   unfold eS at eN;simp only[Bool.and_eq_true,decide_eq_true_eq]at eN;exact eN.2.1
  have h3:p.vars.length<=32:=this;omega) (fun l hl=>by
  obtain⟨i,hi⟩:=List.mem_iff_getElem?.1 hl;have:=(hok.one i l hi).2;omega) (by have:inp.length<=4096:=hok.inp;omega) (by have:out.length<=4096:=hok.out;omega))
 have HP:=aA hp;have HF:=aA eN;have HB:=aA hb;have Im:=aA hok;have yJ:B<=w'.heap.size:=by have:=hb.size;have:=hp.hB;omega
 have hnq:=hp.hnq2;obtain⟨AC,nc,cC,rfl⟩:∃A n c,vC=.slice A n c:=by obtain⟨sv,⟨A,c,e,_⟩,_⟩:=hS.row;exact⟨A,_,c,e⟩
 obtain⟨AI,ni,cI,rfl⟩:∃A n c,vI=.slice A n c:=by obtain⟨A,c,e,_⟩:=hS.inp;exact⟨A,_,c,e⟩
 obtain⟨AO,no,cO,rfl⟩:∃A n c,vO=.slice A n c:=by obtain⟨A,c,e,_⟩:=hS.out;exact⟨A,_,c,e⟩
 obtain⟨QR,hQR⟩:∃q,fA p back cs inp out fuel=q:=⟨_,rfl⟩;have Cu:=aA hQR;rw[hQR];clear hp hS eN hb hok hQR;obtain⟨mk,mnum,mnm,mA,mn,mc⟩:=m;dsimp only at *;obtain⟨ie,li,lz,ls,lb⟩:=info_parts vW;have mkE:∀W:World,(Instr.makeSlice 30 (.int .i64 (nq:Int)) (.int .i64 (nq:Int))).run Tryz.prog W=.ok (.slice (some ⟨W.heap.size,0,none⟩) nq nq) (W.alloc (.cells (madeCells #[.int .i64 0] nq) 3)):=fun W=>by
  have:=kA (P:=Tryz.prog) 30 3 ie _ Tryz.underlying30 li lz .i64 .i64 nq nq (aH _) (by rw[lb];omega) (by omega) W;rw[ls,Nat.mul_one]at this;exact this
 have hmf:∀(fn:Fn)(first cap:Array Value)(w:World),(Instr.makeFunc fn first cap).run Tryz.prog w=.ok (.func fn first cap) w:=fun _ _ _ _=>rfl
 clear li lz ls lb;go_enter Tryz.func20,Tryz.ntmps20;go_upto_region 1 with fail;refine aB ?_;intro w1 aF;have aG:Below w'.heap.size w' w1:=(by rw[aF];go_grown);have K4:Blk w1 w'.heap.size 28 #[.slice V nv cv,.slice Q nq cq,.int .u8 mk,.int .i64 mnum,.string mnm,.slice mA mn mc]:=(by rw[aF];exact aQ);have K5:Blk w1 (w'.heap.size+1) 32 #[.slice AC nc cC,.slice AI ni cI,.slice AO no cO]:=(by rw[aF];exact(((Blk.new' (by simp) _ _).alloc _).alloc _));have K7:Blk w1 (w'.heap.size+1+1) 4 #[.bool back]:=(by rw[aF];exact((Blk.new' (by simp) _ _).alloc _));have K9:Blk w1 (w'.heap.size+1+1+1) 41 #[.slice none 0 0,.slice none 0 0,.slice none 0 0,.int .i64 0,.int .i64 0]:=(by rw[aF];exact(Blk.new' (by simp) _ _));have eG:=aA K4;have lX:=aA K5;have E8:=aA K7;have JN:=aA K9;have aO:=aA aG;have hs1:=K9.lt;clear aF aG K4 K5 K7 K9;obtain⟨tE,s9,s6⟩:=eG.out.open_;go_wp2_with fail;refine(FA.out w1 (HB.out.trans (aO.out.mono yJ))).mono ?_;rintro en w2 ⟨rfl,hb2⟩;have aP:=aA (aO.out.next hb2);have zK:=aA hb2;clear tE s9 s6 hb2;obtain⟨tE,s9,s6⟩:=(eG.out.next zK.out).open_;go_wp2_with fail;refine(XU.out w2 (HB.out.trans (aP.out.mono yJ))).mono ?_;rintro en w3 ⟨A0,c0,rfl,aT⟩;have bD:=aA (aP.out.next aT);have F6:=aA (zK.out.next aT);have ZN:=F6.out.size;clear tE s9 s6 aT aP zK FA XU;obtain⟨tE,s9,s6⟩:=(eG.out.next F6.out).open_
 obtain⟨D9,zN,zF⟩:=(lX.out.next F6.out).open_;go_wp2_with fail;refine(HNW.out w3 (HB.out.trans (bD.out.mono yJ))).mono ?_;rintro en w4 ⟨S,B1,rfl,QZ,lO,bV⟩;have dQ:=aA (bD.out.next bV);have lZ:=aA (F6.out.next bV);have W7:=aA QZ;have ZO:=bV.size;have aAW:B1<=w4.heap.size:=fC (QZ.new _ (show S.ro S.st≠ .none by rw[QZ.rst];simp)).1 (Nat.le_of_lt QZ.top.lt);clear tE s9 s6 D9 zN zF bV QZ bD F6 HNW;obtain⟨tE,s9,s6⟩:=(eG.out.next lZ.out).open_;have Bw:=aA (eG.out.next lZ.out);go_upto_region 6 with fail
 go_cut [12] (fun v12 wx=>∃r eg b12,v12=.pointer (some ⟨b12,0,none⟩)∧Blk wx b12 84 #[.pointer (some ⟨r,0,none⟩)]∧Blk wx r 86 #[.slice V nv cv,.slice Q nq cq,.int .u8 mk,.int .i64 mnum,.string mnm,.slice mA mn mc,.pointer (some ⟨S.st,0,none⟩),.int .i64 0,.int .i64 fuel,.slice (some ⟨eg,0,none⟩) nq nq]∧Blk wx eg 3 (madeCells #[.int .i64 0] nq)∧(w4.heap.size<=r∧w4.heap.size<=eg∧w4.heap.size<=b12)∧(eg≠r∧b12≠r∧b12≠eg)∧Below w4.heap.size w4 wx)
 case first=>
  refine wp_region_held_drew (S:=fun W=>Below w4.heap.size w4 W) (by kernel_rfl) ((aM _ _).drew) (fun hH=>?_);refine aE ?_;intro wa bP;have hX:Below w4.heap.size w4 wa:=by rw[bP];exact(aM _ _).drew
  replace hH:Below w4.heap.size w4 wa:=hX;have Jp:=hX.size;clear bP;refine cH 0 (v:=?_) rfl ?hy hH ?_
  case hy=>(intro bW aN;have t:=(Bw.out.next aN).cell;clear aN;go_simp;try with_reducible rfl)
  (try simp only[PU,aD])
  refine aW 1 (v:=?_) rfl hH ?_;(try simp only[PU,aD])
  refine aW 2 (v:=?_) rfl hH ?_;(try simp only[PU,aD])
  refine aW 3 (v:=?_) rfl hH ?_;(try simp only[PU,aD])
  refine cH 4 (v:=?_) rfl ?hy hH ?_
  case hy=>(intro bW aN;have t:=(Bw.out.next aN).cell;clear aN;go_simp;try with_reducible rfl)
  (try simp only[PU,aD])
  refine aW 5 (v:=?_) rfl hH ?_;(try simp only[PU,aD])
  refine wpAnyH_ready (rs:= [6,9]) (by kernel_rfl) (by simp) ?_;refine AllReadyH.cons rfl (fun K hK=>?_) (AllReadyH.cons rfl (fun K hK=>?_) (AllReadyH.nil))
  ·go_simp
   refine hK.out _ _ (hX.alloc hX.size _) (fun hH=>?_);clear hK;(try simp only[PU,aD])
   refine cK ?_;intro wb bS;have aR:Below wa.heap.size wa wb:=by rw[bS];exact(aM _ _).alloc (aH _) _
   have Sh:wa.heap.size<wb.heap.size:=by rw[bS];simp
   have ke:Blk wb wa.heap.size 3 (madeCells #[.int .i64 0] nq):=by rw[bS];exact Blk.new _ _ _
   replace hX:=hX.next aR;replace hH:=hX;clear bS aR;refine aW 7 (v:=?_) rfl hH ?_;(try simp only[PU,aD])
   refine wpAnyH_ready (rs:= [8,9]) (by kernel_rfl) (by simp) ?_;refine AllReadyH.cons rfl (fun K hK=>?_) (AllReadyH.cons rfl (fun K hK=>?_) (AllReadyH.nil))
   ·go_simp
    refine hK.out _ _ (hX.alloc hX.size _) (fun hH=>?_);clear hK;(try simp only[PU,aD])
    refine cK ?_;intro wd bS;have aR:Below wb.heap.size wb wd:=by rw[bS];exact(aM _ _).alloc (aH _) _
    have Hg:wb.heap.size<wd.heap.size:=by rw[bS];simp
    replace ke:=ke.next aR;have kr:Blk wd wb.heap.size 86 #[.slice V nv cv,.slice Q nq cq,.int .u8 mk,.int .i64 mnum,.string mnm,.slice mA mn mc,.pointer (some ⟨S.st,0,none⟩),.int .i64 0,.int .i64 fuel,.slice (some ⟨wa.heap.size,0,none⟩) nq nq]:=by rw[bS];exact Blk.new _ _ _
    replace hX:=hX.next aR;replace hH:=hX;clear bS aR;refine cE 9 (by kernel_rfl) rfl (fun K hK=>?_);go_simp;refine hK.out _ _ (hX.alloc hX.size _) (fun hH=>?_);clear hK;(try simp only[PU,aD])
    refine cK ?_;intro we bS;have aR:Below wd.heap.size wd we:=by rw[bS];exact(aM _ _).alloc (aH _) _
    have Si:wd.heap.size<we.heap.size:=by rw[bS];simp
    replace ke:=ke.next aR;replace kr:=kr.next aR;have kb:Blk we wd.heap.size 84 #[.pointer none]:=by rw[bS];exact Blk.new _ _ _
    replace hX:=hX.next aR;replace hH:=hX;clear bS aR;refine cE 10 (by kernel_rfl) rfl (fun K hK=>?_);obtain⟨rJ,mK,mJ⟩:=kb.open_;go_simp;refine hK.out _ _ ?h1 (fun hH=>?_)
    case h1=>exact hX.trans (Fr.below (O:=fun k=>k=wd.heap.size) (by repeat (first|exact Fr.refl _ _|(refine Fr.set ?_ ?_ _;rotate_left;exact rfl))) hX.size (fun k hk=>by rw[hk];omega))
    clear hK;(try simp only[PU,aD])
    clear mK mJ;refine wpAnyH_done (by kernel_rfl) ?_ _;refine eZ ?_;intro wf fG;have kf:Blk wf wd.heap.size 84 #[.pointer (some ⟨wb.heap.size,0,none⟩)]:=(by rw[fG];simpa using kb.set_ 0 (.pointer (some ⟨wb.heap.size,0,none⟩)));have ff:Fr (fun k=>k=wd.heap.size) we wf:=(by rw[fG];repeat (first|exact Fr.refl _ _|(refine Fr.set ?_ ?_ _;rotate_left;exact rfl)));rw[<-fG]at hH;replace kr:=ff.blk kr (by omega);replace ke:=ff.blk ke (by omega);clear fG ff hX kb;go_wp2_with fail;go_meet;exact⟨wb.heap.size,wa.heap.size,wd.heap.size,rfl,kf,kr,ke,⟨by omega,by omega,by omega⟩,⟨by omega,by omega,by omega⟩,hH⟩
   ·go_simp
    refine hK.out _ _ (hX.alloc hX.size _) (fun hH=>?_);clear hK;(try simp only[PU,aD])
    refine cK ?_;intro wd bS;have aR:Below wb.heap.size wb wd:=by rw[bS];exact(aM _ _).alloc (aH _) _
    have Hg:wb.heap.size<wd.heap.size:=by rw[bS];simp
    replace ke:=ke.next aR;have kb:Blk wd wb.heap.size 84 #[.pointer none]:=by rw[bS];exact Blk.new _ _ _
    replace hX:=hX.next aR;replace hH:=hX;clear bS aR;refine cE 8 (by kernel_rfl) rfl (fun K hK=>?_);go_simp;refine hK.out _ _ (hX.alloc hX.size _) (fun hH=>?_);clear hK;(try simp only[PU,aD])
    refine cK ?_;intro we bS;have aR:Below wd.heap.size wd we:=by rw[bS];exact(aM _ _).alloc (aH _) _
    have Si:wd.heap.size<we.heap.size:=by rw[bS];simp
    replace ke:=ke.next aR;replace kb:=kb.next aR;have kr:Blk we wd.heap.size 86 #[.slice V nv cv,.slice Q nq cq,.int .u8 mk,.int .i64 mnum,.string mnm,.slice mA mn mc,.pointer (some ⟨S.st,0,none⟩),.int .i64 0,.int .i64 fuel,.slice (some ⟨wa.heap.size,0,none⟩) nq nq]:=by rw[bS];exact Blk.new _ _ _
    replace hX:=hX.next aR;replace hH:=hX;clear bS aR;refine cE 10 (by kernel_rfl) rfl (fun K hK=>?_);obtain⟨rJ,mK,mJ⟩:=kb.open_;go_simp;refine hK.out _ _ ?h1 (fun hH=>?_)
    case h1=>exact hX.trans (Fr.below (O:=fun k=>k=wb.heap.size) (by repeat (first|exact Fr.refl _ _|(refine Fr.set ?_ ?_ _;rotate_left;exact rfl))) hX.size (fun k hk=>by rw[hk];omega))
    clear hK;(try simp only[PU,aD])
    clear mK mJ;refine wpAnyH_done (by kernel_rfl) ?_ _;refine eZ ?_;intro wf fG;have kf:Blk wf wb.heap.size 84 #[.pointer (some ⟨wd.heap.size,0,none⟩)]:=(by rw[fG];simpa using kb.set_ 0 (.pointer (some ⟨wd.heap.size,0,none⟩)));have ff:Fr (fun k=>k=wb.heap.size) we wf:=(by rw[fG];repeat (first|exact Fr.refl _ _|(refine Fr.set ?_ ?_ _;rotate_left;exact rfl)));rw[<-fG]at hH;replace kr:=ff.blk kr (by omega);replace ke:=ff.blk ke (by omega);clear fG ff hX kb;go_wp2_with fail;go_meet;exact⟨wd.heap.size,wa.heap.size,wb.heap.size,rfl,kf,kr,ke,⟨by omega,by omega,by omega⟩,⟨by omega,by omega,by omega⟩,hH⟩
  ·go_simp
   refine hK.out _ _ (hX.alloc hX.size _) (fun hH=>?_);clear hK;(try simp only[PU,aD])
   refine cK ?_;intro wb bS;have aR:Below wa.heap.size wa wb:=by rw[bS];exact(aM _ _).alloc (aH _) _
   have Sh:wa.heap.size<wb.heap.size:=by rw[bS];simp
   have kb:Blk wb wa.heap.size 84 #[.pointer none]:=by rw[bS];exact Blk.new _ _ _
   replace hX:=hX.next aR;replace hH:=hX;clear bS aR;refine cE 6 (by kernel_rfl) rfl (fun K hK=>?_);go_simp;refine hK.out _ _ (hX.alloc hX.size _) (fun hH=>?_);clear hK;(try simp only[PU,aD])
   refine cK ?_;intro wd bS;have aR:Below wb.heap.size wb wd:=by rw[bS];exact(aM _ _).alloc (aH _) _
   have Hg:wb.heap.size<wd.heap.size:=by rw[bS];simp
   replace kb:=kb.next aR;have ke:Blk wd wb.heap.size 3 (madeCells #[.int .i64 0] nq):=by rw[bS];exact Blk.new _ _ _
   replace hX:=hX.next aR;replace hH:=hX;clear bS aR;refine aW 7 (v:=?_) rfl hH ?_;(try simp only[PU,aD])
   refine cE 8 (by kernel_rfl) rfl (fun K hK=>?_);go_simp;refine hK.out _ _ (hX.alloc hX.size _) (fun hH=>?_);clear hK;(try simp only[PU,aD])
   refine cK ?_;intro we bS;have aR:Below wd.heap.size wd we:=by rw[bS];exact(aM _ _).alloc (aH _) _
   have Si:wd.heap.size<we.heap.size:=by rw[bS];simp
   replace ke:=ke.next aR;replace kb:=kb.next aR;have kr:Blk we wd.heap.size 86 #[.slice V nv cv,.slice Q nq cq,.int .u8 mk,.int .i64 mnum,.string mnm,.slice mA mn mc,.pointer (some ⟨S.st,0,none⟩),.int .i64 0,.int .i64 fuel,.slice (some ⟨wb.heap.size,0,none⟩) nq nq]:=by rw[bS];exact Blk.new _ _ _
   replace hX:=hX.next aR;replace hH:=hX;clear bS aR;refine cE 10 (by kernel_rfl) rfl (fun K hK=>?_);obtain⟨rJ,mK,mJ⟩:=kb.open_;go_simp;refine hK.out _ _ ?h1 (fun hH=>?_)
   case h1=>exact hX.trans (Fr.below (O:=fun k=>k=wa.heap.size) (by repeat (first|exact Fr.refl _ _|(refine Fr.set ?_ ?_ _;rotate_left;exact rfl))) hX.size (fun k hk=>by rw[hk];omega))
   clear hK;(try simp only[PU,aD])
   clear mK mJ;refine wpAnyH_done (by kernel_rfl) ?_ _;refine eZ ?_;intro wf fG;have kf:Blk wf wa.heap.size 84 #[.pointer (some ⟨wd.heap.size,0,none⟩)]:=(by rw[fG];simpa using kb.set_ 0 (.pointer (some ⟨wd.heap.size,0,none⟩)));have ff:Fr (fun k=>k=wa.heap.size) we wf:=(by rw[fG];repeat (first|exact Fr.refl _ _|(refine Fr.set ?_ ?_ _;rotate_left;exact rfl)));rw[<-fG]at hH;replace kr:=ff.blk kr (by omega);replace ke:=ff.blk ke (by omega);clear fG ff hX kb;go_wp2_with fail;go_meet;exact⟨wd.heap.size,wb.heap.size,wa.heap.size,rfl,kf,kr,ke,⟨by omega,by omega,by omega⟩,⟨by omega,by omega,by omega⟩,hH⟩
 case rest=>
  obtain⟨r,eg,b12,rfl,kb,kr,ke,⟨xI,he4,bV⟩,⟨n1,n2,n3⟩,xB⟩:=hcut;have QL:=aA kb;have fL:=aA kr;have HKE:=aA ke;have tZ:=aA xB;have JA:=kr.lt;have QY:=ke.lt;have Gs:=kb.lt;clear kb kr ke xB tE s9 s6;go_wp2_with fail;refine J5 ?_;intro w6 hw6;have mC:Below wc.heap.size wc w6:=(by rw[hw6];go_grown);have HJ:Hid (Blk w6 wc.heap.size 91 #[.slice none 0 0,.bool false]):=aA (by rw[hw6];exact Blk.new _ _ _);have mG:=aA mC;have Vi:w6.heap.size=wc.heap.size+1:=by rw[hw6];simp
  have AP:=tZ.out.size;clear hw6 mC;have Ky:Hid (∀W,Below w6.heap.size w6 W->Below w4.heap.size w4 W∧Below B w W):=aA fun W hW=>by
   have h1:Below w4.heap.size w4 W:=(tZ.out.next mG.out).next hW;exact⟨h1,HB.out.trans ((dQ.out.next h1).mono yJ)⟩
  have HRT:Hid (∀W,Below w6.heap.size w6 W->RAt W B1 W r ⟨.slice V nv cv,.slice Q nq cq,⟨mk,mnum,mnm,mA,mn,mc⟩,S.st,.slice (some ⟨eg,0,none⟩) nq nq,sY W S r eg⟩ S ⟨cs,⟨p.vars,List.range p.vars.length,0⟩,[],inp,out⟩ fuel fuel (fun i=>(p.vars.getD i ⟨⟨#[]⟩,0,0⟩).k) 32):=aA fun W hW=>by
   have Pn:=(Ky.out W hW).1;have nro:∀k,w4.heap.size<=k->S.ro k=.none:=fun k hk=>Decidable.byContradiction fun hn=>by have:=(W7.out.new k hn).2;omega
   exact RAt.start HF.out (W7.out.next Pn) NO ((fL.out.next mG.out).next hW) ((HKE.out.next mG.out).next hW) (by have:=Pn.size;omega) (by omega) (by omega) (nro _ xI) (nro _ he4) n1 hnq
  have j5:Hid (∀W,Below w6.heap.size w6 W->KD W B1 d ⟨.slice V nv cv,.slice Q nq cq,⟨mk,mnum,mnm,mA,mn,mc⟩,S.st,.slice (some ⟨eg,0,none⟩) nq nq,sY W S r eg⟩ p.procs pcs):=aA fun W hW=>by
   obtain⟨Pn,Po⟩:=Ky.out W hW;have Pd:B<=B1:=by have:=lZ.out.size;omega
   refine⟨by have:=Pn.size;omega,⟨V,nv,cv,rfl⟩,⟨Q,cq,by rw[HP.out.hnq],HP.out.procs.upS Po Pd⟩,⟨_,nq,by rw[HP.out.hnq]⟩,by rw[HP.out.hnq];exact hnq,by rw[HP.out.hnq];exact HP.out.len,fun i c u h1 h2=>?_⟩;obtain⟨a1,a2,a3,a4,a5⟩:=HP.out.pr i c u h1 h2;exact⟨a1,a2,a3.upS Po Pd,a4,a5⟩
  have Xa:=aA ((Bw.out.next tZ.out).next mG.out);have Xe:=aA (((E8.out.next lZ.out).next tZ.out).next mG.out);have Cc:=aA (QL.out.next mG.out);have Mu:Hid (∀W,Below w6.heap.size w6 W->Calls Tryz.prog 43 #[.pointer (some ⟨b12,0,none⟩),.pointer (some ⟨w'.heap.size,0,none⟩),.pointer (some ⟨w'.heap.size+1+1,0,none⟩)] W fun en w'=>RunP W B1 W r ⟨.slice V nv cv,.slice Q nq cq,⟨mk,mnum,mnm,mA,mn,mc⟩,S.st,.slice (some ⟨eg,0,none⟩) nq nq,sY W S r eg⟩ S fuel QR en w'):=aA fun W hW=>by
   obtain⟨Pn,Po⟩:=Ky.out W hW;have Pd:B<=B1:=by have:=lZ.out.size;omega
   have:=LN (n:=2001) (j5.out W hW) (HRT.out W hW) (by omega) back (HP.out.main.upS Po Pd) (HP.out.kv.upS Po Pd) HP.out.cok (Cc.out.next hW) (Xa.out.next hW) (Xe.out.next hW);have hq:=Cu.out;unfold fA at hq;rw[hq]at this;exact this
  have lF:Hid (∀(W:World)(k:Nat),(k<B1∨w4.heap.size<=k)->k≠r->k≠eg->¬RO S ⟨.slice V nv cv,.slice Q nq cq,⟨mk,mnum,mnm,mA,mn,mc⟩,S.st,.slice (some ⟨eg,0,none⟩) nq nq,sY W S r eg⟩ r k):=aA fun W k hk h1 h2 h3=>by
   rcases h3 with h3|h3|h3
   ·have:=W7.out.new k h3;omega
   ·exact h1 h3
   ·injection h3 with h3;exact h2 h3.symm
  have Da:Hid (∀k,(k<B1∨w4.heap.size<=k)->S.ro k=.none):=aA fun k hk=>Decidable.byContradiction fun hn=>by have:=W7.out.new k hn;omega
  have EG:∀(args:Array Value)(W:World),(callFunc 43 args).run Tryz.prog W=.ok (.enter 43 args) W:=fun _ _=>rfl
  have Lw:=aA (((lX.out.next lZ.out).next tZ.out).next mG.out);have RW:=aA (((JN.out.next lZ.out).next tZ.out).next mG.out);have hl9:w'.heap.size+1+1+1<B1:=by omega
  cases QR with
  |error x=>
   have xJ:=qT Cu.out;have tY:=zR (w:=w6) (x:=x) (Q:=fun W w'=>Bs W B1 ⟨.slice V nv cv,.slice Q nq cq,⟨mk,mnum,mnm,mA,mn,mc⟩,S.st,.slice (some ⟨eg,0,none⟩) nq nq,sY W S r eg⟩ w') HJ.out rfl (EG _) (fun W hW=>Mu.out W hW) (fun W W' b t cs hW hq hb f8=>(hq.2 b ⟨f8.lt,Da.out b (by rcases hb with hb|hb<;>omega),by rcases hb with hb|hb<;>omega,by rcases hb with hb|hb<;>omega⟩).trans f8);refine tY.mono ?_;rintro en w8 ⟨rfl,W,W',b,hW,hq,hbW,Ge,hf⟩;have gK:Hid (∀k t cs,(k<B1∨w4.heap.size<=k)->k≠r->k≠eg->k<w6.heap.size->Blk w6 k t cs->Blk w8 k t cs):=aA fun k t cs h1 h2 h3 h4 hk=>hf.blk ((hq.2 k ⟨by have:=hW.size;omega,Da.out k h1,h2,h3⟩).trans (hk.next hW)) (by omega)
   have CD:Hid (Below w'.heap.size w' w8):=aA (by
    have h1:Below w'.heap.size w' W:=dQ.out.next (Ky.out W hW).1;have h2:Below w'.heap.size W W':=hq.1.mono (by omega);exact(h1.trans h2).trans (hf.below (by have:=h1.size;have:=h2.size;omega) fun k hk=>by omega))
   clear hq hf hW hbW tY;have Xc:=aA (gK.out _ _ _ (.inl (by omega)) (by omega) (by omega) Lw.out.lt Lw.out);have ER:=aA (gK.out _ _ _ (.inl (by omega)) (by omega) (by omega) RW.out.lt RW.out);obtain⟨D9,zN,zF⟩:=Xc.out.open_;have q0:(x !=0)=true:=by simpa using xJ
   go_wp2_with fail;refine(HSC.out w8 (HB.out.trans (CD.out.mono yJ))).mono ?_;rintro en w9 ⟨uC,uI,uO,rfl,iM,tA⟩;obtain⟨A1,m1,c1,rfl⟩:∃A n c,uC=.slice A n c:=by obtain⟨sv,⟨A,c,e,_⟩,_⟩:=iM.row;exact⟨A,_,c,e⟩
   obtain⟨A2,m2,c2,rfl⟩:∃A n c,uI=.slice A n c:=by obtain⟨A,c,e,_⟩:=iM.inp;exact⟨A,_,c,e⟩
   obtain⟨A3,m3,c3,rfl⟩:∃A n c,uO=.slice A n c:=by obtain⟨A,c,e,_⟩:=iM.out;exact⟨A,_,c,e⟩
   have uE:=aA iM;have EH:=aA (CD.out.next tA);have Lx:=aA (ER.out.next tA);clear iM tA D9 zN zF;obtain⟨D9,zN,zF⟩:=Lx.out.open_;go_wp2_with fail;generalize fG:World.setCell _ _ _=wf at *;have kf:Blk wf (w'.heap.size+1+1+1) 41 #[.slice A1 m1 c1,.slice A2 m2 c2,.slice A3 m3 c3,.int .i64 0,.int .i64 x]:=(by rw[<-fG];simpa using((((Lx.out.set_ 0 (.slice A1 m1 c1)).set_ 1 (.slice A2 m2 c2)).set_ 2 (.slice A3 m3 c3)).set_ 3 (.int .i64 0)).set_ 4 (.int .i64 x));have ff:Fr (fun k=>k=w'.heap.size+1+1+1) w9 wf:=(by rw[<-fG];repeat (first|exact Fr.refl _ _|(refine Fr.set ?_ ?_ _;rotate_left;exact rfl)));have RZ:=aA kf;have wW:=aA ff;clear fG kf ff D9 zN zF;refine bodyPost_ret_by (kX rfl _ _ (w'.heap.size+1+1+1) _ _ _ rfl RZ.out Tryz.underlying41 rfl (by rw[jT];rfl)) rfl ?_;have hs9:=wW.out.size;refine⟨_,_,rfl,⟨_,_,_,rfl,uE.out.map (fun b o hb=>wW.out.cell hb.2 (by have:=hb.1;have:=ER.out.lt;omega) o) (fun k hk=>⟨by have:=hk.1;have:=CD.out.size;omega,dX hk.2 hs9⟩)⟩,EH.out.trans (wW.out.below EH.out.size fun k hk=>by omega)⟩
  |ok pr=>
   obtain⟨σ,f⟩:=pr;have tY:=I6 (w:=w6) (Q:=fun W w'=>∃S' kd' m',RAt W B1 w' r ⟨.slice V nv cv,.slice Q nq cq,⟨mk,mnum,mnm,mA,mn,mc⟩,S.st,.slice (some ⟨eg,0,none⟩) nq nq,sY W S r eg⟩ S' σ fuel f kd' m'∧S.Ext S' W∧Fr (RO S ⟨.slice V nv cv,.slice Q nq cq,⟨mk,mnum,mnm,mA,mn,mc⟩,S.st,.slice (some ⟨eg,0,none⟩) nq nq,sY W S r eg⟩ r) W w') HJ.out rfl (EG _) (fun W hW=>Mu.out W hW) (fun W W' b t cs hW hq hb f8=>by
    obtain⟨S',kd',m',_,_,gD⟩:=hq;exact gD.blk f8 (lF.out W b (.inr (by rcases hb with hb|hb<;>omega)) (by rcases hb with hb|hb<;>omega) (by rcases hb with hb|hb<;>omega)))
   refine tY.mono ?_;rintro en w8 ⟨rfl,W,W',b,hW,⟨S',kd',m',mV,hxx,gD⟩,hbW,Ge,hf⟩;have gK:Hid (∀k t cs,(k<B1∨w4.heap.size<=k)->k≠r->k≠eg->k<w6.heap.size->Blk w6 k t cs->Blk w8 k t cs):=aA fun k t cs h1 h2 h3 h4 hk=>hf.blk (gD.blk (hk.next hW) (lF.out W k h1 h2 h3)) (by omega)
   have CD:Hid (Below w'.heap.size w' w8):=aA (by
    have h1:Below w'.heap.size w' W:=dQ.out.next (Ky.out W hW).1;have h2:Below w'.heap.size W W':=mV.base.mono (by omega);exact(h1.trans h2).trans (hf.below (by have:=h1.size;have:=h2.size;omega) fun k hk=>by omega))
   have Ya:Hid (SOn w8 B1 S' σ):=aA (mV.on.other hf fun k _ hk=>by rw[hk,hxx.2 b Ge];exact Da.out b (.inr (by omega)));have Xy:=aA mV.ok;have hm8:m'<=5000:=by have:=mV.fm;omega
   have Yx:Hid (S'.st=S.st):=aA hxx.1;have j7:=hf.blk mV.blk (by omega);unfold Rn.cells at j7;dsimp only at j7;have j7:=aA j7;have Yy:=aA (fun X(hX:Below w8.heap.size w8 X)=>by have:=TI (Ya.out.next hX) Xy.out hm8;rw[Yx.out]at this;exact this);clear mV hxx gD hf hW hbW tY Ge;have ER:=aA (gK.out _ _ _ (.inl (by omega)) (by omega) (by omega) RW.out.lt RW.out);have Ly:=aA (gK.out _ _ _ (.inr bV) n2 n3 Cc.out.lt Cc.out);have hn9:¬(b12=w'.heap.size+1+1+1):=by omega
   have hr9:¬(r=w'.heap.size+1+1+1):=by omega
   go_wp2_with fail;refine wp_region_held_drew (S:=fun W=>Fr (fun k=>k=w'.heap.size+1+1+1) w8 W) (by kernel_rfl) ((Fr.refl _ _).drew) (fun hH=>?_);refine aE ?_;intro wa bP;have hX:Below w8.heap.size w8 wa:=by rw[bP];exact(aM _ _).drew
   replace hH:Fr (fun k=>k=w'.heap.size+1+1+1) w8 wa:=Fr.of hX;have Jp:=hX.size;clear bP;refine cH 0 (v:=?_) rfl ?hy hH ?_
   case hy=>(intro bW aN;have t:=(aN.blk Ly.out hn9).cell;clear aN;go_simp;try with_reducible rfl)
   (try simp only[PU,aD])
   refine aW 1 (v:=?_) rfl hH ?_;(try simp only[PU,aD])
   refine aW 2 (v:=?_) rfl hH ?_;(try simp only[PU,aD])
   refine cH 3 (v:=?_) rfl ?hy hH ?_
   case hy=>(intro bW aN;have t:=(aN.blk j7.out hr9).cell;clear aN;go_simp;try with_reducible rfl)
   (try simp only[PU,aD])
   refine aW 4 (v:=?_) rfl hH ?_;(try simp only[PU,aD])
   refine cH 6 (v:=?_) rfl ?hy hH ?_
   case hy=>(intro bW aN;have t:=(aN.blk Ly.out hn9).cell;clear aN;go_simp;try with_reducible rfl)
   (try simp only[PU,aD])
   refine aW 7 (v:=?_) rfl hH ?_;(try simp only[PU,aD])
   refine aW 8 (v:=?_) rfl hH ?_;(try simp only[PU,aD])
   refine cH 9 (v:=?_) rfl ?hy hH ?_
   case hy=>(intro bW aN;have t:=(aN.blk j7.out hr9).cell;clear aN;go_simp;try with_reducible rfl)
   (try simp only[PU,aD])
   refine cE 5 (by kernel_rfl) rfl (fun K hK=>?_);go_simp;refine(Yy.out _ hX).mono ?_;rintro en wb ⟨uC,uI,uO,rfl,iM,aR⟩;refine hK.out _ _ (hH.next aR) (fun hH=>?_);clear hK;(try simp only[PU,aD])
   obtain⟨A1,m1,c1,rfl⟩:∃A n c,uC=.slice A n c:=by obtain⟨sv,⟨A,c,e,_⟩,_⟩:=iM.row;exact⟨A,_,c,e⟩
   obtain⟨A2,m2,c2,rfl⟩:∃A n c,uI=.slice A n c:=by obtain⟨A,c,e,_⟩:=iM.inp;exact⟨A,_,c,e⟩
   obtain⟨A3,m3,c3,rfl⟩:∃A n c,uO=.slice A n c:=by obtain⟨A,c,e,_⟩:=iM.out;exact⟨A,_,c,e⟩
   replace hX:=hX.next aR;clear aR;refine aW 10 (v:=?_) rfl hH ?_;(try simp only[PU,aD])
   refine aW 11 (v:=?_) rfl hH ?_;(try simp only[PU,aD])
   refine cE 12 (by kernel_rfl) rfl (fun K hK=>?_);obtain⟨eL,eC,eF⟩:=(ER.out.next hX).open_;go_simp;refine hK.out _ _ ?h1 (fun hH=>?_)
   case h1=>(repeat (first|exact hH|(refine Fr.set ?_ ?_ _;rotate_left;exact rfl)))
   clear hK;(try simp only[PU,aD])
   clear eL eC eF;refine wpAnyH_done (by kernel_rfl) ?_ _;have uE:=aA iM;have EH:=aA (CD.out.next hX);have hzx:=hX.size;generalize fG:World.setCell _ _ _=wf at *;have kf:Blk wf (w'.heap.size+1+1+1) 41 #[.slice A1 m1 c1,.slice A2 m2 c2,.slice A3 m3 c3,.int .i64 ((fuel:Int)-f),.int .i64 0]:=(by rw[<-fG];simpa using(((((ER.out.next hX).set_ 0 (.slice A1 m1 c1)).set_ 1 (.slice A2 m2 c2)).set_ 2 (.slice A3 m3 c3)).set_ 3 (.int .i64 ((fuel:Int)-f))).set_ 4 (.int .i64 0));have ff:Fr (fun k=>k=w'.heap.size+1+1+1) wb wf:=(by rw[<-fG];repeat (first|exact Fr.refl _ _|(refine Fr.set ?_ ?_ _;rotate_left;exact rfl)));have RZ:=aA kf;have wW:=aA ff;clear fG kf ff hX iM hH;go_wp2_with fail;refine bodyPost_ret_by (kX rfl _ _ (w'.heap.size+1+1+1) _ _ _ rfl RZ.out Tryz.underlying41 rfl (by rw[jT];rfl)) rfl ?_;have hs9:=wW.out.size;refine⟨_,_,rfl,⟨_,_,_,rfl,uE.out.map (fun b o hb=>wW.out.cell hb.2 (by have:=hb.1;have:=ER.out.lt;omega) o) (fun k hk=>⟨by have:=hk.1;have:=CD.out.size;omega,dX hk.2 hs9⟩)⟩,EH.out.trans (wW.out.below EH.out.size fun k hk=>by omega)⟩
end
end Go.Proofs.YtakfdnnlhjhcfaaGreatDoor
