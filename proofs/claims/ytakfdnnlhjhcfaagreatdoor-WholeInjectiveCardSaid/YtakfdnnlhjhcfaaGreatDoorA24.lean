/- Part of the proof. -/
import Derived.Test.YtakfdnnlhjhcfaaGreatDoorA23
set_option linter.unusedVariables false
set_option linter.unusedSimpArgs false
set_option maxRecDepth 100000
set_option maxHeartbeats 4000000
namespace Go.Proofs.YtakfdnnlhjhcfaaGreatDoor
open Go.RowKit Bk
theorem eP{P:Program}{fn:Func}{p:Tmp}{ty:TypeId}(h:fn.results=#[.cell p ty])(tmps:Array Value)(w:World)(g:Nat)(t:TypeId)(cs:Array Value)(d:TypeDesc)
  (hp:tmps.getD p undef=.pointer (some ⟨g,0,none⟩)) (hg:Blk w g t cs) (hu:P.underlying ty=some d) (hd:(match d with|.struct _|.array _ _=>true|_=>false)=true) (hi:(P.info? ty).map (·.size)=some cs.size):
  (results fn tmps).run P w=.ok (.agg cs) w:=by
 simp only[results,h];simp only[Array.getD_eq_getD_getElem?]at hp;simp[Sem.run_bind,Result.andThen,hp,asAddr,run_loadVar_row w g t ty cs (0,0) d hg hu hd hi]
theorem mW:(Tryz.prog.info? 32).map (·.size)=some 3:=by kernel_rfl
theorem yS:(Tryz.prog.info? 30).map (fun i=>(i.zero,i.size,i.bytes))=some (some (.slice none 0 0),1,24):=by kernel_rfl
theorem Sl.numS{w w':World}{lo hi:Nat}{size n:Nat}{v:Value}{xs:List Value}(h:Sl w (fun k=>lo<=k∧k<hi) size v n xs)(hb:Below w.heap.size w w')(hh:hi<=w.heap.size):Sl w' (fun k=>lo<=k∧k<hi) size v n xs:=h.keep (fun b o gX=>hb.cell (p:=⟨b,o,none⟩) (dX gX.2 hh)) fun _ h=>h
theorem Sl.frS{O D D':Nat->Prop}{w w':World}{size n:Nat}{v:Value}{xs:List Value}(h:Sl w D size v n xs)(hf:Fr O w w')(hd:∀k,D k->k<w.heap.size∧¬O k∧D' k):Sl w' D' size v n xs:=h.keep (fun b o gX=>hf.cell (hd b gX).1 (hd b gX).2.1 o) fun k hk=>(hd k hk).2.2
theorem KZ{n:Nat}{Q:Exit->Act->World->Prop}{x:Exit}{a:Act}{w:World}(h:∀w',w'=w->Exit.inBlock n Q x a w'):Exit.inBlock n Q x a w:=h w rfl
def Ah(lo:Nat)(w:World)(b:Nat)(v:Value)(k:Nat):Prop:=lo<=k∧k<w.heap.size∧k≠b∧v.ownBlock≠some k
def ElS(lo:Nat)(w:World)(b:Nat)(v:Value)(xs:List Value)(cs:List (List Int)):Prop:=∀(i:Nat)(u:Value)(l:List Int),xs[i]?=some u->cs[i]?=some l->Sl w (Ah lo w b v) 1 u l.length (aC l)
section
variable{w w':World}{B:Nat}
theorem FG{vC vI vO:Value}{cs:List (List Int)}{inp out:List Int}(h:SW w (·<B) vC vI vO cs inp out)(hB:B<=w.heap.size)(hc:cs.length<=1000)(hl:∀l,l∈cs->l.length<=10000)(hi:inp.length<=10000)(ho:out.length<=10000):
  Calls Tryz.prog 40 #[.agg #[vC,vI,vO]] w fun e w'=>∃uC uI uO,e=.returned (.agg #[uC,uI,uO])∧SW w' (fun k=>w.heap.size<=k∧k<w'.heap.size) uC uI uO cs inp out∧Below w.heap.size w w':=by
 obtain⟨sv,d9,pG⟩:=h.row;have RM:=aA (fun W(hW:Below w.heap.size w W)=>eR (w:=W) (Sl.belowS h.inp (hW.mono hB)) (by omega));have RP:=aA (fun W(hW:Below w.heap.size w W)=>eR (w:=W) (Sl.belowS h.out (hW.mono hB)) (by omega));have iK:Hid (∀(i:Nat)(v:Value)(l:List Int),sv[i]?=some v->cs[i]?=some l->∀W,Below w.heap.size w W->Calls Tryz.prog 30 #[v] W fun e w'=>∃v,e=.returned v∧w'.ownsRow W.heap.size 3 1 v l.length (aC l)∧Below W.heap.size W w'):=aA fun i v l h1 h2 W hW=>eR (Sl.belowS (pG i v l h1 h2) (hW.mono hB)) (by have:=hl l (List.mem_of_getElem? h2);omega)
 have YM:Hid (sv.length=cs.length∧∀(i:Nat)(v:Value),sv[i]?=some v->∃A n c,v=.slice A n c):=aA ⟨by
  obtain⟨_,_,_,_,_,hR⟩:=d9;have:=hR.1;omega,fun i v hv=>by
  have hlen:sv.length=cs.length:=by
   obtain⟨_,_,_,_,_,hR⟩:=d9;have:=hR.1;omega
  have hi:=(lgS.1 hv).1;obtain⟨A,c,e,_⟩:=pG i v (cs[i]'(by omega)) hv (dR (by omega));exact⟨A,_,c,e⟩⟩
 obtain⟨AC,cC,rfl,f9,hAN,hR⟩:=d9;have QS:=aA hR;obtain⟨AI,cI,rfl,_⟩:=h.inp;obtain⟨AO,cO,rfl,_⟩:=h.out;have Ys:Hid (∀j,j<cs.length->∃v,sv[j]?=some v):=aA fun j hj=>⟨sv[j]'(by have:=YM.out.1;omega),dR (by have:=YM.out.1;omega)⟩
 obtain⟨n,hn⟩:∃n,cs.length=n:=⟨_,rfl⟩;have HN:=aA hn;rw[hn]at f9 QS Ys hc⊢;have Tj:Hid (B<=w.heap.size):=aA hB;clear h pG hl hi ho hR hAN hn;obtain⟨ni,hni⟩:∃n,inp.length=n:=⟨_,rfl⟩;obtain⟨no,hno⟩:∃n,out.length=n:=⟨_,rfl⟩;have oM:=aA hni;have lF:=aA hno;rw[hni]at RM;rw[hno]at RP;rw[hni,hno];clear hni hno;obtain⟨i2,li,lz,ls,lb⟩:=info_parts yS;have Tn:=aA li;have HZ2:=aA lz;have Zf:=aA ls;have Vv:=aA lb;clear li lz ls lb;go_enter Tryz.func40,Tryz.ntmps40;go_upto_region 1 with fail;refine aB ?_;intro w1 aF;have aG:Below w.heap.size w w1:=(by rw[aF];go_grown);have K1:Blk w1 w.heap.size 32 #[.slice AC n cC,.slice AI ni cI,.slice AO no cO]:=(by rw[aF];exact aQ);have K2:Blk w1 (w.heap.size+1) 32 #[.slice none 0 0,.slice none 0 0,.slice none 0 0]:=(by rw[aF];exact(Blk.new' (by simp) _ _));have a9:=aA K1;have bI:=aA K2;have aO:=aA aG;have hs1:=K2.lt;clear aF aG K1 K2
 go_cut [3] (fun v3 wx=>∃b3 A1 c1 A2 c2,v3=.pointer (some ⟨b3,0,none⟩)∧Blk wx b3 32 #[.slice none 0 0,.slice A1 ni c1,.slice A2 no c2]∧Sl wx (fun k=>w1.heap.size<=k∧k<wx.heap.size∧k≠b3) 1 (.slice A1 ni c1) ni (aC inp)∧Sl wx (fun k=>w1.heap.size<=k∧k<wx.heap.size∧k≠b3) 1 (.slice A2 no c2) no (aC out)∧w1.heap.size<=b3∧Below w1.heap.size w1 wx)
 case first=>
  refine wp_region_held_drew (S:=fun W=>Below w1.heap.size w1 W) (by kernel_rfl) ((aM _ _).drew) (fun hH=>?_);refine aE ?_;intro wa bP;have hX:Below w1.heap.size w1 wa:=by rw[bP];exact(aM _ _).drew
  replace hH:Below w1.heap.size w1 wa:=hX;have Jp:=hX.size;clear bP;refine aW 0 (v:=?_) rfl hH ?_;(try simp only[PU,aD])
  refine cH 1 (v:=?_) rfl ?hy hH ?_
  case hy=>(intro bW aN;have t:=(a9.out.next aN).cell;clear aN;go_simp;try with_reducible rfl)
  (try simp only[PU,aD])
  refine aW 3 (v:=?_) rfl hH ?_;(try simp only[PU,aD])
  refine cH 4 (v:=?_) rfl ?hy hH ?_
  case hy=>(intro bW aN;have t:=(a9.out.next aN).cell;clear aN;go_simp;try with_reducible rfl)
  (try simp only[PU,aD])
  refine wpAnyH_ready (rs:= [2,7]) (by kernel_rfl) (by simp) ?_;refine AllReadyH.cons rfl (fun K hK=>?_) (AllReadyH.cons rfl (fun K hK=>?_) (AllReadyH.nil))
  ·go_simp
   refine(RM.out _ (aO.out.next hX)).mono ?_;rintro en wb ⟨_,rfl,o1,aR⟩;obtain⟨A1,c1,rfl⟩:=aI o1;refine hK.out _ _ (hX.next aR) (fun hH=>?_);clear hK;(try simp only[PU,aD])
   have Hi:=aR.size;have s1:=Sl.of_own o1;have q1:wa.heap.size<=wa.heap.size:=aH _;replace hX:=hX.next aR;clear o1 aR;refine wpAnyH_ready (rs:= [5,7]) (by kernel_rfl) (by simp) ?_;refine AllReadyH.cons rfl (fun K hK=>?_) (AllReadyH.cons rfl (fun K hK=>?_) (AllReadyH.nil))
   ·go_simp
    refine(RP.out _ (aO.out.next hX)).mono ?_;rintro en wc ⟨_,rfl,o2,aR⟩;obtain⟨A2,c2,rfl⟩:=aI o2;refine hK.out _ _ (hX.next aR) (fun hH=>?_);clear hK;(try simp only[PU,aD])
    have WD:=aR.size;replace s1:=Sl.numS s1 aR (by omega);have s2:=Sl.of_own o2;have q2:wb.heap.size<=wb.heap.size:=aH _;replace hX:=hX.next aR;clear o2 aR;refine aW 6 (v:=?_) rfl hH ?_;(try simp only[PU,aD])
    refine cE 7 (by kernel_rfl) rfl (fun K hK=>?_);go_simp;refine hK.out _ _ (hX.alloc hX.size _) (fun hH=>?_);clear hK;(try simp only[PU,aD])
    refine cK ?_;intro wd bS;have aR:Below wc.heap.size wc wd:=by rw[bS];exact(aM _ _).alloc (aH _) _
    have WE:=aR.size;have Hg:wc.heap.size<wd.heap.size:=by rw[bS];simp
    replace s1:=Sl.numS s1 aR (by omega);replace s2:=Sl.numS s2 aR (by omega);have k3:Blk wd wc.heap.size 32 #[.slice none 0 0,.slice none 0 0,.slice none 0 0]:=by rw[bS];exact Blk.new _ _ _
    replace hX:=hX.next aR;replace hH:=hX;clear bS aR;refine cE 8 (by kernel_rfl) rfl (fun K hK=>?_);obtain⟨rJ,mK,mJ⟩:=k3.open_;go_simp;refine hK.out _ _ ?h1 (fun hH=>?_)
    case h1=>exact hX.trans (Fr.below (O:=fun k=>k=wc.heap.size) (by repeat (first|exact Fr.refl _ _|(refine Fr.set ?_ ?_ _;rotate_left;exact rfl))) hX.size (fun k hk=>by rw[hk];omega))
    clear hK;(try simp only[PU,aD])
    clear mK mJ;refine wpAnyH_done (by kernel_rfl) ?_ _;refine eZ ?_;intro wf fG;have kf:Blk wf wc.heap.size 32 #[.slice none 0 0,.slice A1 ni c1,.slice A2 no c2]:=(by rw[fG];simpa using((k3.set_ 0 _).set_ 1 _).set_ 2 _);have ff:Fr (fun k=>k=wc.heap.size) wd wf:=(by rw[fG];repeat (first|exact Fr.refl _ _|(refine Fr.set ?_ ?_ _;rotate_left;exact rfl)));rw[<-fG]at hH;have Sj:=ff.size;have t1:Sl wf (fun k=>w1.heap.size<=k∧k<wf.heap.size∧k≠wc.heap.size) 1 (.slice A1 ni c1) ni (aC inp):=Sl.frS s1 ff fun k hk=>by obtain⟨h1,h2⟩:=hk;exact⟨by omega,by omega,by omega,by omega,by omega⟩
    have t2:Sl wf (fun k=>w1.heap.size<=k∧k<wf.heap.size∧k≠wc.heap.size) 1 (.slice A2 no c2) no (aC out):=Sl.frS s2 ff fun k hk=>by obtain⟨h1,h2⟩:=hk;exact⟨by omega,by omega,by omega,by omega,by omega⟩
    have Gs:w1.heap.size<=wc.heap.size:=by omega
    clear fG ff s1 s2 k3 hX;go_wp2_with fail;go_meet;exact⟨_,A1,c1,A2,c2,rfl,kf,t1,t2,Gs,hH⟩
   ·go_simp
    refine hK.out _ _ (hX.alloc hX.size _) (fun hH=>?_);clear hK;(try simp only[PU,aD])
    refine cK ?_;intro wc bS;have aR:Below wb.heap.size wb wc:=by rw[bS];exact(aM _ _).alloc (aH _) _
    have WD:=aR.size;have aBf:wb.heap.size<wc.heap.size:=by rw[bS];simp
    replace s1:=Sl.numS s1 aR (by omega);have k3:Blk wc wb.heap.size 32 #[.slice none 0 0,.slice none 0 0,.slice none 0 0]:=by rw[bS];exact Blk.new _ _ _
    replace hX:=hX.next aR;replace hH:=hX;clear bS aR;refine cE 5 (by kernel_rfl) rfl (fun K hK=>?_);go_simp;refine(RP.out _ (aO.out.next hX)).mono ?_;rintro en wd ⟨_,rfl,o2,aR⟩;obtain⟨A2,c2,rfl⟩:=aI o2;refine hK.out _ _ (hX.next aR) (fun hH=>?_);clear hK;(try simp only[PU,aD])
    have WE:=aR.size;replace s1:=Sl.numS s1 aR (by omega);replace k3:=k3.next aR;have s2:=Sl.of_own o2;have q2:wc.heap.size<=wc.heap.size:=aH _;replace hX:=hX.next aR;clear o2 aR;refine aW 6 (v:=?_) rfl hH ?_;(try simp only[PU,aD])
    refine cE 8 (by kernel_rfl) rfl (fun K hK=>?_);obtain⟨rJ,mK,mJ⟩:=k3.open_;go_simp;refine hK.out _ _ ?h1 (fun hH=>?_)
    case h1=>exact hX.trans (Fr.below (O:=fun k=>k=wb.heap.size) (by repeat (first|exact Fr.refl _ _|(refine Fr.set ?_ ?_ _;rotate_left;exact rfl))) hX.size (fun k hk=>by rw[hk];omega))
    clear hK;(try simp only[PU,aD])
    clear mK mJ;refine wpAnyH_done (by kernel_rfl) ?_ _;refine eZ ?_;intro wf fG;have kf:Blk wf wb.heap.size 32 #[.slice none 0 0,.slice A1 ni c1,.slice A2 no c2]:=(by rw[fG];simpa using((k3.set_ 0 _).set_ 1 _).set_ 2 _);have ff:Fr (fun k=>k=wb.heap.size) wd wf:=(by rw[fG];repeat (first|exact Fr.refl _ _|(refine Fr.set ?_ ?_ _;rotate_left;exact rfl)));rw[<-fG]at hH;have Sj:=ff.size;have t1:Sl wf (fun k=>w1.heap.size<=k∧k<wf.heap.size∧k≠wb.heap.size) 1 (.slice A1 ni c1) ni (aC inp):=Sl.frS s1 ff fun k hk=>by obtain⟨h1,h2⟩:=hk;exact⟨by omega,by omega,by omega,by omega,by omega⟩
    have t2:Sl wf (fun k=>w1.heap.size<=k∧k<wf.heap.size∧k≠wb.heap.size) 1 (.slice A2 no c2) no (aC out):=Sl.frS s2 ff fun k hk=>by obtain⟨h1,h2⟩:=hk;exact⟨by omega,by omega,by omega,by omega,by omega⟩
    have Gs:w1.heap.size<=wb.heap.size:=by omega
    clear fG ff s1 s2 k3 hX;go_wp2_with fail;go_meet;exact⟨_,A1,c1,A2,c2,rfl,kf,t1,t2,Gs,hH⟩
  ·go_simp
   refine hK.out _ _ (hX.alloc hX.size _) (fun hH=>?_);clear hK;(try simp only[PU,aD])
   refine cK ?_;intro wb bS;have aR:Below wa.heap.size wa wb:=by rw[bS];exact(aM _ _).alloc (aH _) _
   have Hi:=aR.size;have Sh:wa.heap.size<wb.heap.size:=by rw[bS];simp
   have k3:Blk wb wa.heap.size 32 #[.slice none 0 0,.slice none 0 0,.slice none 0 0]:=by rw[bS];exact Blk.new _ _ _
   replace hX:=hX.next aR;replace hH:=hX;clear bS aR;refine cE 2 (by kernel_rfl) rfl (fun K hK=>?_);go_simp;refine(RM.out _ (aO.out.next hX)).mono ?_;rintro en wc ⟨_,rfl,o1,aR⟩;obtain⟨A1,c1,rfl⟩:=aI o1;refine hK.out _ _ (hX.next aR) (fun hH=>?_);clear hK;(try simp only[PU,aD])
   have WD:=aR.size;replace k3:=k3.next aR;have s1:=Sl.of_own o1;have q1:wb.heap.size<=wb.heap.size:=aH _;replace hX:=hX.next aR;clear o1 aR;refine cE 5 (by kernel_rfl) rfl (fun K hK=>?_);go_simp;refine(RP.out _ (aO.out.next hX)).mono ?_;rintro en wd ⟨_,rfl,o2,aR⟩;obtain⟨A2,c2,rfl⟩:=aI o2;refine hK.out _ _ (hX.next aR) (fun hH=>?_);clear hK;(try simp only[PU,aD])
   have WE:=aR.size;replace s1:=Sl.numS s1 aR (by omega);replace k3:=k3.next aR;have s2:=Sl.of_own o2;have q2:wc.heap.size<=wc.heap.size:=aH _;replace hX:=hX.next aR;clear o2 aR;refine aW 6 (v:=?_) rfl hH ?_;(try simp only[PU,aD])
   refine cE 8 (by kernel_rfl) rfl (fun K hK=>?_);obtain⟨rJ,mK,mJ⟩:=k3.open_;go_simp;refine hK.out _ _ ?h1 (fun hH=>?_)
   case h1=>exact hX.trans (Fr.below (O:=fun k=>k=wa.heap.size) (by repeat (first|exact Fr.refl _ _|(refine Fr.set ?_ ?_ _;rotate_left;exact rfl))) hX.size (fun k hk=>by rw[hk];omega))
   clear hK;(try simp only[PU,aD])
   clear mK mJ;refine wpAnyH_done (by kernel_rfl) ?_ _;refine eZ ?_;intro wf fG;have kf:Blk wf wa.heap.size 32 #[.slice none 0 0,.slice A1 ni c1,.slice A2 no c2]:=(by rw[fG];simpa using((k3.set_ 0 _).set_ 1 _).set_ 2 _);have ff:Fr (fun k=>k=wa.heap.size) wd wf:=(by rw[fG];repeat (first|exact Fr.refl _ _|(refine Fr.set ?_ ?_ _;rotate_left;exact rfl)));rw[<-fG]at hH;have Sj:=ff.size;have t1:Sl wf (fun k=>w1.heap.size<=k∧k<wf.heap.size∧k≠wa.heap.size) 1 (.slice A1 ni c1) ni (aC inp):=Sl.frS s1 ff fun k hk=>by obtain⟨h1,h2⟩:=hk;exact⟨by omega,by omega,by omega,by omega,by omega⟩
   have t2:Sl wf (fun k=>w1.heap.size<=k∧k<wf.heap.size∧k≠wa.heap.size) 1 (.slice A2 no c2) no (aC out):=Sl.frS s2 ff fun k hk=>by obtain⟨h1,h2⟩:=hk;exact⟨by omega,by omega,by omega,by omega,by omega⟩
   have Gs:w1.heap.size<=wa.heap.size:=by omega
   clear fG ff s1 s2 k3 hX;go_wp2_with fail;go_meet;exact⟨_,A1,c1,A2,c2,rfl,kf,t1,t2,Gs,hH⟩
 case rest=>
  obtain⟨b3,A1,c1,A2,c2,rfl,k3,s1,s2,Gs,xB⟩:=hcut;have tZ:=aA xB;have dD:=aA k3;have F1:=aA s1;have mH:=aA s2;have WC:=k3.lt;have hzc:=xB.size;obtain⟨aL,aJ,aK⟩:=(a9.out.next xB).open_;clear xB k3 s1 s2;go_wp2_with fail;clear aL aJ aK
  go_loopw [16] (fun v16 wr=>∃(j:Nat)(AJ:Option Addr)(cJ:Nat)(xs:List Value),j<=n∧v16=.int .i64 j∧Blk wr b3 32 #[.slice AJ j cJ,.slice A1 ni c1,.slice A2 no c2]∧wr.ownsRow wc.heap.size 30 1 (.slice AJ j cJ) j xs∧ElS w1.heap.size wr b3 (.slice AJ j cJ) xs cs∧Sl wr (Ah w1.heap.size wr b3 (.slice AJ j cJ)) 1 (.slice A1 ni c1) ni (aC inp)∧Sl wr (Ah w1.heap.size wr b3 (.slice AJ j cJ)) 1 (.slice A2 no c2) no (aC out)∧Below w1.heap.size w1 wr∧wc.heap.size<=wr.heap.size) (fun v _=>n-(intOf v).toNat)
  case atStart=>exact⟨0,none,0,[],fI _,rfl,dD.out,wE,fun i v l h=>by simp at h,F1.out.mono fun k hk=>⟨hk.1,hk.2.1,hk.2.2,fun h=>by cases h⟩,mH.out.mono fun k hk=>⟨hk.1,hk.2.1,hk.2.2,fun h=>by cases h⟩,tZ.out,aH _⟩
  case round=>
   obtain⟨j,AJ,cJ,xs,hj,rfl,k3,bB,pG,s1,s2,cF,wT⟩:=hrel;have RV:=aA k3;have HO:=aA bB;have Kx:=aA pG;have Mw:=aA s1;have Mx:=aA s2;have cG:=aA cF;clear k3 bB pG s1 s2 cF;by_cases eI:j<n
   ·obtain⟨v,hv⟩:=Ys.out j eI
    obtain⟨Av,nv,cv,rfl⟩:=YM.out.2 j v hv;have AG:j<cs.length:=by rw[HN.out];exact eI
    obtain⟨l,hl⟩:∃l,cs[j]?=some l:=⟨cs[j]'AG,dR AG⟩;have JI:=aA (iK.out j _ l hv hl);have HL:=aA hl;obtain⟨g,o,AE,cR,hcl⟩:=QS.out.2 (by omega);have jL:Below w.heap.size w wr:=aO.out.trans (cG.out.mono (by omega));have y0:wr.cell? ⟨g,o+j,none⟩=some (.slice Av nv cv):=(jL.cell (p:=⟨g,o+j,none⟩) (dX cR Tj.out)).trans (hcl j _ hv);have dU:=aA jL;have i0:(0:Int)<=(j:Int):=by omega
    have i1:(j:Int)<(n:Int):=by omega
    have f8:b3<wr.heap.size:=by omega
    have hnb:¬Value.ownBlock (.slice AJ j cJ)=some b3:=fun e=>by have:=(bH HO.out e).1;omega
    have SF:Hid (∀k,Value.ownBlock (.slice AJ j cJ)=some k->wc.heap.size<=k∧k<wr.heap.size):=aA fun k hk=>bH HO.out hk
    have HC:Hid (wr.cell? ⟨b3,0,none⟩=some (.slice AJ j cJ)):=aA (by rw[RV.out.cell];rfl);have t8:Hid (wr.frozen? ⟨b3,0,none⟩=false):=aA (RV.out.frozen 0);obtain⟨nl,hnl⟩:∃nl,l.length=nl:=⟨_,rfl⟩;have CG:=aA hnl;rw[hnl]at JI;subst AE;clear hv hl AG hcl jL hnl;go_upto_region 5 with fail;refine dN (S:=fun W=>Fr (fun k=>Value.ownBlock (.slice AJ j cJ)=some k) wr W) 7 (by kernel_rfl) ((Fr.refl _ _).drew) (fun hH=>?_);refine dK ?_;intro wa bP;have hX:Fr (fun k=>Value.ownBlock (.slice AJ j cJ)=some k) wr wa:=by rw[bP];exact(Fr.refl _ _).drew
    have rA:=HO.out;replace rA:wa.ownsRow wc.heap.size 30 1 (.slice AJ j cJ) j xs:=by rw[bP];exact mY rA
    replace hH:=hX;clear bP;refine aV (i:=0) (v:=?_) rfl (by kernel_rfl) (by kernel_rfl) (by kernel_rfl) (by kernel_rfl) (fun _ _ _ h=>h) (Or.inl ⟨by rfl,?hy⟩) hH ?_
    case hy=>(intro bW aN;clear aN;go_simp;try with_reducible rfl)
    (try simp only[PU,aD])
    refine aV (i:=1) (v:=?_) rfl (by kernel_rfl) (by kernel_rfl) (by kernel_rfl) (by kernel_rfl) (fun _ _ _ h=>h) (Or.inl ⟨by rfl,?hy⟩) hH ?_
    case hy=>(intro bW aN;have t:=(aN.cell f8 hnb 0).trans HC.out;clear aN;go_simp;try with_reducible rfl)
    (try simp only[PU,aD])
    refine aV (i:=2) (v:=?_) rfl (by kernel_rfl) (by kernel_rfl) (by kernel_rfl) (by kernel_rfl) (fun _ _ _ h=>h) (Or.inl ⟨by rfl,?hy⟩) hH ?_
    case hy=>(intro bW aN;clear aN;go_simp;try with_reducible rfl)
    (try simp only[PU,aD])
    refine bQ (i:=3) rfl (by kernel_rfl) (fun K hK=>?_);go_simp;refine(JI.out _ (dU.out.trans (hX.below (fC dU.out.size (aH _)) fun k hk=>by have:=(SF.out k hk).1;have:=tZ.out.size;omega))).mono ?_;rintro en wb ⟨_,rfl,ou,aR⟩;obtain⟨Au,cu,rfl⟩:=aI ou;refine hK.out _ _ (hX.next aR) (fun _=>?_);clear hK;(try simp only[PU,aD])
    replace rA:=aZ rA aR (aH _);have Jp:=hX.size;have Hh:=aR.size;replace hX:=hX.next aR;replace hH:=hX;have su:=Sl.of_own ou;clear ou aR;refine bQ (i:=4) rfl (by kernel_rfl) (fun K hK=>?_);go_simp;replace hH:=hX.alloc (.cells #[.slice Au nl cu] 30);refine hK.out _ _ hH (fun _=>?_);clear hK;(try simp only[PU,aD])
    refine dK ?_;intro wd bS;have aR:Below wb.heap.size wb wd:=by rw[bS];exact(aM _ _).alloc (aH _) _
    have pX:Blk wd wb.heap.size 30 #[.slice Au nl cu]:=by rw[bS];exact Blk.new _ _ _
    replace su:=Sl.numS su aR (aH _);have aBj:=aR.size;replace rA:=aZ rA aR (aH _);replace hX:=hX.next aR;replace hH:=hX;clear bS aR;refine bQ (i:=5) rfl (by kernel_rfl) (fun K hK=>?_);rw[if_pos (by rfl)];refine oE (.tmp 21) (.tmp 24) 29 rfl wc.heap.size 30 i2 _ 1 24 Tryz.underlying29 Tn.out HZ2.out Zf.out Vv.out rfl (by decide) (.slice AJ j cJ) j xs (by simp[Act.eval]) rA (by simp[Act.eval]) (oB pX) (by intro u hu;simp at hu;subst hu;rfl) (by unfold maxLen;omega) (by omega) (by have:=hX.size;omega) ?_;intro v_2 we bB eH nS;have VP:=hX.size;have hzd:=(Fr.ofGrownN eH).size;obtain⟨iS,iT,rfl⟩:=aI bB;have tY:Hid (∀k,Value.ownBlock (.slice iS (j+1) iT)=some k->Value.ownBlock (.slice AJ j cJ)=some k∨wd.heap.size<=k):=aA (fun k hk=>nS.imp (fun e=>by rw[<-e];exact hk) (fun e=>by rw[hk]at e;have e:=Option.some.inj e;omega));replace su:=Sl.frS su (Fr.ofGrownN eH) (D':=fun k=>wa.heap.size<=k∧k<wb.heap.size) fun k hk=>by obtain⟨h1,h2⟩:=hk;exact⟨by omega,fun e=>by have:=(SF.out k e).2;omega,h1,h2⟩
    replace hX:Fr (fun k=>Value.ownBlock (.slice AJ j cJ)=some k) wr we:=hX.trans (Fr.ofGrownN eH);replace hH:=hX;clear eH nS;refine hK.out _ _ hH (fun _=>?_);clear hK;(try simp only[PU,aD])
    refine aV (i:=6) (v:=?_) rfl (by kernel_rfl) (by kernel_rfl) (by kernel_rfl) (by kernel_rfl) (fun _ _ _ h=>h) (Or.inl ⟨by rfl,?hy⟩) hH ?_
    case hy=>(intro bW aN;clear aN;go_simp;try with_reducible rfl)
    (try simp only[PU,aD])
    refine fK (l:=7) rfl (by kernel_rfl) (by kernel_rfl) (fun K hK=>?_);have IG:=(World.frozen?_of_block (a:=⟨b3,0,none⟩) (hX.block _ f8 hnb)).trans t8.out;have C_f:=(hX.cell f8 hnb _).trans HC.out;go_simp;refine hK.out _ _ ?_;clear hK;(try simp only[PU,aD])
    refine KZ ?_;intro wf fG;have k3':=hX.blk RV.out hnb;have kf:Blk wf b3 32 #[.slice iS (j+1) iT,.slice A1 ni c1,.slice A2 no c2]:=(by rw[fG];simpa using k3'.set_ 0 (.slice iS (j+1) iT));have ff:Fr (fun k=>k=b3) we wf:=(by rw[fG];refine Fr.set ?_ ?_ _;rotate_left;exact rfl;exact Fr.refl _ _);have ZM:=bL bB ff fun k hk e=>by rw[e]at hk;rcases tY.out _ hk with h|h;exact hnb h;omega
    have gD:Fr (fun k=>Value.ownBlock (.slice AJ j cJ)=some k∨k=b3) wr wf:=(hX.mono fun k hk=>.inl hk).trans (ff.mono fun k hk=>.inr hk);have Ni:Hid (∀size n v ys,Sl wr (Ah w1.heap.size wr b3 (.slice AJ j cJ)) size v n ys->Sl wf (Ah w1.heap.size wf b3 (.slice iS (j+1) iT)) size v n ys):=aA fun size n v ys hs=>Sl.frS hs gD fun k hk=>⟨hk.2.1,fun e=>e.elim hk.2.2.2 hk.2.2.1,hk.1,dX hk.2.1 gD.size,hk.2.2.1,fun e=>(tY.out k e).elim hk.2.2.2 fun h=>by have:=hk.2.1;omega⟩
    have Sb:Sl wf (Ah w1.heap.size wf b3 (.slice iS (j+1) iT)) 1 (.slice Au nl cu) nl (aC l):=Sl.frS su ff fun k hk=>by obtain⟨h1,h2⟩:=hk;have:=hX.size;have:=ff.size;have:=cG.out.size;have:=tZ.out.size;exact⟨by omega,by omega,by omega,by omega,by omega,fun e=>(tY.out k e).elim (fun h=>by have:=(SF.out k h).2;omega) fun h=>by omega⟩
    have Wg:Hid (ElS w1.heap.size wf b3 (.slice iS (j+1) iT) (xs++ [.slice Au nl cu]) cs):=aA fun i u l' h1 h2=>by
     by_cases yM:i<xs.length
     ·rw[List.getElem?_append_left yM]at h1;exact Ni.out _ _ _ _ (Kx.out i u l' h1 h2)
     ·have xK:xs.length=j:=by have:=HO.out.1;omega
      have hi:i=j:=by have:=(lgS.1 h1).1;simp at this;omega
      subst hi;rw[List.getElem?_append_right (by omega),xK,Nat.sub_self]at h1;simp at h1;subst h1;rw[HL.out]at h2;injection h2 with h2;subst h2;rw[CG.out];exact Sb
    have RZ:=aA kf;have HOF:=aA ZM;have wW:=aA gD;have Az:Hid (Below w1.heap.size w1 wf):=aA (cG.out.trans (gD.below cG.out.size fun k hk=>hk.elim (fun h=>by have:=(SF.out k h).1;omega) fun h=>by omega));have Sj:=gD.size;clear fG k3' kf ff ZM gD Sb hX hH su bB pX C_f IG;go_wp2_with fail;exact⟨⟨j+1,iS,iT,xs++ [.slice Au nl cu],by omega,by first|rfl|go_num,RZ.out,HOF.out,Wg.out,Ni.out _ _ _ _ Mw.out,Ni.out _ _ _ _ Mx.out,Az.out,by omega⟩,(by simp[intOf];try omega)⟩
   ·obtain rfl:j=n:=(by omega)
    have nJ:=aA (bI.out.below cG.out hs1);obtain⟨rJ,mK,mJ⟩:=RV.out.open_;obtain⟨eL,eC,eF⟩:=nJ.out.open_;have dG:¬(b3=w.heap.size+1):=by omega
    clear QS iK YM Ys RM RP;go_wp2_with fail;generalize fG:World.setCell _ _ _=wf;have kf:Blk wf (w.heap.size+1) 32 #[.slice AJ j cJ,.slice A1 ni c1,.slice A2 no c2]:=(by rw[<-fG];simpa using((nJ.out.set_ 0 (.slice AJ j cJ)).set_ 1 (.slice A1 ni c1)).set_ 2 (.slice A2 no c2));have ff:Fr (fun k=>k=w.heap.size+1) wr wf:=(by rw[<-fG];repeat (first|exact Fr.refl _ _|(refine Fr.set ?_ ?_ _;rotate_left;exact rfl)));clear fG mK eC mJ eF;refine bodyPost_ret_by (eP rfl _ _ (w.heap.size+1) _ _ _ rfl kf Tryz.underlying32 rfl (by rw[mW];rfl)) rfl ?_;have l6:=ff.size;have up:∀size n v ys,Sl wr (Ah w1.heap.size wr b3 (.slice AJ j cJ)) size n v ys->Sl wf (fun k=>w.heap.size<=k∧k<wf.heap.size) size n v ys:=fun size n v ys hs=>Sl.frS hs ff fun k hk=>⟨hk.2.1,by have:=hk.1;omega,by have:=hk.1;omega,by have:=hk.2.1;omega⟩
    refine⟨_,_,_,rfl,⟨⟨xs,?_,fun i u l h1 h2=>up _ _ _ _ (Kx.out i u l h1 h2)⟩,?_,?_⟩,?_⟩
    ·rw[HN.out]
     exact(Sl.of_own (bL HO.out ff fun k hk e=>by have:=(bH HO.out hk).1;omega)).mono fun k hk=>⟨by have:=hk.1;omega,hk.2⟩
    ·rw[oM.out];exact up _ _ _ _ Mw.out
    ·rw[lF.out];exact up _ _ _ _ Mx.out
    ·exact(aO.out.trans (cG.out.mono (by omega))).trans (ff.below (by have:=aO.out.size;have:=cG.out.size;omega) fun k hk=>by omega)
end
end Go.Proofs.YtakfdnnlhjhcfaaGreatDoor
namespace Bk
open Go Go.RowKit
def PSt.fin(σ:PSt):List (List Int):=(σ.base.idx.take (σ.base.idx.length-σ.base.locals)).map fun i=>σ.cells.getD i []
def qS(xs:List Value)(m:Nat):Array Value:=(xs++List.replicate m (Value.slice none 0 0)).toArray
theorem PG{xs:List Value}{m:Nat}:(qS xs (m+1))[xs.length]?=some (.slice none 0 0):=by
 unfold qS;simp only[List.getElem?_toArray];rw[List.getElem?_append_right (aH _),Nat.sub_self,List.replicate_succ];rfl
theorem PH{xs:List Value}{m:Nat}(u:Value):(qS xs (m+1)).setIfInBounds xs.length u=qS (xs++ [u]) m:=by
 unfold qS;simp only[List.setIfInBounds_toArray];congr 1;rw[List.set_append,if_neg (by omega),Nat.sub_self,List.replicate_succ];simp
theorem PF{xs:List Value}{i:Nat}{u:Value}(h:xs[i]?=some u):(qS xs 0)[i]?=some u:=by
 unfold qS;simpa using h
end Bk
namespace Go.Proofs.YtakfdnnlhjhcfaaGreatDoor
open Go.RowKit Bk
section
variable{w w':World}{B:Nat}{S:Sv}{σ:PSt}{kd:Nat->Int}{m:Nat}
theorem TI(h:SOn w B S σ)(ho:σ.Ok kd m)(hm:m<=5000):
  Calls Tryz.prog 45 #[.pointer (some ⟨S.st,0,none⟩)] w fun e w'=>∃uC uI uO,e=.returned (.agg #[uC,uI,uO])∧SW w' (fun k=>w.heap.size<=k∧k<w'.heap.size) uC uI uO σ.fin σ.inp σ.out∧Below w.heap.size w w':=by
 have G7:=aA (fun W(hW:Below w.heap.size w W)=>LI (w:=W) (h.tape.next hW) (Sl.ownS (aZ h.inp hW (aH _))) ho.inp);have EU:=aA (fun W(hW:Below w.heap.size w W)=>FI (w:=W) (h.tape.next hW) (Sl.ownS (aZ h.out hW (aH _))) ho.out);obtain⟨AB,cB,eB⟩:=aI h.base.refs;obtain⟨AV,cV,eV⟩:=aI h.base.vars;have hlen:=ho.base.len;have Qu:=ho.base.loc;have Gf:=ho.base.bd;have Fw:=h.top;rw[eB,eV]at Fw;have OC:=h.base.refs;rw[eB]at OC;have HT:=aA Fw;have IK:Hid (∀j,j<σ.base.idx.length-σ.base.locals->∃(g o:Nat)(b:Nat)(l:List Int)(A:Option Addr)(c:Nat),AB=some ⟨g,o,none⟩∧σ.fin[j]?=some l∧w.cell? ⟨g,o+j,none⟩=some (.pointer (some ⟨b,0,none⟩))∧Blk w b 127 #[.slice A l.length c]∧g<w.heap.size∧∀W,Below w.heap.size w W->Calls Tryz.prog 30 #[.slice A l.length c] W fun e w'=>∃v,e=.returned v∧w'.ownsRow W.heap.size 3 1 v l.length (aC l)∧Below W.heap.size W w'):=aA fun j hj=>by
  have U8:j<σ.base.idx.length:=by omega
  obtain⟨i,hi⟩:∃i,σ.base.idx[j]?=some i:=⟨_,dR U8⟩;obtain⟨v,hv⟩:∃v,σ.base.vars[j]?=some v:=⟨_,dR (by omega)⟩;have QX:=(ho.base.kind j v i hv hi).1;have hl:σ.cells[i]?=some (σ.cells[i]'QX):=dR QX;have bM:=h.cells i _ hl;obtain⟨A,c,e1⟩:=aI bM.own;obtain⟨A',n',hAA,hR⟩:∃A' c',Value.slice AB σ.base.idx.length cB=.slice A' σ.base.idx.length c'∧Rd w (fun b=>B<=b∧b<w.heap.size) 1 A' σ.base.idx.length (S.ptrs σ.base.idx):=by
   obtain⟨A',c',e,_,_,hR⟩:=Sl.of_own OC;exact⟨A',c',e,hR⟩
  injection hAA with hAA _ _;subst hAA;obtain⟨g,o,e2,hg,hc⟩:=hR.2 (by omega);have hb:=bM.blk;rw[e1]at hb;refine⟨g,o,S.cb i,σ.cells[i]'QX,A,c,e2,?_,hc j _ (by simp[Sv.ptrs,hi]),hb,hg.2,fun W hW=>?_⟩
  ·unfold PSt.fin
   rw[List.getElem?_map,List.getElem?_take,if_pos hj,hi];simp[QX]
  ·have:=eR (w:=W) (Sl.belowS (Sl.ownS bM.own) hW) (by have:=(ho.one i _ hl).2;omega)
   rwa [e1]at this
 have hfl:σ.fin.length=σ.base.idx.length-σ.base.locals:=by unfold PSt.fin;simp
 have aF:IntKind.i64.wrap ((σ.base.idx.length:Int)-(σ.base.locals:Int))=((σ.base.idx.length-σ.base.locals:Nat):Int):=(wrap_small _ (by omega) (by omega)).trans (by omega);obtain⟨n,hn⟩:∃n,σ.base.idx.length-σ.base.locals=n:=⟨_,rfl⟩;rw[hn]at IK hfl aF;have hn5:n<=5000:=by omega
 have hnl:n<=σ.base.idx.length:=by omega
 have XW:=aA hfl;obtain⟨fc,hfc⟩:∃fc,σ.fin=fc:=⟨_,rfl⟩;rw[hfc]at IK XW⊢;obtain⟨i2,li,lz,ls,lb⟩:=info_parts yS;have mkC:∀W:World,(Instr.makeSlice 29 (.int .i64 (n:Int)) (.int .i64 (n:Int))).run Tryz.prog W=.ok (.slice (some ⟨W.heap.size,0,none⟩) n n) (W.alloc (.cells (madeCells #[.slice none 0 0] n) 30)):=fun W=>by
  have:=kA (P:=Tryz.prog) 29 30 i2 _ Tryz.underlying29 li lz .i64 .i64 n n (aH _) (by rw[lb];omega) (by omega) W;rw[ls,Nat.mul_one]at this;exact this
 have MK0:Hid (madeCells #[.slice none 0 0] n=qS [] n):=aA (by
  refine Array.ext (by simp[madeCells,qS]) fun i h1 h2=>?_
  simp[madeCells,qS,Nat.mod_one])
 obtain⟨ni,hni⟩:∃n,σ.inp.length=n:=⟨_,rfl⟩;obtain⟨no,hno⟩:∃n,σ.out.length=n:=⟨_,rfl⟩;rw[hni]at G7;rw[hno]at EU;have oM:=aA hni;have lF:=aA hno;have aBd:=h.top.lt;generalize σ.base.idx.length=nb at *;generalize Qt:σ.base.locals=lo at *;generalize σ.base.vars.length=nv at *;generalize S.bv=bv at *;generalize S.bc=bcv at *;subst eV;subst eB;generalize σ.inp=sin at *;generalize σ.out=sout at *;generalize S.st=st at *;generalize gY:S.cv=cv at *;obtain⟨CA,cn,cc,rfl⟩:∃A n c,cv=.slice A n c:=by rw[<-gY];obtain⟨A,c,e⟩:=aI h.calls;exact⟨A,_,c,e⟩
 generalize S.tb=tb at *;clear h ho hlen Qu Gf Fw OC hn hfl hfc Qt gY hni hno li lz ls lb;obtain⟨aL,aJ,aK⟩:=HT.out.open_;have l0:(0:Int)<=(n:Int):=by omega
 go_enter Tryz.func45,Tryz.ntmps45;go_upto_region 3 with fail;refine aB ?_;intro w1 pK;have aG:Below w.heap.size w w1:=(by rw[pK];go_grown);have bI:Hid (Blk w1 w.heap.size 32 #[.slice none 0 0,.slice none 0 0,.slice none 0 0]):=aA (by rw[pK];exact Blk.new _ _ _);have aO:=aA aG;have hs1:=bI.out.lt;have Ua:=aA (HT.out.next aG);clear pK aG aL aJ aK;obtain⟨aL,aJ,aK⟩:=Ua.out.open_;go_region;refine eZ ?_;intro wq hwq;have hbq:Below w1.heap.size w1 wq:=(by rw[hwq];go_grown);have II:=aA hbq;have hsq:=hbq.size;clear hwq hbq aL aJ aK;go_upto_region 5 with fail;refine aB ?_;intro w2 eD;have kC:Hid (Blk w2 wq.heap.size 30 (qS [] n)):=aA (by rw[eD,<-MK0.out];exact Blk.new _ _ _);have aP:=aA (II.out.next (show Below wq.heap.size wq w2 by rw[eD];go_grown));have hs2:=aP.out.size;have rY:=kC.out.lt;clear eD MK0 mkC II;generalize wq.heap.size=bc at *;go_wp2_with fail
 go_loopw [25] (fun v25 wr=>∃(j:Nat)(xs:List Value),j<=n∧v25=.int .i64 j∧xs.length=j∧Blk wr bc 30 (qS xs (n-j))∧(∀(i:Nat)(u:Value)(l:List Int),xs[i]?=some u->fc[i]?=some l->Sl wr (fun k=>w2.heap.size<=k∧k<wr.heap.size) 1 u l.length (aC l))∧Fr (fun k=>k=bc) w2 wr) (fun v _=>n-(intOf v).toNat)
 case atStart=>exact⟨0,[],fI _,rfl,rfl,kC.out,fun i u l h=>by simp at h,Fr.refl _ _⟩
 case round=>
  obtain⟨j,xs,hj,rfl,xK,d9,pG,gD⟩:=hrel;have VR:Below w1.heap.size w1 wr:=aP.out.trans (gD.below hs2 fun k hk=>by omega);have cG:=aA VR;have dU:=aA (aO.out.trans (VR.mono (by omega)));have JX:=aA d9;have Kx:=aA pG;have s8:=aA gD;have Nm:=aA xK;have Um:=Ua.out.next VR;have tQ:=gD.size;clear d9 pG gD VR xK;by_cases eI:j<n
  ·obtain⟨g,o,b,l,A,c,AE,hfl,V1,sT,gR,hcl⟩:=IK.out j eI
   have iK:=aA hcl;have HF:=aA hfl;have e0:wr.cell? ⟨g,o+j,none⟩=some (.pointer (some ⟨b,0,none⟩)):=(dU.out.cell (p:=⟨g,o+j,none⟩) gR).trans V1;have e1:wr.cell? ⟨b,0,none⟩=some (.slice A l.length c):=by rw[(sT.next dU.out).cell];rfl
   have i0:(0:Int)<=(j:Int):=by omega
   have i1:(j:Int)<(n:Int):=by omega
   have i2:(j:Int)<(nb:Int):=by omega
   obtain⟨nl,hnl⟩:∃nl,l.length=nl:=⟨_,rfl⟩;have CG:=aA hnl;rw[hnl]at e1 iK;obtain⟨mm,hmm⟩:∃mm,n-j=mm+1:=⟨n-j-1,by omega⟩;have HMM:=aA hmm;have Ms:Hid (Blk wr bc 30 (qS xs (mm+1))):=aA (by rw[<-HMM.out];exact JX.out);obtain⟨aL,aJ,aK⟩:=Um.open_;subst AE;clear hcl hfl V1 sT hnl hmm Um G7 EU IK;go_wp2_with fail;refine(iK.out wr dU.out).mono ?_;rintro e w3 ⟨u,rfl,ou,aT⟩;have HU:=aA ou;have bD:=aA aT;have DN:=Ms.out.next aT;have ca:w3.cell? ⟨bc,j,none⟩=some (.slice none 0 0):=by rw[DN.cell,<-Nm.out];exact PG
   have fa:=DN.frozen j;have za:=DN.lt;have ZN:=aT.size;obtain⟨Au,cu,rfl⟩:=aI ou;clear ou aT DN aL aJ aK e0 e1;go_wp2_with fail;have Rq:Blk (w3.setCell ⟨bc,j,none⟩ (.slice Au nl cu)) bc 30 (qS (xs++ [.slice Au nl cu]) mm):=by rw[<-PH,Nm.out];exact(Ms.out.next bD.out).set_ _ _
   have pI:Fr (fun k=>k=bc) w3 (w3.setCell ⟨bc,j,none⟩ (.slice Au nl cu)):=by refine Fr.set ?_ ?_ _;rotate_left;exact rfl;exact Fr.refl _ _
   have ZO:=pI.size;refine⟨⟨j+1,xs++ [.slice Au nl cu],by omega,by first|rfl|go_num,by have:=Nm.out;simp;omega,by rw[show n-(j+1)=mm by have:=HMM.out;omega];exact Rq,fun i u l' h1 h2=>?_,(s8.out.next bD.out).trans pI⟩,(by simp[intOf];try omega)⟩;by_cases yM:i<xs.length
   ·rw[List.getElem?_append_left yM]at h1
    exact Sl.frS (Kx.out i u l' h1 h2) ((Fr.of (O:=fun k=>k=bc) bD.out).trans pI) fun k hk=>by obtain⟨h3,h4⟩:=hk;exact⟨h4,by omega,h3,by omega⟩
   ·have xK:=Nm.out
    have hi:i=j:=by have:=(lgS.1 h1).1;simp at this;omega
    subst hi;rw[List.getElem?_append_right (by omega),xK,Nat.sub_self]at h1;simp at h1;subst h1;rw[HF.out]at h2;injection h2 with h2;subst h2;rw[CG.out];exact Sl.frS (Sl.of_own HU.out) pI fun k hk=>by obtain⟨h3,h4⟩:=hk;exact⟨h4,by omega,by omega,by omega⟩
  ·obtain rfl:j=n:=(by omega)
   have HKT:=aA Um;have nJ:=aA (bI.out.below cG.out hs1);have dG:¬st=w.heap.size:=by omega
   have Qy:¬bc=w.heap.size:=by omega
   clear Um IK eI;go_wp2_with fail;refine wp_region_held_drew (S:=fun W=>Fr (fun k=>k=w.heap.size) wr W) (by kernel_rfl) ((Fr.refl _ _).drew) (fun hH=>?_);refine aE ?_;intro wa bP;have hX:Below wr.heap.size wr wa:=by rw[bP];exact(aM _ _).drew
   replace hH:Fr (fun k=>k=w.heap.size) wr wa:=Fr.of hX;have Jp:=hX.size;clear bP;refine aW 0 (v:=?_) rfl hH ?_;(try simp only[PU,aD])
   refine aW 1 (v:=?_) rfl hH ?_;(try simp only[PU,aD])
   refine aW 2 (v:=?_) rfl hH ?_;(try simp only[PU,aD])
   refine aW 3 (v:=?_) rfl hH ?_;(try simp only[PU,aD])
   refine cH 4 (v:=?_) rfl ?hy hH ?_
   case hy=>(intro bW aN;have t:=(aN.blk HKT.out dG).cell;clear aN;go_simp;try with_reducible rfl)
   (try simp only[PU,aD])
   refine aW 6 (v:=?_) rfl hH ?_;(try simp only[PU,aD])
   refine aW 7 (v:=?_) rfl hH ?_;(try simp only[PU,aD])
   refine aW 8 (v:=?_) rfl hH ?_;(try simp only[PU,aD])
   refine cH 9 (v:=?_) rfl ?hy hH ?_
   case hy=>(intro bW aN;have t:=(aN.blk HKT.out dG).cell;clear aN;go_simp;try with_reducible rfl)
   (try simp only[PU,aD])
   refine cE 5 (by kernel_rfl) rfl (fun K hK=>?_);go_simp;refine(G7.out _ (dU.out.next hX)).mono ?_;rintro en wb ⟨_,rfl,o1,aR⟩;obtain⟨A1,c1,rfl⟩:=aI o1;refine hK.out _ _ (hH.next aR) (fun hH=>?_);clear hK;(try simp only[PU,aD])
   have s1:=Sl.of_own o1;have vV:=aR.size;replace hX:=hX.next aR;clear o1 aR;refine cE 10 (by kernel_rfl) rfl (fun K hK=>?_);go_simp;refine(EU.out _ (dU.out.next hX)).mono ?_;rintro en wc ⟨_,rfl,o2,aR⟩;obtain⟨A2,c2,rfl⟩:=aI o2;refine hK.out _ _ (hH.next aR) (fun hH=>?_);clear hK;(try simp only[PU,aD])
   replace s1:=Sl.numS s1 aR (aH _);have s2:=Sl.of_own o2;have OL:=aR.size;replace hX:=hX.next aR;clear o2 aR;refine aW 11 (v:=?_) rfl hH ?_;(try simp only[PU,aD])
   refine cE 12 (by kernel_rfl) rfl (fun K hK=>?_);obtain⟨eL,eC,eF⟩:=(nJ.out.next hX).open_;go_simp;refine hK.out _ _ ?h1 (fun hH=>?_)
   case h1=>(repeat (first|exact hH|(refine Fr.set ?_ ?_ _;rotate_left;exact rfl)))
   clear hK;(try simp only[PU,aD])
   clear eL eC eF;refine wpAnyH_done (by kernel_rfl) ?_ _;generalize fG:World.setCell _ _ _=wf at *;have kf:Blk wf w.heap.size 32 #[.slice (some ⟨bc,0,none⟩) j j,.slice A1 ni c1,.slice A2 no c2]:=(by rw[<-fG];simpa using(((nJ.out.next hX).set_ 0 (.slice (some ⟨bc,0,none⟩) j j)).set_ 1 (.slice A1 ni c1)).set_ 2 (.slice A2 no c2));have ff:Fr (fun k=>k=w.heap.size) wc wf:=(by rw[<-fG];repeat (first|exact Fr.refl _ _|(refine Fr.set ?_ ?_ _;rotate_left;exact rfl)));have Sj:=ff.size;have hzx:=hX.size;have RZ:=aA kf;have wW:=aA ff;have HX:=aA hX;have F1:=aA s1;have mH:=aA s2;have HH:=aA hH;clear fG kf ff hX s1 s2 hH;go_wp2_with fail;refine bodyPost_ret_by (eP rfl _ _ w.heap.size _ _ _ rfl RZ.out Tryz.underlying32 rfl (by rw[mW];rfl)) rfl ?_;have d9:=HH.out.blk JX.out Qy;rw[Nat.sub_self]at d9;refine⟨_,_,_,rfl,⟨⟨xs,?_,fun i u l h1 h2=>?_⟩,?_,?_⟩,?_⟩
   ·rw[XW.out]
    refine⟨_,j,rfl,aH _,(fun h=>by cases h),by rw[Nm.out,Nat.mul_one],fun _=>⟨bc,0,rfl,⟨by omega,by omega⟩,fun k v hk=>?_⟩⟩;rw[d9.cell,Nat.zero_add];exact PF hk
   ·exact Sl.frS (Kx.out i u l h1 h2) HH.out fun k hk=>by obtain⟨h3,h4⟩:=hk;exact⟨h4,by omega,by omega,by omega⟩
   ·rw[oM.out];exact Sl.frS F1.out wW.out fun k hk=>by obtain⟨h3,h4⟩:=hk;exact⟨by omega,by omega,by omega,by omega⟩
   ·rw[lF.out];exact Sl.frS mH.out wW.out fun k hk=>by obtain⟨h3,h4⟩:=hk;exact⟨by omega,by omega,by omega,by omega⟩
   ·exact dU.out.trans (HH.out.below dU.out.size fun k hk=>by omega)
end
end Go.Proofs.YtakfdnnlhjhcfaaGreatDoor
