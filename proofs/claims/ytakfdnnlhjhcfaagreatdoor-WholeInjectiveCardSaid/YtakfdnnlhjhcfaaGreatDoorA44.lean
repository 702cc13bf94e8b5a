/- Part of the proof. -/
import Derived.Test.YtakfdnnlhjhcfaaGreatDoorA32
set_option linter.unusedVariables false
set_option linter.unusedSimpArgs false
set_option maxRecDepth 100000
set_option maxHeartbeats 4000000
namespace Go.Proofs.YtakfdnnlhjhcfaaGreatDoor
def tByte:TypeId:=5
end Go.Proofs.YtakfdnnlhjhcfaaGreatDoor
namespace Bk
open Go Go.RowKit
def g7(x:Int)(s:Nat):Nat->List Value
 |0=> []
 |j+1=>g7 x s j++ [.int .u8 (x/2^(8*(s-1-j))%256)]
theorem x5(x:Int)(s:Nat):∀j,(g7 x s j).length=j
 |0=>rfl
 |j+1=>by simp[g7,x5 x s j]
def kS(l:List Int):Nat->List Value
 |0=> []
 |j+1=>kS l j++g7 (l.getD j 0) 8 8
def mO(vs:List Vr)(cs:List (List Int)):Nat->List Value
 |0=> []
 |j+1=>mO vs cs j++(if(vs.getD j ⟨⟨#[]⟩,0,0⟩).k=3 then g7 ((cs.getD j []).length:Int) 2 2 else [])++kS (cs.getD j []) (cs.getD j []).length
def oI(vs:List Vr)(cs:List (List Int))(inp out:List Int):List Value:=mO vs cs vs.length++g7 (inp.length:Int) 2 2++kS inp inp.length++g7 (out.length:Int) 2 2++kS out out.length
structure RowG(w:World)(B:Nat)(v:Value)(w':World)(v':Value)(n':Nat)(ys:List Value):Prop where
 own:w'.ownsRow B Go.Proofs.YtakfdnnlhjhcfaaGreatDoor.tByte 1 v' n' ys
 fr:Fr (fun k=>v.ownBlock=some k) w w'
 at_:∀k,v'.ownBlock=some k->v.ownBlock=some k∨w.heap.size<=k
end Bk
namespace Go.Proofs.YtakfdnnlhjhcfaaGreatDoor
open Go.RowKit Bk
theorem AT:(Tryz.prog.info? 5).map (fun i=>(i.zero,i.size,i.bytes))=some (some (.int .u8 0),1,1):=by kernel_rfl
section
variable{w w':World}{B:Nat}
theorem gV{v:Value}{n s:Nat}{xs:List Value}(x:Int)(ho:w.ownsRow B 5 1 v n xs)(hB:B<=w.heap.size)(hn:n<=10000000)(hs:s<=8):
  Calls Tryz.prog 38 #[v,.int .i64 x,.int .i64 s] w fun e w'=>∃v',e=.returned v'∧RowG w B v w' v' (n+s) (xs++g7 x s s):=by
 obtain⟨A,c,rfl⟩:=aI ho;obtain⟨i0,li,lz,ls,lb⟩:=info_parts AT;have HI:=aA li;have HZ:=aA lz;have lI:=aA ls;have jY:=aA lb;have HO:=aA ho;clear li lz ls lb ho;go_enter Tryz.func38,Tryz.ntmps38;go_wp2_with fail
 go_loopw [9,0] (fun v9 v0 wr=>∃(j:Nat)(A1:Option Addr)(c1:Nat),j<=s∧v9=.int .i64 j∧v0=.slice A1 (n+j) c1∧RowG w B (.slice A n c) wr (.slice A1 (n+j) c1) (n+j) (xs++g7 x s j)) (fun v _ _=>s-(intOf v).toNat)
 case atStart=>exact⟨0,A,c,fI _,rfl,rfl,⟨by simpa[g7,tByte]using HO.out,Fr.refl _ _,fun k hk=>.inl hk⟩⟩
 case round=>
  obtain⟨j,A1,c1,hj,rfl,rfl,hg⟩:=hrel;have HG:=aA hg;have wT:=hg.fr.size;clear hg;by_cases eI:j<s
  ·go_wp2_with (at_builtin;refine dF rfl (.tmp 12) (.tmp 21) 52 rfl B 5 i0 _ 1 1 Tryz.underlying52 HI.out HZ.out lI.out jY.out rfl (by decide) (.slice A1 (n+j) c1) (n+j) (xs++g7 x s j) rfl (aZ HG.out.own ((aM _ _).alloc (aH _) _) (aH _)) rfl (oB (Blk.new _ _ _)) (by intro u hu;simp at hu;rcases hu with rfl;rfl) (by unfold maxLen;omega) (by omega) (by simp;omega) ?_)
   intro v_3 wf vT NQ NE;obtain⟨Ih,Iy,rfl⟩:=aI vT;have JR:=aA vT;have jK:Hid (Fr (fun k=>Value.ownBlock (.slice A1 (n+j) c1)=some k) wr wf):=aA ((Fr.of ((aM _ _).alloc (aH _) _)).trans (Fr.ofGrownN NQ));have JF:Hid (∀k,Value.ownBlock (.slice Ih (n+j+1) Iy)=some k->Value.ownBlock (.slice A1 (n+j) c1)=some k∨wr.heap.size<=k):=aA fun k hk=>NE.imp (fun e=>by rw[<-e];exact hk) fun e=>by rw[hk]at e;have e:=Option.some.inj e;have l6:=((aM wr.heap.size wr).alloc (aH _) (.cells #[.int .u8 (x/2^(8*(s-1-j))%256)] 5)).size;omega
   clear vT NQ NE;go_wp2_with fail;refine⟨⟨j+1,Ih,Iy,by omega,by first|rfl|go_num,rfl,⟨?_,?_,fun k hk=>?_⟩⟩,(by simp[intOf];try omega)⟩
   ·exact JR.out
   ·have hf:=jK.out
    exact⟨hf.os.trans HG.out.fr.os,hf.tape.trans HG.out.fr.tape,hf.output.trans HG.out.fr.output,fC wT hf.size,fun k hk C5=>(hf.block k (dX hk wT) (fun h=>(HG.out.at_ k h).elim C5 fun h2=>by omega)).trans (HG.out.fr.block k hk C5)⟩
   ·rcases JF.out k hk with h|h
    ·exact HG.out.at_ k h
    ·exact .inr (by omega)
  ·obtain rfl:j=s:=by omega
   go_wp2_with fail;go_ret;exact⟨_,rfl,HG.out⟩
theorem RowG.trans{w1 w2:World}{v v1 v2:Value}{n1 n2:Nat}{ys zs:List Value}(h:RowG w B v w1 v1 n1 ys)(h':RowG w1 B v1 w2 v2 n2 zs):RowG w B v w2 v2 n2 zs:=by
 have hs:=h.fr.size;have hf:=h'.fr;refine⟨h'.own,⟨hf.os.trans h.fr.os,hf.tape.trans h.fr.tape,hf.output.trans h.fr.output,fC hs hf.size,fun k hk C5=>(hf.block k (dX hk hs) (fun h1=>(h.at_ k h1).elim C5 fun h2=>by omega)).trans (h.fr.block k hk C5)⟩,fun k hk=>?_⟩;rcases h'.at_ k hk with h1|h1
 ·exact h.at_ k h1
 ·exact .inr (by omega)
theorem iO{v u:Value}{n:Nat}{xs:List Value}{l:List Int}{D:Nat->Prop}(ho:w.ownsRow B 5 1 v n xs)(hB:B<=w.heap.size)(hn:n<=1000000)(hu:Sl w D 1 u l.length (aC l))(hD:∀k,D k->k<w.heap.size∧v.ownBlock≠some k)(hl:l.length<=10000):
  Calls Tryz.prog 39 #[v,u] w fun e w'=>∃v',e=.returned v'∧RowG w B v w' v' (n+8*l.length) (xs++kS l l.length):=by
 obtain⟨A,c,rfl⟩:=aI ho;obtain⟨AL,cL,rfl,_,_,hR⟩:=hu;have HR:=aA hR;obtain⟨m,hm⟩:∃m,l.length=m:=⟨_,rfl⟩;have HM:=aA hm;rw[hm]at HR hl⊢;have HO:=aA ho;have HD:=aA hD;clear ho hR hm hD;go_enter Tryz.func39,Tryz.ntmps39;go_wp2_with fail
 go_loopw [9,0] (fun v9 v0 wr=>∃(j:Nat)(A1:Option Addr)(c1:Nat),j<=m∧v9=.int .i64 j∧v0=.slice A1 (n+8*j) c1∧RowG w B (.slice A n c) wr (.slice A1 (n+8*j) c1) (n+8*j) (xs++kS l j)) (fun v _ _=>m-(intOf v).toNat)
 case atStart=>exact⟨0,A,c,fI _,rfl,rfl,⟨by simpa[kS,tByte]using HO.out,Fr.refl _ _,fun k hk=>.inl hk⟩⟩
 case round=>
  obtain⟨j,A1,c1,hj,rfl,rfl,hg⟩:=hrel;have HG:=aA hg;have wT:=hg.fr.size;clear hg;by_cases eI:j<m
  ·obtain⟨g,o,hA,hg,hc⟩:=HR.out.2 (by omega)
   have AG:j<l.length:=by rw[HM.out];exact eI
   have y0:wr.cell? ⟨g,o+j,none⟩=some (.int .i64 (l.getD j 0)):=(HG.out.fr.cell (HD.out g hg).1 (HD.out g hg).2 (o+j)).trans (hc j _ (by simp[aC,AG,eX]));obtain⟨x,hx⟩:∃x,l.getD j 0=x:=⟨_,rfl⟩;rw[hx]at y0;have HX:=aA hx;have Kc:=aA (gV (s:=8) x HG.out.own (by omega) (by omega) (by omega));have i0:(0:Int)<=(j:Int):=by omega
   have i1:(j:Int)<(m:Int):=by omega
   subst hA;clear hc hx AG;go_wp2_with fail;refine Kc.out.mono ?_;rintro e w3 ⟨v3,rfl,hg3⟩;obtain⟨A3,c3,rfl⟩:=aI hg3.own;have EL:=aA (RowG.trans HG.out hg3);clear hg3 y0 Kc;go_wp2_with fail;have rG:=EL.out;rw[List.append_assoc,<-HX.out]at rG;exact⟨⟨j+1,A3,c3,by omega,by first|rfl|go_num,rfl,rG⟩,(by simp[intOf];try omega)⟩
  ·obtain rfl:j=m:=by omega
   go_wp2_with fail;go_ret;exact⟨_,rfl,HG.out⟩
theorem RowG.next{w1 w2:World}{v v1:Value}{n1:Nat}{ys:List Value}(h:RowG w B v w1 v1 n1 ys)(hb:Below w1.heap.size w1 w2):RowG w B v w2 v1 n1 ys:=⟨aZ h.own hb (aH _),h.fr.next hb,h.at_⟩
theorem LD{w:World}{B:Nat}(bG:B<=w.heap.size)(V:Option Addr)(nv cv:Nat)(vs:List Vr)(hv:VsAt w B V vs)(hnv:vs.length=nv){vC vI vO:Value}{cs:List (List Int)}{inp out:List Int}(hS:SW w (·<B) vC vI vO cs inp out)(eN:eS vs cs inp out=true)(w':World)(hb:Below B w w'):
  Calls Tryz.prog 19 #[.slice V nv cv,.agg #[vC,vI,vO]] w' fun en w''=>∃v n,en=.returned (.tuple #[v,.int .i64 0])∧n<=17592186043904∧w''.ownsRow w'.heap.size 5 1 v n (oI vs cs inp out)∧Below w'.heap.size w' w'':=by
 have W0:=aA (fun W hW=>Y5 bG V nv cv vs hv hnv hS W hW);rw[eN]at W0;have hok:=m6 eN;have hc:cs.length=vs.length:=by
  unfold eS at eN;simp only[Bool.and_eq_true,decide_eq_true_eq]at eN;exact eN.2.1
 have Qx:nv<=32:=by have:vs.length<=32:=hok.base.bd;omega
 have G0:inp.length<=4096:=hok.inp;have DL:out.length<=4096:=hok.out;obtain⟨sv,d9,pG⟩:=hS.row;have IK:Hid (∀j,j<nv->∃(g o:Nat)(v:Vr)(l:List Int)(A:Option Addr)(c:Nat),vs[j]?=some v∧cs[j]?=some l∧l.length<=1000∧(∃n c,vC=.slice (some ⟨g,o,none⟩) n c∧n=nv)∧g<B∧w.cell? ⟨g,o+j,none⟩=some (.slice A l.length c)∧Sl w (·<B) 1 (.slice A l.length c) l.length (aC l)):=aA fun j hj=>by
  have Jg:j<cs.length:=by omega
  obtain⟨A',c',e1,_,_,hR⟩:=d9;obtain⟨g,o,e2,hg,hc⟩:=hR.2 (by omega);have Vd:sv.length=cs.length:=by have:=hR.1;omega
  have hu:sv[j]?=some (sv[j]'(by omega)):=dR (by omega);have hlj:cs[j]?=some (cs[j]'Jg):=dR Jg;have hvj:vs[j]?=some (vs[j]'(by omega)):=dR (by omega);have hs:=pG j _ _ hu hlj;obtain⟨A,c,e3,_⟩:=id hs;have Oy:=(hok.one j _ hlj).2;exact⟨g,o,_,_,A,c,hvj,hlj,Oy,⟨_,c',by rw[e1,e2],by omega⟩,hg,by rw[hc j _ hu,e3],by rw[<-e3];exact hs⟩
 have G7:=aA hS.inp;have EU:=aA hS.out;have HV:=aA hv;have oG:=aA hnv;have HB:=aA hb;have yJ:B<=w'.heap.size:=by have:=hb.size;omega
 obtain⟨AC,nc,cC,rfl⟩:∃A n c,vC=.slice A n c:=by obtain⟨A,c,e,_⟩:=d9;exact⟨A,_,c,e⟩
 obtain⟨AI,cI,rfl,_⟩:=hS.inp;obtain⟨AO,cO,rfl,_⟩:=hS.out;obtain⟨ni,hni⟩:∃n,inp.length=n:=⟨_,rfl⟩;obtain⟨no,hno⟩:∃n,out.length=n:=⟨_,rfl⟩;have oM:=aA hni;have lF:=aA hno;rw[hni]at G7 W0 G0⊢;rw[hno]at EU W0 DL⊢;clear hv hb hS eN hok d9 pG hni hno hc;go_enter Tryz.func19,Tryz.ntmps19;go_upto_region 1 with fail;refine aB ?_;intro w1 aF;have aG:Below w'.heap.size w' w1:=(by rw[aF];go_grown);have a9:Hid (Blk w1 w'.heap.size 32 #[.slice AC nc cC,.slice AI ni cI,.slice AO no cO]):=aA (by rw[aF];exact aQ);have aO:=aA aG;obtain⟨aL,aJ,aK⟩:=a9.out.open_;clear aF aG;go_wp2_with fail;refine(W0.out w1 (HB.out.trans (aO.out.mono yJ))).mono ?_;rintro en w2 ⟨rfl,hb2⟩;have aP:=aA (aO.out.next hb2);have bI:=aA (a9.out.next hb2);have hs2:=aP.out.size;have U5:=bI.out.lt;clear aL aJ aK hb2 a9 W0 aO;go_wp2_with fail
 go_loopw [15,6] (fun v15 v6 wr=>∃(j:Nat)(A1:Option Addr)(c1 n1:Nat),j<=nv∧v15=.int .i64 j∧v6=.slice A1 n1 c1∧n1<=10000*j∧RowG w2 w2.heap.size (.slice none 0 0) wr (.slice A1 n1 c1) n1 (mO vs cs j)) (fun v _ _=>nv-(intOf v).toNat)
 case atStart=>exact⟨0,none,0,0,fI _,rfl,rfl,by omega,⟨⟨by simp[mO],.inl ⟨rfl,rfl⟩⟩,Fr.refl _ _,fun k hk=>.inl hk⟩⟩
 case round=>
  obtain⟨j,A1,c1,n1,hj,rfl,rfl,NX,hg⟩:=hrel;have HG:=aA hg;have cF:Below w2.heap.size w2 wr:=hg.fr.below (aH _) fun k hk=>by cases hk
  have cG:=aA (aP.out.next cF);have fL:=aA (bI.out.next cF);have ZN:=cF.size;clear hg cF;by_cases e9:j<nv
  ·obtain⟨g,o,v,l,A,c,hvj,hlj,Gr,⟨n',c',e,C5⟩,cR,bM,Vd⟩:=IK.out j e9
   injection e with e1 e2 e3;subst e1;subst e2;subst e3;obtain⟨gv,ov,hV,AF,c0,c1',c2⟩:=HV.out j v hvj;subst hV;have jL:Below B w wr:=HB.out.trans (cG.out.mono yJ);have d0:=(jL.cell (p:=⟨gv,ov+j*3,none⟩) AF).trans c0;have d1:=(jL.cell (p:=⟨gv,ov+j*3+1,none⟩) AF).trans c1';have d2:=(jL.cell (p:=⟨gv,ov+j*3+2,none⟩) AF).trans c2;have dU:=aA jL;have HY:Hid (∀W,Below B w W->W.cell? ⟨g,o+j,none⟩=some (.slice A l.length c)):=aA fun W hW=>(hW.cell (p:=⟨g,o+j,none⟩) cR).trans bM
   have HE:Hid (mO vs cs j++(if v.k=3 then g7 (l.length:Int) 2 2 else [])++kS l l.length=mO vs cs (j+1)):=aA (by
    have e1:vs.getD j ⟨⟨#[]⟩,0,0⟩=v:=by simp[eX,hvj]
    have e2:cs.getD j []=l:=by simp[eX,hlj]
    simp only[mO,e1,e2])
   have F2:=aA Vd;obtain⟨nm,k,len⟩:=v;dsimp only at d0 d1 d2 HE;obtain⟨nl,hnl⟩:∃nl,l.length=nl:=⟨_,rfl⟩;have CG:=aA hnl;rw[hnl]at HY HE F2 Gr;have j0:(0:Int)<=(j:Int):=by omega
   have j1:(j:Int)<(nv:Int):=by omega
   have j2:(j:Int)<(nc:Int):=by omega
   clear hvj hlj bM Vd c0 c1' c2 jL hnl C5;go_upto_region 7 with fail;refine aB ?_;intro w3 dP;have aT:Below wr.heap.size wr w3:=(by rw[dP];go_grown);have Nj:Hid (Blk w3 wr.heap.size 72 #[.string nm,.int .u8 k,.int .i64 len]):=aA (by rw[dP];exact aQ);have EL:=aA (RowG.next HG.out aT);have gK:Hid (∀(W:World)(v':Value)(n':Nat)(ys:List Value),RowG w2 w2.heap.size (.slice none 0 0) W v' n' ys->Below w2.heap.size w2 W∧Below B w W):=aA fun W v' n' ys hg=>by
    have h1:Below w2.heap.size w2 W:=hg.fr.below (aH _) fun k hk=>by cases hk
    exact⟨h1,HB.out.trans ((aP.out.next h1).mono yJ)⟩
   have ZO:=aT.size;have Kt:Hid (∀(W:World)(v':Value)(n':Nat)(ys:List Value),RowG w2 w2.heap.size (.slice none 0 0) W v' n' ys->∀k,k<B->k<W.heap.size∧v'.ownBlock≠some k):=aA fun W v' n' ys hg k hk=>⟨by have:=(gK.out W v' n' ys hg).1.size;omega,fun e=>by have:=(bH hg.own e).1;omega⟩
   obtain⟨eL,eC,eF⟩:=Nj.out.open_;obtain⟨aL,aJ,aK⟩:=(bI.out.next (gK.out _ _ _ _ EL.out).1).open_;have y3:=HY.out w3 (gK.out _ _ _ _ EL.out).2;clear dP d0 d1 d2 aT HG dU;by_cases hk:k=3
   ·subst hk
    simp only[if_true]at HE;have Kc:=aA (gV (s:=2) (nl:Int) EL.out.own (by omega) (by omega) (by omega));go_wp2_with fail;refine Kc.out.mono ?_;rintro en w4 ⟨v4,rfl,rG⟩;obtain⟨A4,c4,rfl⟩:=aI rG.own;have W4:=aA (RowG.trans EL.out rG);have U9:n1+2<=10000*j+2:=by omega
    clear rG Kc EL aL aJ aK eL eC eF y3 Nj;obtain⟨aL,aJ,aK⟩:=(bI.out.next (gK.out _ _ _ _ W4.out).1).open_;have y3:=HY.out w4 (gK.out _ _ _ _ W4.out).2;have wP:=aA (iO W4.out.own (by have:=(gK.out _ _ _ _ W4.out).1.size;omega) (by omega) (l:=l) (D:=(·<B)) (by rw[CG.out];exact Sl.belowS F2.out (gK.out _ _ _ _ W4.out).2) (fun k hk=>Kt.out _ _ _ _ W4.out k hk) (by rw[CG.out];omega));rw[CG.out]at wP;go_wp2_with fail;refine wP.out.mono ?_;rintro en w5 ⟨v5,rfl,xF⟩;obtain⟨A5,c5,rfl⟩:=aI xF.own;have Lk:=aA (RowG.trans W4.out xF);clear xF wP W4 aL aJ aK y3;go_wp2_with fail;have Qi:=Lk.out;rw[HE.out]at Qi;exact⟨⟨j+1,A5,c5,_,by omega,by first|rfl|go_num,rfl,by omega,Qi⟩,(by simp[intOf];try omega)⟩
   ·have tB:(k==3)=false:=by simpa using hk
    simp only[if_neg hk,List.append_nil]at HE;have W4:=EL;have U9:n1<=10000*j+2:=by omega
    have wP:=aA (iO W4.out.own (by have:=(gK.out _ _ _ _ W4.out).1.size;omega) (by omega) (l:=l) (D:=(·<B)) (by rw[CG.out];exact Sl.belowS F2.out (gK.out _ _ _ _ W4.out).2) (fun k hk=>Kt.out _ _ _ _ W4.out k hk) (by rw[CG.out];omega));rw[CG.out]at wP;go_wp2_with fail;refine wP.out.mono ?_;rintro en w5 ⟨v5,rfl,xF⟩;obtain⟨A5,c5,rfl⟩:=aI xF.own;have Lk:=aA (RowG.trans W4.out xF);clear xF wP W4 EL aL aJ aK eL eC eF y3;go_wp2_with fail;have Qi:=Lk.out;rw[HE.out]at Qi;exact⟨⟨j+1,A5,c5,_,by omega,by first|rfl|go_num,rfl,by omega,Qi⟩,(by simp[intOf];try omega)⟩
  ·obtain rfl:j=nv:=by omega
   have gK:Hid (∀(W:World)(v':Value)(n':Nat)(ys:List Value),RowG w2 w2.heap.size (.slice none 0 0) W v' n' ys->Below w2.heap.size w2 W∧Below B w W):=aA fun W v' n' ys hg=>by
    have h1:Below w2.heap.size w2 W:=hg.fr.below (aH _) fun k hk=>by cases hk
    exact⟨h1,HB.out.trans ((aP.out.next h1).mono yJ)⟩
   have Kt:Hid (∀(W:World)(v':Value)(n':Nat)(ys:List Value),RowG w2 w2.heap.size (.slice none 0 0) W v' n' ys->∀k,k<B->k<W.heap.size∧v'.ownBlock≠some k):=aA fun W v' n' ys hg k hk=>⟨by have:=(gK.out W v' n' ys hg).1.size;omega,fun e=>by have:=(bH hg.own e).1;omega⟩
   have hnb:¬(w2.heap.size<=w'.heap.size):=by omega
   have Tq:Hid (∀W,Fr (fun k=>w2.heap.size<=k) w2 W->Blk W w'.heap.size 32 #[.slice AC nc cC,.slice AI ni cI,.slice AO no cO]):=aA fun W hW=>hW.blk bI.out hnb
   have La:Hid (Fr (fun k=>w2.heap.size<=k) w2 wr):=aA (Fr.of (gK.out _ _ _ _ HG.out).1);clear IK HV fL cG;go_wp2_with fail;refine wp_region_held_drew (S:=fun W=>Fr (fun k=>w2.heap.size<=k) w2 W) (by kernel_rfl) (La.out.drew) (fun hH=>?_);refine aE ?_;intro wawr bP;have hX:Below wr.heap.size wr wawr:=by rw[bP];exact(aM _ _).drew
   replace hH:=(show Fr (fun k=>w2.heap.size<=k) w2 wawr by rw[bP];exact hH);clear bP;refine aW 0 (v:=?_) rfl hH ?_;(try simp only[PU,aD])
   refine aW 1 (v:=?_) rfl hH ?_;(try simp only[PU,aD])
   refine cH 2 (v:=?_) rfl ?hy hH ?_
   case hy=>(intro bW aN;have t:=(Tq.out _ aN).cell;clear aN;go_simp;try with_reducible rfl)
   (try simp only[PU,aD])
   refine aW 3 (v:=?_) rfl hH ?_;(try simp only[PU,aD])
   refine aW 5 (v:=?_) rfl hH ?_;(try simp only[PU,aD])
   refine cH 6 (v:=?_) rfl ?hy hH ?_
   case hy=>(intro bW aN;have t:=(Tq.out _ aN).cell;clear aN;go_simp;try with_reducible rfl)
   (try simp only[PU,aD])
   refine cE 4 (by kernel_rfl) rfl (fun K hK=>?_);go_simp;have ha:=gV (s:=2) (ni:Int) (RowG.next HG.out hX).own (by have:=(gK.out _ _ _ _ HG.out).1.size;have:=hX.size;omega) (by omega) (by omega);refine ha.mono ?_;rintro en wbwr ⟨v4,rfl,rG⟩;obtain⟨A4,c4,rfl⟩:=aI rG.own;have rG:=RowG.trans (RowG.next HG.out hX) rG;refine hK.out _ _ (Fr.of (gK.out _ _ _ _ rG).1) (fun hH=>?_);clear hK;(try simp only[PU,aD])
   clear ha;refine cE 7 (by kernel_rfl) rfl (fun K hK=>?_);go_simp;have ha:=iO rG.own (by have:=(gK.out _ _ _ _ rG).1.size;omega) (by omega) (l:=inp) (D:=(·<B)) (by rw[oM.out];exact Sl.belowS G7.out (gK.out _ _ _ _ rG).2) (fun k hk=>Kt.out _ _ _ _ rG k hk) (by rw[oM.out];omega);rw[oM.out]at ha;refine ha.mono ?_;rintro en wcwr ⟨v5,rfl,xF⟩;obtain⟨A5,c5,rfl⟩:=aI xF.own;have xF:=RowG.trans rG xF;refine hK.out _ _ (Fr.of (gK.out _ _ _ _ xF).1) (fun hH=>?_);clear hK;(try simp only[PU,aD])
   clear ha;refine aW 8 (v:=?_) rfl hH ?_;(try simp only[PU,aD])
   refine wpAnyH_done (by kernel_rfl) ?_ _;have Bq:=aA xF;have EK:Hid (Fr (fun k=>w2.heap.size<=k) w2 wcwr):=aA hH;have aA9:n1+2+8*ni<=400000:=by omega
   clear hX hH rG xF;go_wp2_with fail;refine wp_region_held_drew (S:=fun W=>Fr (fun k=>w2.heap.size<=k) w2 W) (by kernel_rfl) (EK.out.drew) (fun hH=>?_);refine aE ?_;intro wawcwr bP;have hX:Below wcwr.heap.size wcwr wawcwr:=by rw[bP];exact(aM _ _).drew
   replace hH:=(show Fr (fun k=>w2.heap.size<=k) w2 wawcwr by rw[bP];exact hH);clear bP;refine aW 0 (v:=?_) rfl hH ?_;(try simp only[PU,aD])
   refine aW 1 (v:=?_) rfl hH ?_;(try simp only[PU,aD])
   refine cH 2 (v:=?_) rfl ?hy hH ?_
   case hy=>(intro bW aN;have t:=(Tq.out _ aN).cell;clear aN;go_simp;try with_reducible rfl)
   (try simp only[PU,aD])
   refine aW 3 (v:=?_) rfl hH ?_;(try simp only[PU,aD])
   refine aW 5 (v:=?_) rfl hH ?_;(try simp only[PU,aD])
   refine cH 6 (v:=?_) rfl ?hy hH ?_
   case hy=>(intro bW aN;have t:=(Tq.out _ aN).cell;clear aN;go_simp;try with_reducible rfl)
   (try simp only[PU,aD])
   refine cE 4 (by kernel_rfl) rfl (fun K hK=>?_);go_simp;have ha:=gV (s:=2) (no:Int) (RowG.next Bq.out hX).own (by have:=(gK.out _ _ _ _ Bq.out).1.size;have:=hX.size;omega) (by omega) (by omega);refine ha.mono ?_;rintro en wbwcwr ⟨v4,rfl,rG⟩;obtain⟨A4,c4,rfl⟩:=aI rG.own;have rG:=RowG.trans (RowG.next Bq.out hX) rG;refine hK.out _ _ (Fr.of (gK.out _ _ _ _ rG).1) (fun hH=>?_);clear hK;(try simp only[PU,aD])
   clear ha;refine cE 7 (by kernel_rfl) rfl (fun K hK=>?_);go_simp;have ha:=iO rG.own (by have:=(gK.out _ _ _ _ rG).1.size;omega) (by omega) (l:=out) (D:=(·<B)) (by rw[lF.out];exact Sl.belowS EU.out (gK.out _ _ _ _ rG).2) (fun k hk=>Kt.out _ _ _ _ rG k hk) (by rw[lF.out];omega);rw[lF.out]at ha;refine ha.mono ?_;rintro en wcwcwr ⟨v5,rfl,xF⟩;obtain⟨A5,c5,rfl⟩:=aI xF.own;have xF:=RowG.trans rG xF;refine hK.out _ _ (Fr.of (gK.out _ _ _ _ xF).1) (fun hH=>?_);clear hK;(try simp only[PU,aD])
   clear ha;refine aW 8 (v:=?_) rfl hH ?_;(try simp only[PU,aD])
   refine wpAnyH_done (by kernel_rfl) ?_ _;have Lj:=aA xF;clear hX hH rG xF;go_wp2_with fail;refine bodyPost_ret_by (results_tmp2 rfl _ _ _) rfl ?_;have hb:=(gK.out _ _ _ _ Lj.out).1;refine⟨_,n1+2+8*ni+2+8*no,rfl,by omega,?_,aP.out.next hb⟩;have ho:=dZ Lj.out.own hs2;have he:oI vs cs inp out=mO vs cs j++g7 (ni:Int) 2 2++kS inp ni++g7 (no:Int) 2 2++kS out no:=by unfold oI;rw[oG.out,oM.out,lF.out]
   rw[he];exact ho
end
end Go.Proofs.YtakfdnnlhjhcfaaGreatDoor
