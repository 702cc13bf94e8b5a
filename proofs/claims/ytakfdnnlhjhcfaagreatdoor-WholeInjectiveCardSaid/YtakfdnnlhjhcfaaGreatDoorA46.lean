/- Part of the proof. -/
import Derived.Test.YtakfdnnlhjhcfaaGreatDoorA43
import Derived.Test.YtakfdnnlhjhcfaaGreatDoorA45
set_option linter.unusedVariables false
set_option linter.unusedSimpArgs false
set_option maxRecDepth 100000
set_option maxHeartbeats 4000000
namespace Go.Proofs.YtakfdnnlhjhcfaaGreatDoor
open Go.RowKit Bk
def IU(w:World)(B:Nat)(x:Nd):Prop:=AllD w B (fun _ u=>RJ w B u) 80 x
theorem LC{w:World}{B d:Nat}(bG:B<=w.heap.size)(V:Option Addr)(nv cv:Nat)(vs:List Vr)(hv:VsAt w B V vs)(hnv:vs.length=nv)(d8:nv<=17592186043904)(gY:nv<=cv)(rF:V=none->cv=0)(Q:Option Addr)(nq cq:Nat)(ps:List Pc)(hq:PrsAt w B (d+1) Q ps)(hnq:ps.length=nq)(hnq2:nq<=17592186043904)(mI:∀p∈ps,p.V=none->p.cv=0)(m:Nd)(hm:KV w B (d+1) m)(fZ:validB w B (d+1) vs ps m=true)(Z9:uV w B (d+1) vs ps m=0)(w':World)(hb:Below B w w'):
  Calls Tryz.prog 46 #[.agg #[.slice V nv cv,.slice Q nq cq,.int .u8 m.k,.int .i64 m.num,.string m.nm,.slice m.A m.n m.cap]] w' fun e w''=>(∃A n c,e=.returned (.slice A n c)∧(n=0->(∀p:Pc,p∈ps->IU w B p.body)∧IU w B m))∧Below w'.heap.size w' w'':=by
 obtain⟨_,v2,_,v4,v5⟩:=lB fZ;have aBa:nq<=64:=by omega
 have FA:=aA (fun W hW=>kL bG V nv cv vs hv hnv d8 Q nq cq ps hq hnq hnq2 m hm W hW);have XU:=aA (fun W hW=>p9 bG V nv cv vs hv hnv d8 gY rF Q nq cq ps hq hnq hnq2 mI m hm W hW);rw[fZ]at FA;rw[Z9]at XU;have key:∀x,KV w B (d+1) x->gZ w B (d+1) x=true->∀(q:Int) W,Below B w W->Calls Tryz.prog 70 #[.int .i64 q,.agg #[.int .u8 x.k,.int .i64 x.num,.string x.nm,.slice x.A x.n x.cap]] W fun en w''=>(∃v n xs,en=.returned v∧w''.ownsRow W.heap.size 168 4 v n xs∧n<=10000∧(∀u,u∈xs->u.oneCell'=true)∧(n=0->IU w B x))∧Below W.heap.size W w'':=fun x hx U5 q W hW=>by
  obtain⟨k1,k2,k3⟩:=zQ hx U5;obtain⟨s,hs⟩:=Y2 hx (iZ U5).2;exact UG bG 80 (by omega) x k1 k2 (.inr (.inr ⟨_,s,hs⟩)) k3 q W hW
 have Ko:=aA (key m hm v5);have HCP:Hid (∀(j:Nat)(p:Pc),ps[j]?=some p->∀(q:Int) W,Below B w W->Calls Tryz.prog 70 #[.int .i64 q,.agg #[.int .u8 p.body.k,.int .i64 p.body.num,.string p.body.nm,.slice p.body.A p.body.n p.body.cap]] W fun en w''=>(∃v n xs,en=.returned v∧w''.ownsRow W.heap.size 168 4 v n xs∧n<=10000∧(∀u,u∈xs->u.oneCell'=true)∧(n=0->IU w B p.body))∧Below W.heap.size W w''):=aA fun j p hp=>by
  obtain⟨_,_,_,_,_,hk⟩:=hq j p hp;exact key p.body hk (jG (v4 p (List.mem_of_getElem? hp))).2.2.2
 have HB:=aA hb;have HQ:=aA hq;have nH:=aA hnq;have bC:B<=w'.heap.size:=by have:=hb.size;omega
 obtain⟨i4,li,lz,ls,lb⟩:=info_parts P4;have HI:=aA li;have HZ:=aA lz;have lI:=aA ls;have jY:=aA lb;obtain⟨CM,hCM⟩:∃P,IU w B m=P:=⟨_,rfl⟩;rw[hCM]at Ko⊢;clear hv hnv hq hnq mI hm hb rF d8 hnq2 gY fZ Z9 key v2 v4 v5 hCM li lz ls lb;obtain⟨mk,mnum,mnm,mA,mn,mcap⟩:=m;dsimp only at *;go_enter Tryz.func46,Tryz.ntmps46;go_upto_region 1 with fail;refine aB ?_;intro w1 aF;have aG:Below w'.heap.size w' w1:=by rw[aF];go_grown
 have K1:Blk w1 w'.heap.size 28 #[.slice V nv cv,.slice Q nq cq,.int .u8 mk,.int .i64 mnum,.string mnm,.slice mA mn mcap]:=by rw[aF];exact aQ
 have a9:=aA K1;have aO:=aA aG;clear aF aG K1;obtain⟨aL,aJ,aK⟩:=a9.out.open_;go_wp2_with fail;refine(FA.out w1 (HB.out.trans (aO.out.mono bC))).mono ?_;rintro en w2 ⟨rfl,hb2⟩;have aP:=aA (aO.out.next hb2);have bI:=aA (a9.out.next hb2);clear aJ aL aK hb2 a9 aO;obtain⟨aL,aJ,aK⟩:=bI.out.open_;go_wp2_with fail;refine(XU.out w2 (HB.out.trans (aP.out.mono bC))).mono ?_;rintro en w3 ⟨⟨Ak,ck,rfl⟩,aT⟩;have bD:=aA (aP.out.next aT);have dD:=aA (bI.out.next aT);clear aJ aL aK aT bI aP;obtain⟨aL,aJ,aK⟩:=dD.out.open_;go_upto_region 5 with fail;clear aJ aL aK
 go_loopw [3,18] (fun v3 v18 wr=>∃(j n:Nat)(xs:List Value),j<=nq∧v18=.int .i64 j∧wr.ownsRow w3.heap.size 168 4 v3 n xs∧n<=j*10000∧(∀u,u∈xs->u.oneCell'=true)∧(n=0->∀i p,i<j->ps[i]?=some p->IU w B p.body)∧Below w3.heap.size w3 wr) (fun _ v _=>nq-(intOf v).toNat)
 case atStart=>exact⟨0,0,[],fI _,rfl,⟨rfl,.inl ⟨rfl,rfl⟩⟩,fI _,(fun u h=>by cases h),(fun _ i p hi=>absurd hi (Nat.not_lt_zero _)),aM _ _⟩
 case round=>
  obtain⟨j,n,xs,hj,rfl,bB,hn,NY,fQ,cF⟩:=hrel;obtain⟨A3,c3,rfl⟩:=aI bB;have lY:=aA bB;have W7:=aA NY;have wP:=aA fQ;have HX:=aA cF;have pP:=aA (bD.out.next cF);have QM:=aA (dD.out.next cF);have WC:=bD.out.size;have wT:=cF.size;clear bB NY fQ cF;by_cases e9:j<nq
  ·obtain⟨p,hpj⟩:∃p,ps[j]?=some p:=⟨_,dR (by have:=nH.out;omega)⟩
   obtain⟨⟨g,o,eY,cR,c0,c1,c2,c3',c4,c5⟩,_⟩:=HQ.out j p hpj;subst eY;have hX:=HB.out.trans (pP.out.mono bC);have d0:=(hX.cell (p:=⟨g,o+j*6,none⟩) cR).trans c0;have d1:=(hX.cell (p:=⟨g,o+j*6+1,none⟩) cR).trans c1;have d2:=(hX.cell (p:=⟨g,o+j*6+2,none⟩) cR).trans c2;have d3:=(hX.cell (p:=⟨g,o+j*6+3,none⟩) cR).trans c3';have d4:=(hX.cell (p:=⟨g,o+j*6+4,none⟩) cR).trans c4;have d5:=(hX.cell (p:=⟨g,o+j*6+5,none⟩) cR).trans c5;have T8:=aA (HCP.out j p hpj (j:Int));have Tu:=aA hpj;obtain⟨pn,pV,pnv,pcv,pvs,⟨bk,bnum,bnm,bA,bn,bcap⟩⟩:=p;dsimp only at *;have j0:(0:Int)<=(j:Int):=by omega
   have j1:(j:Int)<(nq:Int):=by omega
   clear c0 c1 c2 c3' c4 c5 hpj hX;go_upto_region 7 with fail;refine aB ?_;intro w4 qI;have bV:Below wr.heap.size wr w4:=by rw[qI];go_grown
   have K4:Blk w4 wr.heap.size 64 #[.string pn,.slice pV pnv pcv,.int .u8 bk,.int .i64 bnum,.string bnm,.slice bA bn bcap]:=by rw[qI];exact aQ
   have eG:=aA K4;have lZ:=aA (HX.out.next bV);have dQ:=aA (pP.out.next bV);have Yb:=aA (aZ lY.out bV (aH _));have hz4:=bV.size;clear qI bV K4 d0 d1 d2 d3 d4 d5;obtain⟨tE,s9,s6⟩:=eG.out.open_;go_wp2_with fail;refine(T8.out w4 (HB.out.trans (dQ.out.mono bC))).mono ?_;rintro en w5 ⟨⟨v5,n5,xs5,rfl,O6,hn5,O3,N2⟩,cW⟩;have JS:=aA (aZ Yb.out cW (aH _));have YL:=aA (Sl.of_own O6);have SE:=aA O3;have Ao:=aA N2;have gP:=aA (lZ.out.next cW);have ZT:=cW.size;clear O6 O3 N2 cW tE s9 s6;go_wp2_with (at_builtin;refine dF rfl (.tmp 23) (.tmp 27) 94 rfl w3.heap.size 168 i4 _ 4 56 Tryz.underlying94 HI.out HZ.out lI.out jY.out rfl (by decide) (.slice A3 n c3) n xs rfl JS.out rfl YL.out SE.out (by unfold maxLen;omega) (by omega) (by omega) ?_);intro v6 w6 O7 eH _;have Jn:Below w3.heap.size w3 w6:=gP.out.grown eH (by omega) (fun k hk=>(bH JS.out hk).1);have Yc:=aA O7;have kD:=aA Jn;clear O7 eH Jn;go_wp2_with fail;exact⟨⟨j+1,n+n5,_,by omega,by go_num,Yc.out,by omega,fun u hu=>(List.mem_append.1 hu).elim (W7.out u) (SE.out u),fun h0 i p hi hp=>by
    rcases Nat.lt_succ_iff_lt_or_eq.1 hi with h|rfl
    ·exact wP.out (by omega) i p h hp
    ·have:=Tu.out.symm.trans hp;injection this with this;subst this;exact Ao.out (by omega),kD.out⟩,by simp[intOf];omega⟩
  ·obtain rfl:j=nq:=by omega
   obtain⟨aL,aJ,aK⟩:=QM.out.open_;go_wp2_with fail;refine(Ko.out (-1) wr (HB.out.trans (pP.out.mono bC))).mono ?_;rintro en w5 ⟨⟨v5,n5,xs5,rfl,O6,hn5,O3,N2⟩,cW⟩;have JS:=aA (aZ lY.out cW (aH _));have YL:=aA (Sl.of_own O6);have SE:=aA O3;have Ao:=aA N2;have gP:=aA (HX.out.next cW);have ZT:=cW.size;clear O6 O3 N2 cW aL aJ aK;go_wp2_with (at_builtin;refine dF rfl (.tmp 30) (.tmp 33) 94 rfl w3.heap.size 168 i4 _ 4 56 Tryz.underlying94 HI.out HZ.out lI.out jY.out rfl (by decide) (.slice A3 n c3) n xs rfl JS.out rfl YL.out SE.out (by unfold maxLen;omega) (by omega) (by omega) ?_);intro v6 w6 O7 eH _;have Jn:Below w3.heap.size w3 w6:=gP.out.grown eH (by omega) (fun k hk=>(bH JS.out hk).1);obtain⟨A6,c6,rfl⟩:=aI O7;have kD:=aA (bD.out.next Jn);clear O7 eH Jn;go_wp2_with fail;go_ret;exact⟨⟨_,_,_,rfl,fun h=>⟨fun p hp=>by
    obtain⟨i,hi⟩:=List.getElem?_of_mem hp;exact wP.out (by omega) i p (by have:=(lgS.1 hi).1;have:=nH.out;omega) hi,Ao.out (by omega)⟩⟩,kD.out⟩
def RnP(P:Prop)(e:Ending):Prop:=∃b,e=.returned (.bool b)∧(b=true->P)
def Nn(w:World)(B d:Nat)(vs:List Vr)(ps:List Pc)(m:Nd):Prop:=validB w B d vs ps m=true∧uV w B d vs ps m=0∧(∀p:Pc,p∈ps->IU w B p.body)∧IU w B m
theorem aAa{w:World}{B d:Nat}(bG:B<=w.heap.size)(V:Option Addr)(nv cv:Nat)(vs:List Vr)(hv:VsAt w B V vs)(hnv:vs.length=nv)(d8:nv<=17592186043904)(gY:nv<=cv)(rF:V=none->cv=0)(Q:Option Addr)(nq cq:Nat)(ps:List Pc)(hq:PrsAt w B (d+1) Q ps)(hnq:ps.length=nq)(hnq2:nq<=17592186043904)(mI:∀p∈ps,p.V=none->p.cv=0)(m:Nd)(hm:KV w B (d+1) m)(w':World)(hb:Below B w w'):
  Calls Tryz.prog 21 #[.agg #[.slice V nv cv,.slice Q nq cq,.int .u8 m.k,.int .i64 m.num,.string m.nm,.slice m.A m.n m.cap]] w' fun e w''=>RnP (Nn w B (d+1) vs ps m) e∧Below w'.heap.size w' w'':=by
 have FA:=aA (fun W hW=>kL bG V nv cv vs hv hnv d8 Q nq cq ps hq hnq hnq2 m hm W hW);have XU:=aA (fun W hW=>p9 bG V nv cv vs hv hnv d8 gY rF Q nq cq ps hq hnq hnq2 mI m hm W hW);have RN:=aA (fun h1 h2 W hW=>LC bG V nv cv vs hv hnv d8 gY rF Q nq cq ps hq hnq hnq2 mI m hm h1 h2 W hW);have HB:=aA hb;have bC:B<=w'.heap.size:=by have:=hb.size;omega
 obtain⟨PP,hPP⟩:∃P,Nn w B (d+1) vs ps m=P:=⟨_,rfl⟩;have Tv:Hid (validB w B (d+1) vs ps m=true->uV w B (d+1) vs ps m=0->((∀p:Pc,p∈ps->IU w B p.body)∧IU w B m)->PP):=aA fun a b c=>by rw[<-hPP];exact⟨a,b,c⟩
 rw[hPP];obtain⟨r1,h1⟩:∃r,validB w B (d+1) vs ps m=r:=⟨_,rfl⟩;obtain⟨n2,h2⟩:∃r,uV w B (d+1) vs ps m=r:=⟨_,rfl⟩;rw[h1]at FA RN Tv;rw[h2]at XU RN Tv;obtain⟨P3,hP3⟩:∃P,((∀p:Pc,p∈ps->IU w B p.body)∧IU w B m)=P:=⟨_,rfl⟩;rw[hP3]at RN Tv;clear hv hnv hq hnq mI hm hb h1 h2 rF d8 hnq2 gY hP3 hPP;obtain⟨mk,mnum,mnm,mA,mn,mcap⟩:=m;dsimp only at *;go_enter Tryz.func21,Tryz.ntmps21;go_upto_region 1 with fail;refine aB ?_;intro w1 aF;have aG:Below w'.heap.size w' w1:=by rw[aF];go_grown
 have K1:Blk w1 w'.heap.size 28 #[.slice V nv cv,.slice Q nq cq,.int .u8 mk,.int .i64 mnum,.string mnm,.slice mA mn mcap]:=by rw[aF];exact aQ
 have a9:=aA K1;have aO:=aA aG;clear aF aG K1;obtain⟨aL,aJ,aK⟩:=a9.out.open_;go_wp2_with fail;refine(FA.out w1 (HB.out.trans (aO.out.mono bC))).mono ?_;rintro en w2 ⟨rfl,hb2⟩;have aP:=aA (aO.out.next hb2);have bI:=aA (a9.out.next hb2);clear aJ aL aK hb2 a9;obtain⟨aL,aJ,aK⟩:=bI.out.open_;cases r1
 ·go_wp2_with fail
  go_ret;exact⟨⟨false,rfl,fun h=>by cases h⟩,aP.out⟩
 go_wp2_with fail;refine(XU.out w2 (HB.out.trans (aP.out.mono bC))).mono ?_;rintro en w3 ⟨⟨Ak,ck,rfl⟩,aT⟩;have bD:=aA (aP.out.next aT);have dD:=aA (bI.out.next aT);clear aJ aL aK aT bI;obtain⟨aL,aJ,aK⟩:=dD.out.open_;by_cases hn2:n2=0
 ·subst hn2
  go_wp2_with fail;refine((RN.out trivial trivial) w3 (HB.out.trans (bD.out.mono bC))).mono ?_;rintro en w4 ⟨⟨A4,n4,c4,rfl,fQ⟩,bV⟩;have wP:=aA fQ;have dQ:=aA (bD.out.next bV);clear aJ aL aK fQ bV;go_wp2_with fail;go_ret;exact⟨⟨_,rfl,fun h=>Tv.out trivial trivial (wP.out (by simp at h;omega))⟩,dQ.out⟩
 ·have Qw:((n2:Int)==0)=false:=by simp;omega
  clear hn2;go_wp2_with fail;go_ret;exact⟨⟨false,rfl,fun h=>by cases h⟩,bD.out⟩
theorem vD{w:World}{B d:Nat}(bG:B<=w.heap.size)(V:Option Addr)(nv cv:Nat)(vs:List Vr)(hv:VsAt w B V vs)(hnv:vs.length=nv)(d8:nv<=17592186043904)(gY:nv<=cv)(rF:V=none->cv=0)(Q:Option Addr)(nq cq:Nat)(ps:List Pc)(hq:PrsAt w B (d+1) Q ps)(hnq:ps.length=nq)(hnq2:nq<=17592186043904)(mI:∀p∈ps,p.V=none->p.cv=0)(m:Nd)(hm:KV w B (d+1) m){vC vI vO:Value}{cs:List (List Int)}{inp out:List Int}(hS:SW w (·<B) vC vI vO cs inp out)(w':World)(hb:Below B w w'):
  Calls Tryz.prog 11 #[.agg #[.slice V nv cv,.slice Q nq cq,.int .u8 m.k,.int .i64 m.num,.string m.nm,.slice m.A m.n m.cap],.agg #[vC,vI,vO]] w' fun e w''=>RnP (Nn w B (d+1) vs ps m∧eS vs cs inp out=true) e∧Below w'.heap.size w' w'':=by
 have HGR:=aA (fun W hW=>FT bG V nv cv vs hv hnv Q nq cq ps hq hnq m hm hS W hW);have Im:=aA (fun W hW=>aAa bG V nv cv vs hv hnv d8 gY rF Q nq cq ps hq hnq hnq2 mI m hm W hW);have W0:=aA (fun W hW=>Y5 bG V nv cv vs hv hnv hS W hW);have HB:=aA hb;have bC:B<=w'.heap.size:=by have:=hb.size;omega
 obtain⟨AC,nC,cC,AI,nI,cI,AO,nO,cO,rfl,rfl,rfl⟩:=hS.forms;obtain⟨PP,hPP⟩:∃P,Nn w B (d+1) vs ps m=P:=⟨_,rfl⟩;obtain⟨r3,h3⟩:∃r,eS vs cs inp out=r:=⟨_,rfl⟩;rw[hPP]at Im⊢;rw[h3]at W0⊢;clear hv hnv hq hnq mI hm hS hb h3 rF d8 hnq2 gY hPP;obtain⟨mk,mnum,mnm,mA,mn,mcap⟩:=m;dsimp only at *;go_enter Tryz.func11,Tryz.ntmps11;go_upto_region 1 with fail;refine aB ?_;intro w1 aF;have aG:Below w'.heap.size w' w1:=by rw[aF];go_grown
 have K1:Blk w1 w'.heap.size 28 #[.slice V nv cv,.slice Q nq cq,.int .u8 mk,.int .i64 mnum,.string mnm,.slice mA mn mcap]:=by rw[aF];exact Blk.alloc (Blk.new _ _ _) _
 have K2:Blk w1 (w'.heap.size+1) 32 #[.slice AC nC cC,.slice AI nI cI,.slice AO nO cO]:=by rw[aF];exact Blk.new' (by simp) _ _
 have a9:=aA K1;have bI:=aA K2;have aO:=aA aG;clear aF aG K1 K2;obtain⟨aL,aJ,aK⟩:=a9.out.open_;obtain⟨eL,eC,eF⟩:=bI.out.open_;go_wp2_with fail;refine(HGR.out w1 (HB.out.trans (aO.out.mono bC))).mono ?_;rintro en w2 ⟨gr,rfl,hb2⟩;have aP:=aA (aO.out.next hb2);have JT:=aA (a9.out.next hb2);have mH:=aA (bI.out.next hb2);clear aJ aL aK eC eL eF hb2 a9 bI;obtain⟨aL,aJ,aK⟩:=JT.out.open_;obtain⟨g0,hg0⟩:∃b,(gr==0)=b:=⟨_,rfl⟩;cases g0
 ·go_wp2_with fail
  go_ret;exact⟨⟨false,rfl,fun h=>by cases h⟩,aP.out⟩
 go_wp2_with fail;refine(Im.out w2 (HB.out.trans (aP.out.mono bC))).mono ?_;rintro en w3 ⟨⟨b,rfl,hok⟩,aT⟩;have JR:=aA hok;have bD:=aA (aP.out.next aT);have SG:=aA (JT.out.next aT);have IS:=aA (mH.out.next aT);clear aJ aL aK aT hok JT mH;obtain⟨aL,aJ,aK⟩:=SG.out.open_;obtain⟨eL,eC,eF⟩:=IS.out.open_;cases b
 ·go_wp2_with fail
  go_ret;exact⟨⟨false,rfl,fun h=>by cases h⟩,bD.out⟩
 go_wp2_with fail;refine(W0.out w3 (HB.out.trans (bD.out.mono bC))).mono ?_;rintro en w4 ⟨rfl,bV⟩;have dQ:=aA (bD.out.next bV);clear bV aL aJ aK eL eC eF;go_wp2_with fail;go_ret;exact⟨⟨r3,by simp,fun h=>⟨JR.out trivial,h⟩⟩,dQ.out⟩
theorem DU{w:World}{B d nv cv nq cq:Nat}{V Q:Option Addr}{m:Nd}{p:Pg}{ps:List Pc}(h:ProgAt w B d V nv cv Q nq cq m p ps)(hok:Nn w B (d+1) p.vars ps m):p.main.rv∧∀q,q∈p.procs->q.body.rv:=by
 obtain⟨fZ,Z9,hps,Uy⟩:=hok;obtain⟨_,_,_,v4,v5⟩:=lB fZ;have AA:=Z9;unfold uV at AA;rw[if_pos fZ]at AA;unfold FR at AA;refine⟨sZ (pcs:=ps) d p.main m h.main (d+1) p.vars h.kv (by omega) 80 (zQ h.kv v5).1 Uy,fun q hq=>?_⟩;obtain⟨i,hi⟩:=List.getElem?_of_mem hq;have mT:i<ps.length:=by have:=(lgS.1 hi).1;have:=h.len;have:=h.hnq;omega
 obtain⟨c,hc⟩:∃c,ps[i]?=some c:=⟨_,dR mT⟩;obtain⟨_,h2,h3,_,_⟩:=h.pr i c q hc hi;obtain⟨_,_,_,_,_,hk⟩:=h.procs i c hc;have hz:=eQ (show aY (oK w B (d+1) ps) ps.length=0 by omega) i mT;unfold oK at hz;rw[hc]at hz;simp only at hz;have GI:=List.mem_of_getElem? hc;exact sZ (pcs:=ps) d q.body c.body h3 (d+1) c.vs hk (by omega) 80 (zQ hk (jG (v4 c GI)).2.2.2).1 (hps c GI)
end Go.Proofs.YtakfdnnlhjhcfaaGreatDoor
namespace Bk
open Go.RowKit (wrap64)
def Ar(cs:List (List Int))(k0:Nat->Int)(σ:PSt):Prop:=(∃kd m,σ.Ok kd m∧∀c,c<cs.length->kd c=k0 c)∧cs.length<=σ.cells.length∧∀c,c<cs.length->k0 c≠3->(σ.cells.getD c []).length=(cs.getD c []).length
def Kj(a:Mo):Prop:=∀cs k0 σ f σ' f',Ar cs k0 σ->a σ f=.ok (σ',f')->Ar cs k0 σ'
theorem Ar.write{cs:List (List Int)}{k0:Nat->Int}{σ:PSt}(h:Ar cs k0 σ)(s:ByteArray)(i:Nat)(v:Int):Ar cs k0 (σ.write s i v):=by
 obtain⟨⟨kd,m,ho,hk⟩,hn,hl⟩:=h;refine⟨⟨kd,m,ho.write s i v,hk⟩,?_⟩;unfold PSt.write;split
 ·exact⟨hn,hl⟩
 ·rename_i c _
  refine⟨by simpa using hn,fun c' hc h3=>?_⟩;rw[<-hl c' hc h3];show((σ.cells.set c _).getD c' []).length=_;rw[eX,List.getElem?_set];split
  ·rename_i e;subst e
   rw[if_pos (by omega)];simp
  ·rw[eX]
theorem Ar.setCell{cs:List (List Int)}{k0:Nat->Int}{σ:PSt}(h:Ar cs k0 σ){s:ByteArray}(hu:dT σ.cur.vars s 3=0){l:List Int}(oS:l.length<=1000):Ar cs k0 (σ.setCell s l):=by
 obtain⟨⟨kd,m,ho,hk⟩,hn,hl⟩:=h;refine⟨⟨kd,m,ho.setCell hu oS,hk⟩,?_⟩;obtain⟨i,c,l0,_,_,_,h3,ha,_⟩:=ho.use hu;unfold PSt.setCell;rw[ha];refine⟨by simpa using hn,fun c' hc Uj=>?_⟩;rw[<-hl c' hc Uj];show((σ.cells.set c _).getD c' []).length=_;rw[eX,List.getElem?_set,if_neg (fun e=>Uj (by subst e;rw[<-hk _ hc];exact h3)),eX]
theorem Ar.same{cs:List (List Int)}{k0:Nat->Int}{σ σ':PSt}(h:Ar cs k0 σ)(ho:∀kd m,σ.Ok kd m->∃m',σ'.Ok kd m')(hc:σ'.cells=σ.cells):Ar cs k0 σ':=by
 obtain⟨⟨kd,m,h1,hk⟩,hn,hl⟩:=h;obtain⟨m',h2⟩:=ho kd m h1;exact⟨⟨kd,m',h2,hk⟩,by rw[hc];exact hn,by rw[hc];exact hl⟩
theorem Kj.ok:Kj xM:=fun cs k0 σ f σ' f' h e=>by
 simp only[xM,Except.ok.injEq,Prod.mk.injEq]at e;rw[<-e.1];exact h
theorem Kj.err(x:Int):Kj fun _ _=>.error x:=fun cs k0 σ f σ' f' h e=>by cases e
theorem Kj.seq{a b:Mo}(ha:Kj a)(hb:Kj b):Kj (a.seq b):=fun cs k0 σ f σ' f' h e=>by
 obtain⟨σ1,f1,h1,h2⟩:=dV e;exact hb _ _ _ _ _ _ (ha _ _ _ _ _ _ h h1) h2
theorem Kj.step:Kj PO:=fun cs k0 σ f σ' f' h e=>by
 cases f with
 |zero=>cases e
 |succ f=>
  have e:Except.ok (σ,f)=Except.ok (σ',f'):=e;simp only[Except.ok.injEq,Prod.mk.injEq]at e;rw[<-e.1];exact h
theorem Kj.lift{g:PSt->Rs}(hg:∀cs k0 σ σ',Ar cs k0 σ->g σ=.ok σ'->Ar cs k0 σ'):Kj (liftM g):=fun cs k0 σ f σ' f' h e=>hg _ _ _ _ h (jD e).2
theorem Kj.value{e:Ex}{k:Int->Mo}(hk:∀v,Kj (k v)):Kj (b8 e k):=fun cs k0 σ f σ' f' h e'=>hk _ _ _ _ _ _ _ h (sM e').2
theorem Kj.holds{e:Ex}{k:Bool->Mo}(hk:∀v,Kj (k v)):Kj (fF e k):=Kj.step.seq (Kj.value fun _=>hk _)
theorem Kj.assert(e:Ex)(w:Bool):Kj (bF e w):=Kj.holds fun b=>by
 by_cases h:b=w
 ·rw[if_pos h];exact Kj.ok
 ·rw[if_neg h];exact Kj.err 15
theorem Kj.loop{a b:Mo}(ha:Kj a)(hb:Kj b)(entry test:Ex):∀n,Kj (iB a b entry test n)
 |0=>Kj.err 18
 |n+1=>ha.seq (Kj.holds fun t=>by
  cases t with
  |true=>exact Kj.ok
  |false=>exact hb.seq ((Kj.assert entry false).seq (Kj.loop ha hb entry test n)))
theorem Kj.put{a b:Mo}(back:Bool)(ha:Kj a)(hb:Kj b):Kj (put back a b):=by
 cases back with
 |true=>exact hb.seq ha
 |false=>exact ha.seq hb
theorem Kj.basic{g:PSt->Rs}(hg:∀cs k0 σ σ',Ar cs k0 σ->g σ=.ok σ'->Ar cs k0 σ'):Kj (eM g):=Kj.step.seq (Kj.lift hg)
theorem pY{cs:List (List Int)}{k0:Nat->Int}{σ σ':PSt}{p:Ex}{right:Int×Int}{k:Nat->Int->Rs}(h:eE σ p right k=.ok σ')(hk:∀i v,k i v=.ok σ'->Ar cs k0 σ'):Ar cs k0 σ':=hk _ _ (fR h).2
theorem Du{op:Int}{p e:Ex}(cs:List (List Int))(k0:Nat->Int)(σ σ':PSt)(h:Ar cs k0 σ)(hr:lW op p e σ=.ok σ'):Ar cs k0 σ':=by
 unfold lW at hr;split at hr
 ·cases hr
 split at hr
 ·cases hr
 refine pY hr fun i v h2=>?_
 injection h2 with h2;subst h2;exact h.write _ _ _
theorem Ds{p q:Ex}(cs:List (List Int))(k0:Nat->Int)(σ σ':PSt)(h:Ar cs k0 σ)(hr:mF p q σ=.ok σ'):Ar cs k0 σ':=by
 unfold mF at hr;split at hr
 ·cases hr
 refine pY hr fun i v h2=>?_
 split at h2
 ·cases h2
 injection h2 with h2;subst h2;exact(h.write _ _ _).write _ _ _
theorem Dr{op:Int}{s:ByteArray}{p:Ex}(cs:List (List Int))(k0:Nat->Int)(σ σ':PSt)(h:Ar cs k0 σ)(hr:kZ op s p σ=.ok σ'):Ar cs k0 σ':=by
 unfold kZ at hr;split at hr
 ·cases hr
 rename_i h0;have hu:=(gB (by omega:rS (dT σ.cur.vars s 3) (bN σ.cur.vars p)=0)).1;have hlen:((σ.look s).getD []).length<=1000:=by
  obtain⟨⟨kd,m,ho,_⟩,_⟩:=h;cases hl:σ.look s with
  |none=>simp
  |some l=>exact ho.lookLen hl
 refine pY hr fun i v h2=>?_
 split at h2
 ·split at h2
  ·cases h2
  injection h2 with h2;subst h2;refine(h.setCell hu ?_).write _ _ _;rename_i h3;unfold PSt.len at h3;simp;omega
 ·split at h2
  ·cases h2
  split at h2
  ·cases h2
  injection h2 with h2;subst h2;exact(h.write _ _ _).setCell (by rw[PSt.write_cur];exact hu) (by simp;omega)
theorem Dt{op:Int}{p:Ex}(cs:List (List Int))(k0:Nat->Int)(σ σ':PSt)(h:Ar cs k0 σ)(hr:lA op p σ=.ok σ'):Ar cs k0 σ':=by
 have xG:σ.inp.length<=4096:=by obtain⟨⟨kd,m,ho,_⟩,_⟩:=h;exact ho.inp
 have hou:σ.out.length<=4096:=by obtain⟨⟨kd,m,ho,_⟩,_⟩:=h;exact ho.out
 have key:∀{a b:List Int},a.length<=4096->b.length<=4096->Ar cs k0 {σ with inp:=a,out:=b}:=fun ha hb=>h.same (fun kd m ho=>⟨m,ho.tapes ha hb⟩) rfl
 unfold lA at hr;split at hr
 ·cases hr
 refine pY hr fun i v h2=>?_
 split at h2
 ·split at h2
  ·cases h2
  split at h2
  ·cases h2
  injection h2 with h2;subst h2;exact Ar.write (key (a:=σ.inp.tail) (b:=σ.out) (by simp;omega) hou) _ _ _
 split at h2
 ·split at h2
  ·cases h2
  injection h2 with h2;subst h2;exact Ar.write (key (a:=_::σ.inp) (b:=σ.out) (by simp;omega) hou) _ _ _
 split at h2
 ·split at h2
  ·cases h2
  injection h2 with h2;subst h2;exact Ar.write (key (a:=σ.inp) (b:=σ.out++ [_]) xG (by simp;omega)) _ _ _
 ·split at h2
  ·cases h2
  split at h2
  ·cases h2
  injection h2 with h2;subst h2;exact Ar.write (key (a:=σ.inp) (b:=σ.out.dropLast) xG (by simp;omega)) _ _ _
theorem CN{v:Vr}{l:List Int}(h1:v.k=1->l.length=1)(oS:l.length<=1000)(cs:List (List Int))(k0:Nat->Int)(σ σ':PSt)(h:Ar cs k0 σ)(hr:cX v l σ=.ok σ'):Ar cs k0 σ':=by
 obtain⟨⟨kd,m,ho,hk⟩,hn,hl⟩:=h;refine⟨⟨_,_,qN ho h1 oS hr,fun c hc=>by rw[if_neg (by omega)];exact hk c hc⟩,?_⟩;unfold cX at hr;split at hr
 ·cases hr
 injection hr with hr;subst hr;have hcl:∀f:PFr,(({σ with cells:=σ.cells++ [l]}:PSt).setCur f).cells=σ.cells++ [l]:=fun f=>by unfold PSt.setCur;split<;>rfl
 rw[hcl];refine⟨by simp;omega,fun c hc h3=>?_⟩;rw[<-hl c hc h3,eX,List.getElem?_append_left (by omega),eX]
theorem I2{s:ByteArray}{v:Int}(cs:List (List Int))(k0:Nat->Int)(σ σ':PSt)(h:Ar cs k0 σ)(hr:bU s v σ=.ok σ'):Ar cs k0 σ':=by
 refine h.same (fun kd m ho=>⟨m,nQ ho hr⟩) ?_;unfold bU at hr;split at hr
 ·cases hr
 split at hr
 ·cases hr
 split at hr
 ·cases hr
 injection hr with hr;subst hr;unfold PSt.setCur;split<;>rfl
theorem KJ{ps:List Vr}{ss:List ByteArray}(cs:List (List Int))(k0:Nat->Int)(σ σ':PSt)(h:Ar cs k0 σ)(hr:dB ps ss σ=.ok σ'):Ar cs k0 σ':=by
 refine h.same (fun kd m ho=>⟨_,rR (ho.mono (Nat.le_max_left m ps.length)) (Nat.le_max_right ..) hr⟩) ?_;unfold dB at hr;split at hr
 ·cases hr
 split at hr
 ·cases hr
 split at hr
 ·cases hr
 injection hr with hr;subst hr;rfl
theorem KK(cs:List (List Int))(k0:Nat->Int)(σ σ':PSt)(h:Ar cs k0 σ)(hr:dY σ=.ok σ'):Ar cs k0 σ':=by
 refine h.same (fun kd m ho=>⟨m,sF ho hr⟩) ?_;unfold dY at hr;split at hr
 ·cases hr
 injection hr with hr;subst hr;rfl
theorem Kj.execS(procs:List Pr)(n:Nat)(inner:Bool->Sq->Mo)(hi:∀b s,Kj (inner b s))(back:Bool):∀s,Kj (Bk.execS procs n inner back s)
 |.nil=>Kj.ok
 |.upd op p e r=>Kj.put back (Kj.basic Du) (Kj.execS procs n inner hi back r)
 |.swp p q r=>Kj.put back (Kj.basic Ds) (Kj.execS procs n inner hi back r)
 |.stk op s p r=>Kj.put back (Kj.basic Dr) (Kj.execS procs n inner hi back r)
 |.tap op p r=>Kj.put back (Kj.basic Dt) (Kj.execS procs n inner hi back r)
 |.cal op s ss r=>by
  refine Kj.put back ?_ (Kj.execS procs n inner hi back r);unfold p8;split
  ·exact Kj.err 6
  ·exact Kj.step.seq ((Kj.lift KJ).seq ((hi _ _).seq (Kj.step.seq (Kj.lift KK))))
 |.ifs e a b e' r=>Kj.put back (Kj.holds fun t=>(hi _ _).seq (Kj.assert _ t)) (Kj.execS procs n inner hi back r)
 |.frm e a b e' r=>Kj.put back ((Kj.assert _ _).seq (Kj.loop (hi _ _) (hi _ _) _ _ n)) (Kj.execS procs n inner hi back r)
 |.loc x e b e' r=>Kj.put back (Kj.step.seq ((Kj.value fun v=>Kj.lift (CN (fun _=>rfl) (by simp))).seq ((hi _ _).seq (Kj.step.seq (Kj.value fun v=>Kj.lift I2))))) (Kj.execS procs n inner hi back r)
 |.lst x b r=>Kj.put back (Kj.step.seq ((Kj.lift (CN (fun h=>by cases h) (by simp))).seq ((hi _ _).seq (Kj.step.seq (Kj.lift I2))))) (Kj.execS procs n inner hi back r)
theorem Kj.execP(procs:List Pr):∀n back s,Kj (Bk.execP procs n back s)
 |0,_,_=>Kj.err 18
 |n+1,back,s=>Kj.execS procs n (Bk.execP procs n) (fun b s=>Kj.execP procs n b s) back s
theorem M9{p:Pg}{back:Bool}{cs:List (List Int)}{inp out:List Int}{k f:Nat}{σ:PSt}(hf:eS p.vars cs inp out=true)(h:fA p back cs inp out k=.ok (σ,f))(hb:σ.base=(PSt.ini p cs inp out).base):eS p.vars σ.fin σ.inp σ.out=true:=by
 have h0:=m6 hf;obtain⟨⟨kd,m,ho,hk⟩,hn,hl⟩:=Kj.execP p.procs 2001 back p.main cs _ _ k σ f ⟨⟨_,_,h0,fun _ _=>rfl⟩,aH _,fun _ _ _=>rfl⟩ h;unfold eS at hf⊢;simp only[Bool.and_eq_true,decide_eq_true_eq]at hf⊢;obtain⟨hv,hc,_,_,pG⟩:=hf;have AD:σ.fin=(List.range p.vars.length).map fun i=>σ.cells.getD i []:=by unfold PSt.fin;rw[hb];simp[PSt.ini]
 refine⟨hv,by rw[AD];simp,ho.inp,ho.out,fun i v l h1 h2=>?_⟩;have hi:=(lgS.1 h1).1;rw[AD,List.getElem?_map,List.getElem?_range hi]at h2;simp only[Option.map_some,Option.some.injEq]at h2;have h3:=pG i v _ h1 (dR (show i<cs.length by omega));have tP:(p.vars.getD i ⟨⟨#[]⟩,0,0⟩).k=v.k:=by simp[eX,h1]
 unfold MW at h3⊢;by_cases h4:v.k=3
 ·rw[if_pos h4,decide_eq_true_eq,<-h2]
  cases h5:σ.cells[i]? with
  |none=>simp[eX,h5]
  |some l=>simpa[eX,h5]using(ho.one i l h5).2
 ·rw[if_neg h4]at h3⊢
  have h5:=hl i (by omega) (fun e=>h4 (tP.symm.trans e));rw[<-h2,h5];simpa[eX,dR (show i<cs.length by omega)]using h3
def Iv(cs:List (List Int))(inp out:List Int):Prop:=(∀l,l∈cs->∀v,v∈l->I64 v)∧(∀v,v∈inp->I64 v)∧∀v,v∈out->I64 v
theorem jU{p:Pg}{cs:List (List Int)}{inp out:List Int}(hf:eS p.vars cs inp out=true)(hr:Iv cs inp out):Inv (PSt.ini p cs inp out)∧cs.length=p.vars.length∧p.vars.length<=32:=by
 have h:=m6 hf;refine⟨⟨⟨_,32,h⟩,List.nodup_range,hr.1,hr.2.1,hr.2.2⟩,?_,h.base.bd⟩;unfold eS at hf;simp only[Bool.and_eq_true,decide_eq_true_eq]at hf;exact hf.2.1
end Bk
