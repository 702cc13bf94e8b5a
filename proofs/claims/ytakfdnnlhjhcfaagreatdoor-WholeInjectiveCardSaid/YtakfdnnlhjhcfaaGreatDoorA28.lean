/- Part of the proof. -/
import Derived.Test.YtakfdnnlhjhcfaaGreatDoorA27
set_option linter.unusedVariables false
set_option linter.unusedSimpArgs false
set_option maxRecDepth 100000
set_option maxHeartbeats 4000000
namespace Go.Proofs.YtakfdnnlhjhcfaaGreatDoor
open Go.RowKit Bk
structure RepX(w:World)(bf b4 b1 base:Nat)(q:Value)(t1:TypeId)(c1:Array Value):Prop where
 f:Blk w b4 70 #[(.func (.func 29) #[] #[.pointer (some ⟨bf,0,none⟩)])]
 p:Blk w b1 t1 c1
 h:bf<base∧base<=w.heap.size
 n4:Dn bf q w b4
 n1:Dn bf q w b1
theorem RepX.next{w w':World}{bf b4 b1 base:Nat}{q:Value}{t1:TypeId}{c1:Array Value}(h:RepX w bf b4 b1 base q t1 c1)(hb:Below w.heap.size w w'):RepX w' bf b4 b1 base q t1 c1:=
 ⟨h.f.next hb,h.p.next hb,⟨h.h.1,fC h.h.2 hb.size⟩,⟨dX h.n4.1 hb.size,h.n4.2⟩,⟨dX h.n1.1 hb.size,h.n1.2⟩⟩
theorem Dn.kb{bf k:Nat}{q q':Value}{w w':World}(h:Dn bf q w k)(he:Emt bf w w' q q'):Dn bf q' w' k:=
 ⟨dX h.1 he.1.size,fun ho=>by
  rcases ho with ho|ho
  ·exact h.2 (.inl ho)
  ·rcases he.2 with e|e
   ·exact h.2 (.inr (by rw[<-e];exact ho))
   ·have:=e k ho;have:=h.1;omega⟩
theorem RepX.emt{w w':World}{bf b4 b1 base:Nat}{q q':Value}{t1:TypeId}{c1:Array Value}(h:RepX w bf b4 b1 base q t1 c1)(he:Emt bf w w' q q'):RepX w' bf b4 b1 base q' t1 c1:=
 ⟨he.1.blk h.f h.n4.2,he.1.blk h.p h.n1.2,⟨h.h.1,fC h.h.2 he.1.size⟩,h.n4.kb he,h.n1.kb he⟩
def SX(w w':World)(bf base:Nat)(q:Value)(n:Nat)(err:Int):Prop:=∃q',Flt w' bf base q' (n+one err)∧Emt bf w w' q q'
theorem RepP.e{w w':World}{bf base:Nat}{q:Value}{n:Nat}{err:Int}(hf:Flt w bf base q n)(h:RepP w w' bf base q n err):SX w w' bf base q n err:=by
 rcases h with⟨rfl,hb⟩|⟨h0,q',h1,h2⟩
 ·exact⟨q,hf.next hb,Fr.of hb,.inl rfl⟩
 ·exact⟨q',by unfold one;rw[if_neg h0];exact h1,h2⟩
def KE(g:FuncId)(t1:TypeId)(c1:Array Value):Prop:=∀(w:World)(bf b4 b1 base:Nat)(q:Value)(n:Nat),RepX w bf b4 b1 base q t1 c1->Flt w bf base q n->n<=1000000->∀(err:Int)(nm:ByteArray)(v:Value)(l:List Int),l.length<=17592186043904->Sl w (fun k=>k<w.heap.size) 1 v l.length (aC l)->Calls Tryz.prog g #[v,.string nm,.int .i64 err,.pointer (some ⟨b4,0,none⟩),.pointer (some ⟨b1,0,none⟩)] w fun en w'=>en=.returned (.tuple #[])∧SX w w' bf base q n err
theorem Fi{V:Option Addr}{nv cv:Nat}{Q:Option Addr}{nq cq:Nat}(m:Nd):KE 35 28 #[.slice V nv cv,.slice Q nq cq,.int .u8 m.k,.int .i64 m.num,.string m.nm,.slice m.A m.n m.cap]:=by
 intro w bf b4 b1 base q n hr hf hn err nm v l hl hs;have HR:=aA fun pr=>(kN hf hr.h.1 hr.h.2 hn pr err nm hl hs).mono (fun en w' h=>(⟨h.1,RepP.e hf h.2⟩:en=.returned (.tuple #[])∧SX w w' bf base q n err))
 obtain⟨tE,s9,s6⟩:=hr.f.open_;obtain⟨aL,aJ,aK⟩:=hr.p.open_;clear hr hf hs;obtain⟨mk,mnum,mnm,mA,mn,mcap⟩:=m;dsimp only at *;go_enter Tryz.func35,Tryz.ntmps35;go_wp2_with fail;refine(HR.out _).mono ?_;rintro en w1 ⟨rfl,hp⟩;have HP:=aA hp;clear hp s9 tE s6 aJ aL aK;go_wp2_with fail;refine bodyPost_end (results_none rfl _ _ _) rfl ?_;exact⟨rfl,HP.out⟩
theorem Fh(i:Int):KE 34 3 #[.int .i64 i]:=by
 intro w bf b4 b1 base q n hr hf hn err nm v l hl hs;have HR:=aA fun pr=>(kN hf hr.h.1 hr.h.2 hn pr err nm hl hs).mono (fun en w' h=>(⟨h.1,RepP.e hf h.2⟩:en=.returned (.tuple #[])∧SX w w' bf base q n err))
 obtain⟨tE,s9,s6⟩:=hr.f.open_;obtain⟨aL,aJ,aK⟩:=hr.p.open_;clear hr hf hs;go_enter Tryz.func34,Tryz.ntmps34;go_wp2_with fail;refine(HR.out _).mono ?_;rintro en w1 ⟨rfl,hp⟩;have HP:=aA hp;clear hp s9 tE s6 aJ aL aK;go_wp2_with fail;refine bodyPost_end (results_none rfl _ _ _) rfl ?_;exact⟨rfl,HP.out⟩
def FB(w:World)(B:Nat)(g:FuncId)(t1:TypeId)(c1:Array Value)(pv:Value)(x:Nd)(dp:Nat)(cn:List Vr->Nat):Prop:=
 ∀(w':World)(bf b4 b1 base:Nat)(q:Value)(n:Nat)(pa:Value)(l:List Int)(A:Option Addr)(na ca:Nat)(vs:List Vr),Below B w w'->B<=bf->B<=base->RepX w' bf b4 b1 base q t1 c1->Flt w' bf base q n->n+cn vs<=1000000->Sl w' (Dn bf q w') 1 pa l.length (aC l)->l.length+dp<=1000->Sl w' (Dn bf q w') 3 (.slice A na ca) na (aU vs)->vs.length=na->na+dp<=1000->
  Calls Tryz.prog 33 #[pv,.agg #[.int .u8 x.k,.int .i64 x.num,.string x.nm,.slice x.A x.n x.cap],pa,.slice A na ca,.func (.func g) #[] #[.pointer (some ⟨b4,0,none⟩),.pointer (some ⟨b1,0,none⟩)]] w' fun en w''=>en=.returned (.tuple #[])∧∃q',Flt w'' bf base q' (n+cn vs)∧Emt bf w' w'' q q'
theorem MV{w:World}{B:Nat}(bG:B<=w.heap.size)(V:Option Addr)(nv cv:Nat)(Q:Option Addr)(nq cq:Nat)(m:Nd){g:FuncId}{t1:TypeId}{c1:Array Value}(eg:∀(args:Array Value)(w:World),(callFunc g args).run Tryz.prog w=.ok (.enter g args) w)(V1:KE g t1 c1)(x:Nd)(dp:Nat)(fe:List Vr->Int)
  (ZE:∀(W:World)(A:Option Addr)(na ca:Nat)(vs:List Vr),Below B w W->VsAt W W.heap.size A vs->vs.length=na->na<=1000->Calls Tryz.prog 58 #[.agg #[.slice V nv cv,.slice Q nq cq,.int .u8 m.k,.int .i64 m.num,.string m.nm,.slice m.A m.n m.cap],.agg #[.int .u8 x.k,.int .i64 x.num,.string x.nm,.slice x.A x.n x.cap],.slice A na ca] W fun en w''=>en=.returned (.int .i64 (fe vs))∧Below W.heap.size W w'') (V3:x.n<=17592186043904) (k50:(x.k==50)=false) (k51:(x.k==51)=false)
  (cn:Nat->List Vr->Nat) (dE:∀i,i<x.n->∃y,Kid w B x i y∧FB w B g t1 c1 (.agg #[.slice V nv cv,.slice Q nq cq,.int .u8 m.k,.int .i64 m.num,.string m.nm,.slice m.A m.n m.cap]) y dp (cn i)):
  FB w B g t1 c1 (.agg #[.slice V nv cv,.slice Q nq cq,.int .u8 m.k,.int .i64 m.num,.string m.nm,.slice m.A m.n m.cap]) x (dp+1) (fun vs=>one (fe vs)+aY (fun i=>cn i (bJ x i vs)) x.n):=by
 intro w' bf b4 b1 base q n pv l A na ca vs hb Pf Pe lR hfl hnc GM fM oJ hnv xH;dsimp only at hnc⊢;have HB:=aA hb;have uB:=aA dE;have bC:B<=w'.heap.size:=by have:=hb.size;omega
 have hl:l.length<=17592186043904:=by omega
 obtain⟨e0,he0⟩:∃e,fe vs=e:=⟨_,rfl⟩;have Le:Hid (∀W,Below B w W->VsAt W W.heap.size A vs->Calls Tryz.prog 58 #[.agg #[.slice V nv cv,.slice Q nq cq,.int .u8 m.k,.int .i64 m.num,.string m.nm,.slice m.A m.n m.cap],.agg #[.int .u8 x.k,.int .i64 x.num,.string x.nm,.slice x.A x.n x.cap],.slice A na ca] W fun en w''=>en=.returned (.int .i64 e0)∧Below W.heap.size W w''):=aA fun W h1 h2=>by rw[<-he0];exact ZE W A na ca vs h1 h2 hnv (by omega)
 have oG:=aA hnv;have YI:=aA V1;have eg':=eg;have aAj:=hfl.blk.lt;have YG:Hid (∀k,q.ownBlock=some k->base<=k∧k<w'.heap.size):=aA fun k hk=>by obtain⟨xs,ho,_⟩:=hfl.own;exact bH ho hk
 have HR:=aA lR;have XW:=aA hfl;have HP:=aA GM;have SS:=aA oJ;obtain⟨aAg,aAh⟩:=lR.h;have G7:Hid (∀(W:World)(i:Nat)(D:Nat->Prop),Sl W D 3 (.slice A na ca) na (aU vs)->(∀k,D k->k<W.heap.size)->Calls Tryz.prog 61 #[.agg #[.int .u8 x.k,.int .i64 x.num,.string x.nm,.slice x.A x.n x.cap],.int .i64 i,.slice A na ca] W fun en w'=>∃A' c',en=.returned (.slice A' (bJ x i vs).length c')∧Sl w' (fun k=>D k∨W.heap.size<=k∧k<w'.heap.size) 3 (.slice A' (bJ x i vs).length c') (bJ x i vs).length (aU (bJ x i vs))∧Below W.heap.size W w'):=aA fun W i D h1 h2=>MK x i h1 h2 hnv (by omega)
 have Ln:∀i,(bJ x i vs).length<=na+1:=fun i=>by have:=BF x i vs;omega
 obtain⟨iv,Uv⟩:∃iv:Nat->List Vr,(fun i=>bJ x i vs)=iv:=⟨_,rfl⟩;have VU:∀i,bJ x i vs=iv i:=fun i=>congrFun Uv i
 obtain⟨c,qE⟩:∃c:Nat->Nat,(fun i=>cn i (bJ x i vs))=c:=⟨_,rfl⟩;have IL:Hid (∀i,cn i (iv i)=c i):=aA fun i=>by rw[<-VU i];exact congrFun qE i
 have HIL:Hid (∀i,(iv i).length<=na+1):=aA fun i=>by rw[<-VU i];exact Ln i
 simp only[VU]at G7;rw[qE]at hnc⊢;clear Uv VU qE Ln;rw[he0]at hnc⊢;obtain⟨k,num,nm,A0,xn,cap⟩:=x;obtain⟨mk,mnum,mnm,mA,mn,mcap⟩:=m;dsimp only at *;clear hb dE ZE lR hfl GM oJ he0 V1 hnv eg;go_enter Tryz.func33,Tryz.ntmps33;go_upto_region 1 with fail;refine aB ?_;intro w1 aF;have aG:Below w'.heap.size w' w1:=by rw[aF];go_grown
 have K5:Blk w1 w'.heap.size 28 #[.slice V nv cv,.slice Q nq cq,.int .u8 mk,.int .i64 mnum,.string mnm,.slice mA mn mcap]:=by rw[aF];exact aQ
 have K6:Blk w1 (w'.heap.size+1) 26 #[.int .u8 k,.int .i64 num,.string nm,.slice A0 xn cap]:=by rw[aF];exact Blk.new' (by simp) _ _
 have lX:=aA K5;have oF:=aA K6;have aO:=aA aG;have vV:w'.heap.size+1<w1.heap.size:=K6.lt;have pU:=aA (HB.out.trans (aG.mono bC));have rC:=aA (HR.out.next aG);have Bo:=aA (XW.out.next aG);have Cn:=aA (Dn.next HP.out aG);have JZ:=aA (gW SS.out aG);clear aF aG K5 K6;have C6:∀kk,kk=w'.heap.size∨kk=w'.heap.size+1->¬(kk=bf∨q.ownBlock=some kk):=fun kk hk ho=>by
  rcases ho with ho|ho
  ·omega
  ·have:=YG.out _ ho;omega
 have lF:=aA C6;clear C6;refine wp_region_held_drew (S:=fun W=>Fr (fun kk=>kk=bf∨q.ownBlock=some kk) w1 W) (by kernel_rfl) ((Fr.refl _ _).drew) (fun hH=>?_);refine aE ?_;intro wa bP;have hX:Below w1.heap.size w1 wa:=by rw[bP];exact(aM _ _).drew
 replace hH:Fr (fun kk=>kk=bf∨q.ownBlock=some kk) w1 wa:=Fr.of hX;clear bP;refine aW 0 (v:=?_) rfl hH ?_;(try simp only[PU,aD])
 refine aW 1 (v:=?_) rfl hH ?_;(try simp only[PU,aD])
 refine aW 2 (v:=?_) rfl hH ?_;(try simp only[PU,aD])
 refine cH 3 (v:=?_) rfl ?hy hH ?_
 case hy=>(intro bW aN;have t:=(aN.blk oF.out (lF.out _ (.inr rfl))).cell;clear aN;go_simp;try with_reducible rfl)
 (try simp only[PU,aD])
 refine cH 4 (v:=?_) rfl ?hy hH ?_
 case hy=>(intro bW aN;have t:=(aN.blk lX.out (lF.out _ (.inl rfl))).cell;clear aN;go_simp;try with_reducible rfl)
 (try simp only[PU,aD])
 refine cH 5 (v:=?_) rfl ?hy hH ?_
 case hy=>(intro bW aN;have t:=(aN.blk oF.out (lF.out _ (.inr rfl))).cell;clear aN;go_simp;try with_reducible rfl)
 (try simp only[PU,aD])
 refine aW 6 (v:=?_) rfl hH ?_;(try simp only[PU,aD])
 refine cE 7 (by kernel_rfl) rfl (fun K hK=>?_);go_simp;refine(Le.out _ (pU.out.trans (hX.mono (by omega))) (PK (gW JZ.out hX) oG.out (fun kk hk=>hk.1))).mono ?_;rintro en wb ⟨rfl,aR⟩;replace hX:=hX.next aR;clear aR;refine hK.out _ _ (Fr.of hX) (fun hH=>?_);clear hK;(try simp only[PU,aD])
 refine cE 8 (by kernel_rfl) rfl (fun K hK=>?_);go_simp;refine(YI.out wb bf b4 b1 base q n (rC.out.next hX) (Bo.out.next hX) (by omega) e0 nm _ l hl (Sl.keep Cn.out (D':=fun k=>k<wb.heap.size) (fun b o hd=>hX.cell (p:=⟨b,o,none⟩) hd.1) (fun k hk=>dX hk.1 hX.size))).mono ?_;rintro en w3 ⟨rfl,q3,kE,VT⟩;refine hK.out _ _ ((Fr.of hX).trans VT.1) (fun hH=>?_);clear hK;(try simp only[PU,aD])
 refine wpAnyH_done (by kernel_rfl) ?_ _;have Kv:=aA (Emt.pre hX VT);have jK:=aA kE;clear hX hH kE VT;have Bz:=aA (Kv.out.1.blk oF.out (lF.out _ (.inr rfl)));clear Le;obtain⟨aL,aJ,aK⟩:=Bz.out.open_;go_wp2_with fail;clear aJ aL aK
 go_loopw [55] (fun v55 wr=>∃(j:Nat)(qc:Value),j<=xn∧v55=.int .i64 j∧Flt wr bf base qc (n+one e0+aY c j)∧Emt bf w1 wr q qc) (fun v _=>xn-(intOf v).toNat)
 case atStart=>exact⟨0,q3,fI _,rfl,jK.out,Kv.out⟩
 case round=>
  obtain⟨j,qc,hj,rfl,hfc,pF⟩:=hrel;have t9:=aA hfc;have U0:=aA pF;have JP:=aA (pF.1.blk lX.out (lF.out _ (.inl rfl)));have JO:=aA (pF.1.blk oF.out (lF.out _ (.inr rfl)));have pP:Hid (Below B w wr):=aA (pU.out.trans (pF.1.below (by omega) (fun kk hk=>by rcases hk with e|e;omega;have:=(YG.out _ e).1;omega)));have xS:=aA (rC.out.emt pF);have QP:=aA (Dn.emt Cn.out pF);have KA:=aA (LR JZ.out pF);have QQ:Hid (∀kk,qc.ownBlock=some kk->kk<wr.heap.size):=aA fun kk hk=>by obtain⟨xs,ho,_⟩:=t9.out.own;exact(bH ho hk).2
  have Ck:Hid (∀kk,kk=w'.heap.size∨kk=w'.heap.size+1->¬(kk=bf∨qc.ownBlock=some kk)):=aA fun kk hk ho=>by
   rcases ho with ho|ho
   ·omega
   ·rcases U0.out.2 with e|e
    ·exact lF.out kk hk (.inr (by rw[<-e];exact ho))
    ·have:=e kk ho;omega
  have wT:=pF.1.size;clear hfc pF;by_cases e9:j<xn
  ·obtain⟨y,cS,yP⟩:=uB.out j e9
   obtain⟨g1,o,eY,cR,c0,c1',c2,c3⟩:=cS.cells pP.out;simp only at eY;subst eY;have CH:=aA yP;have j0:(0:Int)<=(j:Int):=by omega
   have j1:(j:Int)<(xn:Int):=by omega
   have hsj:=iC (s:=c) (show j+1<=xn from e9);simp only[aY]at hsj;clear cS yP;go_upto_region 11 with fail;refine aB ?_;intro w5 jS;have cW:Below wr.heap.size wr w5:=by rw[jS];go_grown
   have KY:Blk w5 wr.heap.size 26 #[.int .u8 y.k,.int .i64 y.num,.string y.nm,.slice y.A y.n y.cap]:=by rw[jS];exact aQ
   have gE:=aA KY;have gP:=aA cW;have gL:=aA (pP.out.trans (cW.mono (by omega)));have zI:=aA (JP.out.next cW);have Cd:=aA (JO.out.next cW);have nK:=aA (xS.out.next cW);have rK:=aA (t9.out.next cW);have oN:=aA (Dn.next QP.out cW);have Dh:=aA (gW KA.out cW);have ZT:wr.heap.size<w5.heap.size:=KY.lt;have nH:Hid (∀kk,kk=w'.heap.size∨kk=w'.heap.size+1∨kk=wr.heap.size->¬(kk=bf∨qc.ownBlock=some kk)):=aA fun kk hk ho=>by
    rcases hk with hk|hk|hk
    ·exact Ck.out kk (.inl hk) ho
    ·exact Ck.out kk (.inr hk) ho
    ·rcases ho with ho|ho
     ·omega
     ·have:=QQ.out _ ho;omega
   replace QQ:Hid (∀kk,qc.ownBlock=some kk->kk<w5.heap.size):=aA fun kk hk=>by have:=QQ.out kk hk;omega
   have aAi:bf<w5.heap.size:=by omega
   clear jS c0 c1' c2 c3 cW KY JP JO xS QP pP t9 Ck KA;have T8:=aA (IL.out j);refine wp_region_held_drew (S:=fun W=>Fr (fun kk=>kk=bf∨qc.ownBlock=some kk) w5 W) (by kernel_rfl) ((Fr.refl _ _).drew) (fun hH=>?_);refine aE ?_;intro wa bP;have hX:Below w5.heap.size w5 wa:=by rw[bP];exact(aM _ _).drew
   replace hH:Fr (fun kk=>kk=bf∨qc.ownBlock=some kk) w5 wa:=Fr.of hX;clear bP;refine cH 0 (v:=?_) rfl ?hy hH ?_
   case hy=>(intro bW aN;have t:=(aN.blk zI.out (nH.out _ (.inl rfl))).cell;clear aN;go_simp;try with_reducible rfl)
   (try simp only[PU,aD])
   refine cH 1 (v:=?_) rfl ?hy hH ?_
   case hy=>(intro bW aN;have t:=(aN.blk gE.out (nH.out _ (.inr (.inr rfl)))).cell;clear aN;go_simp;try with_reducible rfl)
   (try simp only[PU,aD])
   refine aW 2 (v:=?_) rfl hH ?_;(try simp only[PU,aD])
   refine aW 3 (v:=?_) rfl hH ?_;(try simp only[PU,aD])
   refine cH 5 (v:=?_) rfl ?hy hH ?_
   case hy=>(intro bW aN;have t:=(aN.blk Cd.out (nH.out _ (.inr (.inl rfl)))).cell;clear aN;go_simp;try with_reducible rfl)
   (try simp only[PU,aD])
   refine aW 6 (v:=?_) rfl hH ?_;(try simp only[PU,aD])
   refine aW 7 (v:=?_) rfl hH ?_;(try simp only[PU,aD])
   refine aW 9 (v:=?_) rfl hH ?_;(try simp only[PU,aD])
   refine cE 4 (by kernel_rfl) rfl (fun K hK=>?_);go_simp;refine(DD _ (Dn.next oN.out hX) (fun k hk=>hk.1) (by omega) (j:Int)).mono ?_;rintro en wb ⟨v_c,rfl,bB,aR⟩;have Sf:w5.heap.size<=wa.heap.size:=hX.size;obtain⟨Ag,Ea,rfl⟩:=aI bB;have F2:Hid (Sl wb (Dn bf qc wb) 1 (.slice Ag (l.length+1) Ea) (l++ [(j:Int)]).length (aC (l++ [(j:Int)]))):=aA (by rw[show(l++ [(j:Int)]).length=l.length+1 by simp];exact(Sl.of_own bB).keep (fun _ _ _=>rfl) (fun kk hk=>⟨hk.2,by have h2:=QQ.out;have h3:=hk.1;rintro(e|e);omega;have:=h2 _ e;omega⟩));replace hX:=hX.next aR;clear bB aR Sf;refine hK.out _ _ (Fr.of hX) (fun hH=>?_);clear hK;(try simp only[PU,aD])
   refine cE 8 (by kernel_rfl) rfl (fun K hK=>?_);go_simp;refine(G7.out wb j (Dn bf qc wb) (gW Dh.out hX) (fun kk hk=>hk.1)).mono ?_;rintro en wc ⟨A_i,c_i,rfl,AQ,aR⟩;have Sf:w5.heap.size<=wb.heap.size:=hX.size;have Dd:Hid (Sl wc (Dn bf qc wc) 3 (.slice A_i (iv j).length c_i) (iv j).length (aU (iv j))):=aA (AQ.keep (fun _ _ _=>rfl) (fun kk hk=>hk.elim (fun h=>⟨dX h.1 aR.size,h.2⟩) (fun h=>⟨h.2,by have h2:=QQ.out;rintro(e|e);omega;have:=h2 _ e;omega⟩)));replace F2:=aA (gW F2.out aR);replace hX:=hX.next aR;clear AQ aR Sf;refine hK.out _ _ (Fr.of hX) (fun hH=>?_);clear hK;(try simp only[PU,aD])
   refine cE 10 (by kernel_rfl) rfl (fun K hK=>?_);go_simp;refine(CH.out wc bf b4 b1 base qc _ _ (l++ [(j:Int)]) A_i _ c_i (iv j) (gL.out.trans (hX.mono (by omega))) Pf Pe (nK.out.next hX) (rK.out.next hX) (by rw[T8.out];omega) F2.out (by simp;omega) Dd.out rfl (by have:=HIL.out j;omega)).mono ?_;rintro en w8 ⟨rfl,q8,lQ,xD⟩;rw[T8.out]at lQ;refine hK.out _ _ ((Fr.of hX).trans xD.1) (fun hH=>?_);clear hK;(try simp only[PU,aD])
   refine wpAnyH_done (by kernel_rfl) ?_ _;have pR:=aA lQ;have RR:=aA (Emt.pre hX xD);clear lQ xD hX hH;go_wp2_with fail;exact⟨⟨j+1,q8,by omega,by go_num,by rw[show aY c (j+1)=aY c j+c j from rfl,<-Nat.add_assoc];exact pR.out,U0.out.trans (Emt.pre gP.out RR.out)⟩,by simp[intOf];omega⟩
  ·obtain rfl:j=xn:=by omega
   go_wp2_with fail;refine bodyPost_end (results_none rfl _ _ _) rfl ?_;exact⟨rfl,qc,by rw[<-Nat.add_assoc];exact t9.out,Emt.pre aO.out U0.out⟩
theorem MU{w:World}{B:Nat}(bG:B<=w.heap.size)(V:Option Addr)(nv cv:Nat)(Q:Option Addr)(nq cq:Nat)(m:Nd){g:FuncId}{t1:TypeId}{c1:Array Value}(eg:∀(args:Array Value)(w:World),(callFunc g args).run Tryz.prog w=.ok (.enter g args) w)(V1:KE g t1 c1)(x:Nd)(dp:Nat)(fe:List Vr->Int)
  (ZE:∀(W:World)(A:Option Addr)(na ca:Nat)(vs:List Vr),Below B w W->VsAt W W.heap.size A vs->vs.length=na->na<=1000->Calls Tryz.prog 58 #[.agg #[.slice V nv cv,.slice Q nq cq,.int .u8 m.k,.int .i64 m.num,.string m.nm,.slice m.A m.n m.cap],.agg #[.int .u8 x.k,.int .i64 x.num,.string x.nm,.slice x.A x.n x.cap],.slice A na ca] W fun en w''=>en=.returned (.int .i64 (fe vs))∧Below W.heap.size W w'') (V3:x.n<=17592186043904) (hk:x.k=50∨x.k=51)
  (ar:List Vr->Nat->Int) (dE:∀i,i<x.n->∃y,Kid w B x i y∧∀(W:World)(A:Option Addr)(na ca:Nat)(vs:List Vr),Below B w W->VsAt W W.heap.size A vs->vs.length=na->na<=1000->Calls Tryz.prog 60 #[.agg #[.slice V nv cv,.slice Q nq cq,.int .u8 m.k,.int .i64 m.num,.string m.nm,.slice m.A m.n m.cap],.agg #[.int .u8 x.k,.int .i64 x.num,.string x.nm,.slice x.A x.n x.cap],.int .i64 i,.slice A na ca] W fun en w''=>en=.returned (.int .i64 (ar vs i))∧Below W.heap.size W w''):
  FB w B g t1 c1 (.agg #[.slice V nv cv,.slice Q nq cq,.int .u8 m.k,.int .i64 m.num,.string m.nm,.slice m.A m.n m.cap]) x (dp+1) (fun vs=>one (fe vs)+aY (fun i=>one (ar vs i)) x.n):=by
 intro w' bf b4 b1 base q n pv l A na ca vs hb Pf Pe lR hfl hnc GM fM oJ hnv xH;dsimp only at hnc⊢;have HB:=aA hb;have uB:=aA dE;have bC:B<=w'.heap.size:=by have:=hb.size;omega
 have hl:l.length<=17592186043904:=by omega
 obtain⟨e0,he0⟩:∃e,fe vs=e:=⟨_,rfl⟩;have Le:Hid (∀W,Below B w W->VsAt W W.heap.size A vs->Calls Tryz.prog 58 #[.agg #[.slice V nv cv,.slice Q nq cq,.int .u8 m.k,.int .i64 m.num,.string m.nm,.slice m.A m.n m.cap],.agg #[.int .u8 x.k,.int .i64 x.num,.string x.nm,.slice x.A x.n x.cap],.slice A na ca] W fun en w''=>en=.returned (.int .i64 e0)∧Below W.heap.size W w''):=aA fun W h1 h2=>by rw[<-he0];exact ZE W A na ca vs h1 h2 hnv (by omega)
 have oG:=aA hnv;have YI:=aA V1;have eg':=eg;have aAj:=hfl.blk.lt;have YG:Hid (∀k,q.ownBlock=some k->base<=k∧k<w'.heap.size):=aA fun k hk=>by obtain⟨xs,ho,_⟩:=hfl.own;exact bH ho hk
 have HR:=aA lR;have XW:=aA hfl;have HP:=aA GM;have SS:=aA oJ;obtain⟨aAg,aAh⟩:=lR.h;obtain⟨c,qE⟩:∃c:Nat->Nat,(fun i=>one (ar vs i))=c:=⟨_,rfl⟩;have IL:Hid (∀i,one (ar vs i)=c i):=aA fun i=>congrFun qE i
 have rX:∀i,c i<=1:=fun i=>by rw[<-IL.out i];exact sG _
 have E5:=aA rX;rw[qE]at hnc⊢;clear qE rX;rw[he0]at hnc⊢;obtain⟨k,num,nm,A0,xn,cap⟩:=x;obtain⟨mk,mnum,mnm,mA,mn,mcap⟩:=m;dsimp only at *;clear hb dE ZE lR hfl GM oJ he0 V1 hnv eg;have DJ:((k==50)=true∧(k==51)=false)∨((k==50)=false∧(k==51)=true):=by rcases hk with h|h<;>subst h<;>simp
 clear hk;rcases DJ with⟨k50,k51⟩|⟨k50,k51⟩
 all_goals
  go_enter Tryz.func33,Tryz.ntmps33;go_upto_region 1 with fail;refine aB ?_;intro w1 aF;have aG:Below w'.heap.size w' w1:=by rw[aF];go_grown
  have K5:Blk w1 w'.heap.size 28 #[.slice V nv cv,.slice Q nq cq,.int .u8 mk,.int .i64 mnum,.string mnm,.slice mA mn mcap]:=by rw[aF];exact aQ
  have K6:Blk w1 (w'.heap.size+1) 26 #[.int .u8 k,.int .i64 num,.string nm,.slice A0 xn cap]:=by rw[aF];exact Blk.new' (by simp) _ _
  have lX:=aA K5;have oF:=aA K6;have aO:=aA aG;have vV:w'.heap.size+1<w1.heap.size:=K6.lt;have pU:=aA (HB.out.trans (aG.mono bC));have rC:=aA (HR.out.next aG);have Bo:=aA (XW.out.next aG);have Cn:=aA (Dn.next HP.out aG);have JZ:=aA (gW SS.out aG);clear aF aG K5 K6;have C6:∀kk,kk=w'.heap.size∨kk=w'.heap.size+1->¬(kk=bf∨q.ownBlock=some kk):=fun kk hk ho=>by
   rcases ho with ho|ho
   ·omega
   ·have:=YG.out _ ho;omega
  have lF:=aA C6;clear C6;refine wp_region_held_drew (S:=fun W=>Fr (fun kk=>kk=bf∨q.ownBlock=some kk) w1 W) (by kernel_rfl) ((Fr.refl _ _).drew) (fun hH=>?_);refine aE ?_;intro wa bP;have hX:Below w1.heap.size w1 wa:=by rw[bP];exact(aM _ _).drew
  replace hH:Fr (fun kk=>kk=bf∨q.ownBlock=some kk) w1 wa:=Fr.of hX;clear bP;refine aW 0 (v:=?_) rfl hH ?_;(try simp only[PU,aD])
  refine aW 1 (v:=?_) rfl hH ?_;(try simp only[PU,aD])
  refine aW 2 (v:=?_) rfl hH ?_;(try simp only[PU,aD])
  refine cH 3 (v:=?_) rfl ?hy hH ?_
  case hy=>(intro bW aN;have t:=(aN.blk oF.out (lF.out _ (.inr rfl))).cell;clear aN;go_simp;try with_reducible rfl)
  (try simp only[PU,aD])
  refine cH 4 (v:=?_) rfl ?hy hH ?_
  case hy=>(intro bW aN;have t:=(aN.blk lX.out (lF.out _ (.inl rfl))).cell;clear aN;go_simp;try with_reducible rfl)
  (try simp only[PU,aD])
  refine cH 5 (v:=?_) rfl ?hy hH ?_
  case hy=>(intro bW aN;have t:=(aN.blk oF.out (lF.out _ (.inr rfl))).cell;clear aN;go_simp;try with_reducible rfl)
  (try simp only[PU,aD])
  refine aW 6 (v:=?_) rfl hH ?_;(try simp only[PU,aD])
  refine cE 7 (by kernel_rfl) rfl (fun K hK=>?_);go_simp;refine(Le.out _ (pU.out.trans (hX.mono (by omega))) (PK (gW JZ.out hX) oG.out (fun kk hk=>hk.1))).mono ?_;rintro en wb ⟨rfl,aR⟩;replace hX:=hX.next aR;clear aR;refine hK.out _ _ (Fr.of hX) (fun hH=>?_);clear hK;(try simp only[PU,aD])
  refine cE 8 (by kernel_rfl) rfl (fun K hK=>?_);go_simp;refine(YI.out wb bf b4 b1 base q n (rC.out.next hX) (Bo.out.next hX) (by omega) e0 nm _ l hl (Sl.keep Cn.out (D':=fun k=>k<wb.heap.size) (fun b o hd=>hX.cell (p:=⟨b,o,none⟩) hd.1) (fun k hk=>dX hk.1 hX.size))).mono ?_;rintro en w3 ⟨rfl,q3,kE,VT⟩;refine hK.out _ _ ((Fr.of hX).trans VT.1) (fun hH=>?_);clear hK;(try simp only[PU,aD])
  refine wpAnyH_done (by kernel_rfl) ?_ _;have Kv:=aA (Emt.pre hX VT);have jK:=aA kE;clear hX hH kE VT;have Bz:=aA (Kv.out.1.blk oF.out (lF.out _ (.inr rfl)));clear Le;obtain⟨aL,aJ,aK⟩:=Bz.out.open_;go_wp2_with fail;clear aJ aL aK
  go_loopw [34] (fun v34 wr=>∃(j:Nat)(qc:Value),j<=xn∧v34=.int .i64 j∧Flt wr bf base qc (n+one e0+aY c j)∧Emt bf w1 wr q qc) (fun v _=>xn-(intOf v).toNat)
  case atStart=>exact⟨0,q3,fI _,rfl,jK.out,Kv.out⟩
  case round=>
   obtain⟨j,qc,hj,rfl,hfc,pF⟩:=hrel;have t9:=aA hfc;have U0:=aA pF;have JP:=aA (pF.1.blk lX.out (lF.out _ (.inl rfl)));have JO:=aA (pF.1.blk oF.out (lF.out _ (.inr rfl)));have pP:Hid (Below B w wr):=aA (pU.out.trans (pF.1.below (by omega) (fun kk hk=>by rcases hk with e|e;omega;have:=(YG.out _ e).1;omega)));have xS:=aA (rC.out.emt pF);have QP:=aA (Dn.emt Cn.out pF);have KA:=aA (LR JZ.out pF);have QQ:Hid (∀kk,qc.ownBlock=some kk->kk<wr.heap.size):=aA fun kk hk=>by obtain⟨xs,ho,_⟩:=t9.out.own;exact(bH ho hk).2
   have Ck:Hid (∀kk,kk=w'.heap.size∨kk=w'.heap.size+1->¬(kk=bf∨qc.ownBlock=some kk)):=aA fun kk hk ho=>by
    rcases ho with ho|ho
    ·omega
    ·rcases U0.out.2 with e|e
     ·exact lF.out kk hk (.inr (by rw[<-e];exact ho))
     ·have:=e kk ho;omega
   have wT:=pF.1.size;clear hfc pF;by_cases e9:j<xn
   ·obtain⟨y,cS,yP⟩:=uB.out j e9
    obtain⟨g1,o,eY,cR,c0,c1',c2,c3⟩:=cS.cells pP.out;simp only at eY;subst eY;have CH:=aA yP;have j0:(0:Int)<=(j:Int):=by omega
    have j1:(j:Int)<(xn:Int):=by omega
    have hsj:=iC (s:=c) (show j+1<=xn from e9);simp only[aY]at hsj;clear cS yP;go_upto_region 6 with fail;refine aB ?_;intro w5 jS;have cW:Below wr.heap.size wr w5:=by rw[jS];go_grown
    have KY:Blk w5 wr.heap.size 26 #[.int .u8 y.k,.int .i64 y.num,.string y.nm,.slice y.A y.n y.cap]:=by rw[jS];exact aQ
    have gE:=aA KY;have gP:=aA cW;have gL:=aA (pP.out.trans (cW.mono (by omega)));have zI:=aA (JP.out.next cW);have Cd:=aA (JO.out.next cW);have nK:=aA (xS.out.next cW);have rK:=aA (t9.out.next cW);have oN:=aA (Dn.next QP.out cW);have Dh:=aA (gW KA.out cW);have ZT:wr.heap.size<w5.heap.size:=KY.lt;have nH:Hid (∀kk,kk=w'.heap.size∨kk=w'.heap.size+1∨kk=wr.heap.size->¬(kk=bf∨qc.ownBlock=some kk)):=aA fun kk hk ho=>by
     rcases hk with hk|hk|hk
     ·exact Ck.out kk (.inl hk) ho
     ·exact Ck.out kk (.inr hk) ho
     ·rcases ho with ho|ho
      ·omega
      ·have:=QQ.out _ ho;omega
    replace QQ:Hid (∀kk,qc.ownBlock=some kk->kk<w5.heap.size):=aA fun kk hk=>by have:=QQ.out kk hk;omega
    have aAi:bf<w5.heap.size:=by omega
    clear jS c0 c1' c2 c3 cW KY JP JO xS QP pP t9 Ck KA;obtain⟨ej,hej⟩:∃e,ar vs j=e:=⟨_,rfl⟩;have HAJ:=aA hej;have HEJ:Hid (one ej=c j):=aA (by rw[<-hej];exact IL.out j);clear hej;refine wp_region_held_drew (S:=fun W=>Fr (fun kk=>kk=bf∨qc.ownBlock=some kk) w5 W) (by kernel_rfl) ((Fr.refl _ _).drew) (fun hH=>?_);refine aE ?_;intro wa bP;have hX:Below w5.heap.size w5 wa:=by rw[bP];exact(aM _ _).drew
    replace hH:Fr (fun kk=>kk=bf∨qc.ownBlock=some kk) w5 wa:=Fr.of hX;clear bP;refine aW 0 (v:=?_) rfl hH ?_;(try simp only[PU,aD])
    refine aW 1 (v:=?_) rfl hH ?_;(try simp only[PU,aD])
    refine aW 2 (v:=?_) rfl hH ?_;(try simp only[PU,aD])
    refine aW 4 (v:=?_) rfl hH ?_;(try simp only[PU,aD])
    refine cH 5 (v:=?_) rfl ?hy hH ?_
    case hy=>(intro bW aN;have t:=(aN.blk gE.out (nH.out _ (.inr (.inr rfl)))).cell;clear aN;go_simp;try with_reducible rfl)
    (try simp only[PU,aD])
    refine cH 6 (v:=?_) rfl ?hy hH ?_
    case hy=>(intro bW aN;have t:=(aN.blk zI.out (nH.out _ (.inl rfl))).cell;clear aN;go_simp;try with_reducible rfl)
    (try simp only[PU,aD])
    refine cH 7 (v:=?_) rfl ?hy hH ?_
    case hy=>(intro bW aN;have t:=(aN.blk Cd.out (nH.out _ (.inr (.inl rfl)))).cell;clear aN;go_simp;try with_reducible rfl)
    (try simp only[PU,aD])
    refine aW 8 (v:=?_) rfl hH ?_;(try simp only[PU,aD])
    refine aW 9 (v:=?_) rfl hH ?_;(try simp only[PU,aD])
    refine cE 3 (by kernel_rfl) rfl (fun K hK=>?_);go_simp;refine(DD _ (Dn.next oN.out hX) (fun k hk=>hk.1) (by omega) (j:Int)).mono ?_;rintro en wb ⟨v_c,rfl,bB,aR⟩;have Sf:w5.heap.size<=wa.heap.size:=hX.size;obtain⟨Ag,Ea,rfl⟩:=aI bB;have F2:Hid (Sl wb (Dn bf qc wb) 1 (.slice Ag (l.length+1) Ea) (l++ [(j:Int)]).length (aC (l++ [(j:Int)]))):=aA (by rw[show(l++ [(j:Int)]).length=l.length+1 by simp];exact(Sl.of_own bB).keep (fun _ _ _=>rfl) (fun kk hk=>⟨hk.2,by have h2:=QQ.out;have h3:=hk.1;rintro(e|e);omega;have:=h2 _ e;omega⟩));replace hX:=hX.next aR;clear bB aR Sf;refine hK.out _ _ (Fr.of hX) (fun hH=>?_);clear hK;(try simp only[PU,aD])
    refine cE 10 (by kernel_rfl) rfl (fun K hK=>?_);go_simp;refine(CH.out wb A na ca vs (gL.out.trans (hX.mono (by omega))) (PK (gW Dh.out hX) oG.out (fun kk hk=>hk.1)) oG.out (by omega)).mono ?_;rintro en wc ⟨rfl,aR⟩;rw[HAJ.out];replace F2:=aA (gW F2.out aR);replace hX:=hX.next aR;clear aR;refine hK.out _ _ (Fr.of hX) (fun hH=>?_);clear hK;(try simp only[PU,aD])
    refine cE 11 (by kernel_rfl) rfl (fun K hK=>?_);go_simp;refine(YI.out wc bf b4 b1 base qc _ (nK.out.next hX) (rK.out.next hX) (by omega) ej y.nm _ (l++ [(j:Int)]) (by simp;omega) (Sl.keep F2.out (D':=fun k=>k<wc.heap.size) (fun b o hd=>rfl) (fun k hk=>hk.1))).mono ?_;rintro en w8 ⟨rfl,q8,lQ,xD⟩;rw[HEJ.out]at lQ;refine hK.out _ _ ((Fr.of hX).trans xD.1) (fun hH=>?_);clear hK;(try simp only[PU,aD])
    refine wpAnyH_done (by kernel_rfl) ?_ _;have pR:=aA lQ;have RR:=aA (Emt.pre hX xD);clear lQ xD hX hH;go_wp2_with fail;exact⟨⟨j+1,q8,by omega,by go_num,by rw[show aY c (j+1)=aY c j+c j from rfl,<-Nat.add_assoc];exact pR.out,U0.out.trans (Emt.pre gP.out RR.out)⟩,by simp[intOf];omega⟩
   ·obtain rfl:j=xn:=by omega
    go_wp2_with fail;refine bodyPost_ret_by (results_none rfl _ _ _) rfl ?_;exact⟨rfl,qc,by rw[<-Nat.add_assoc];exact t9.out,Emt.pre aO.out U0.out⟩
end Go.Proofs.YtakfdnnlhjhcfaaGreatDoor
namespace Bk
open Go Go.RowKit Go.Proofs.YtakfdnnlhjhcfaaGreatDoor
theorem Q7{f:Nat->Nat->Bool×Nat}:∀{n lf c:Nat},(∀i,i<n->∀lf c,f i lf=(true,c)->c<=lf)->dS f n lf=(true,c)->c<=lf
 |0,lf,c,_,h=>by simp only[dS,Prod.mk.injEq]at h;omega
 |n+1,lf,c,hf,h=>by
  simp only[dS]at h;split at h
  ·rename_i h1
   have h2:=Q7 (n:=n) (fun i hi=>hf i (by omega)) (show dS f n lf=(true,(dS f n lf).2) by rw[<-h1]);have h3:=hf n (by omega) _ _ h;omega
  ·rename_i h1
   rw[h]at h1;exact absurd rfl h1
theorem yV{f:Nat->Nat->Bool×Nat}:∀{n lf c:Nat},(∀i,i<n->∀lf c,f i lf=(true,c)->c<=lf)->dS f n lf=(true,c)->∀i,i<n->∃lf' c',lf'<=lf∧f i lf'=(true,c')
 |0,_,_,_,_,i,hi=>absurd hi (Nat.not_lt_zero _)
 |n+1,lf,c,hf,h,i,hi=>by
  simp only[dS]at h;split at h
  ·rename_i h1
   have h0:dS f n lf=(true,(dS f n lf).2):=by rw[<-h1]
   rcases Nat.lt_succ_iff_lt_or_eq.1 hi with h2|rfl
   ·exact yV (fun i hi=>hf i (by omega)) h0 i h2
   ·exact⟨_,_,Q7 (fun i hi=>hf i (by omega)) h0,h⟩
  ·rename_i h1
   rw[h]at h1;exact absurd rfl h1
def Z0(vs:List Vr)(s:ByteArray):Int:=if(bK s vs).isSome then 22 else 0
def oH(vs:List Vr)(j:Nat):Nat:=match vs[j]? with
 |none=>0
 |some v=>one (Z0 (vs.take j) v.nm)
theorem CZ(vs:List Vr)(j:Nat):oH vs j<=1:=by
 unfold oH;split
 ·omega
 ·exact sG _
noncomputable def oK(w:World)(B d:Nat)(ps:List Pc)(i:Nat):Nat:=match ps[i]? with
 |none=>0
 |some p=>one (if fB p.nm ps<(i:Int)then 22 else 0)+aY (oH p.vs) p.nv+dL w B ps d p.body p.vs
noncomputable def FR(w:World)(B d:Nat)(vs:List Vr)(ps:List Pc)(m:Nd):Nat:=aY (oH vs) vs.length+aY (oK w B d ps) ps.length+dL w B ps d m vs
theorem qV{g:Nat->Nat}{b:Nat}:∀{n:Nat},(∀i,i<n->g i<=b)->aY g n<=n*b
 |0,_=>by simp[aY]
 |n+1,h=>by
  have h1:=qV (n:=n) fun i hi=>h i (by omega)
  have h2:=h n (by omega);simp only[aY];rw[Nat.succ_mul];omega
theorem iZ{w:World}{B d:Nat}{m:Nd}(h:gZ w B d m=true):(∃c,f6 w B d m 80 2000=(true,c))∧p7 w B d m=true:=by
 unfold gZ at h;simp only[Bool.and_eq_true]at h;exact⟨⟨(f6 w B d m 80 2000).2,by rw[<-h.1]⟩,h.2⟩
theorem jG{w:World}{B d:Nat}{p:Pc}(h:mZ w B d p=true):aS p.nm=true∧p.nv<=8∧iG p.vs=true∧gZ w B d p.body=true:=by
 unfold mZ at h;simp only[Bool.and_eq_true,decide_eq_true_eq]at h;exact⟨h.1,h.2.1,h.2.2.1,h.2.2.2⟩
end Bk
namespace Go.Proofs.YtakfdnnlhjhcfaaGreatDoor
open Go.RowKit Bk
theorem lB{w:World}{B d:Nat}{vs:List Vr}{ps:List Pc}{m:Nd}(h:validB w B d vs ps m=true):vs.length<=32∧ps.length<=64∧iG vs=true∧(∀p∈ps,mZ w B d p=true)∧gZ w B d m=true:=by
 unfold validB at h;simp only[Bool.and_eq_true,decide_eq_true_eq,List.all_eq_true]at h;exact⟨h.1,h.2.1,h.2.2.1,h.2.2.2.1,h.2.2.2.2⟩
theorem TZ{w:World}{B d:Nat}{vs:List Vr}{ps:List Pc}{m:Nd}(h:validB w B d vs ps m=true):aY (oH vs) vs.length<=32∧aY (oK w B d ps) ps.length<=200000∧(∀i,i<ps.length->aY (oK w B d ps) i+oK w B d ps i<=200000)∧(∀i,oK w B d ps i<=2009)∧∀vs,dL w B ps d m vs<=2000:=by
 obtain⟨h1,h2,_,h3,h4⟩:=lB h;have a1:=qV (g:=oH vs) (b:=1) (n:=vs.length) fun i _=>CZ _ _
 have a2:∀i,oK w B d ps i<=2009:=fun i=>by
  unfold oK;split
  ·omega
  ·rename_i p hp
   obtain⟨_,q1,_,q2⟩:=jG (h3 p (List.mem_of_getElem? hp));obtain⟨⟨c,q3⟩,_⟩:=iZ q2;have q4:=(kK ps d p.body p.vs _ _ _ q3).1;have q5:=qV (g:=oH p.vs) (b:=1) (n:=p.nv) fun i _=>CZ _ _
   have q6:=sG (if fB p.nm ps<(i:Int)then 22 else 0);omega
 have a3:=qV (g:=oK w B d ps) (b:=2009) (n:=ps.length) fun i _=>a2 i
 obtain⟨⟨c,q3⟩,_⟩:=iZ h4;have a4:ps.length*2009<=64*2009:=Nat.mul_le_mul_right _ h2;exact⟨by omega,by omega,fun i hi=>by have:=iC (s:=oK w B d ps) (show i+1<=ps.length from hi);simp only[aY]at this;omega,a2,fun vs=>by have:=(kK ps d m vs _ _ _ q3).1;omega⟩
theorem vE{w:World}{B:Nat}(bG:B<=w.heap.size)(V:Option Addr)(nv cv:Nat)(Q:Option Addr)(nq cq:Nat){dq:Nat}(ps:List Pc)(hq:PrsAt w B dq Q ps)(hnq:ps.length=nq)(hnq2:nq<=17592186043904)(m:Nd){g:FuncId}{t1:TypeId}{c1:Array Value}(eg:∀(args:Array Value)(w:World),(callFunc g args).run Tryz.prog w=.ok (.enter g args) w)(V1:KE g t1 c1):
  ∀(d:Nat)(x:Nd)(dp lf c:Nat),KV w B d x->f6 w B d x dp lf=(true,c)->lf<=2000->FB w B g t1 c1 (.agg #[.slice V nv cv,.slice Q nq cq,.int .u8 m.k,.int .i64 m.num,.string m.nm,.slice m.A m.n m.cap]) x dp (fun vs=>dL w B ps d x vs)
 |0,_,_,_,_,h,_,_=>h.elim
 |d+1,x,dp,lf,c,hk,hl,hlf=>by
  obtain⟨h1,h2,h3⟩:=tR hl;have V3:x.n<=17592186043904:=by
   have:=kR (g:=fun _=>1) (fun i _ lf c h=>by have:=(kK ps d _ [] _ _ _ h).2;omega) h3;have hs:∀n,aY (fun _=>1) n=n:=fun n=>by induction n with
    |zero=>rfl
    |succ n ih=>simp only[aY,ih]
   rw[hs]at this;omega
  obtain⟨dp,rfl⟩:∃k,dp=k+1:=⟨dp-1,by omega⟩;have ZE:∀(W:World)(A:Option Addr)(na ca:Nat)(vs:List Vr),Below B w W->VsAt W W.heap.size A vs->vs.length=na->na<=1000->Calls Tryz.prog 58 #[.agg #[.slice V nv cv,.slice Q nq cq,.int .u8 m.k,.int .i64 m.num,.string m.nm,.slice m.A m.n m.cap],.agg #[.int .u8 x.k,.int .i64 x.num,.string x.nm,.slice x.A x.n x.cap],.slice A na ca] W fun en w''=>en=.returned (.int .i64 (cY vs ps x))∧Below W.heap.size W w'':=fun W A na ca vs hW hv hn hn2=>ME bG V nv cv Q nq cq ps hq hnq hnq2 m (w0:=W) (B0:=W.heap.size) (aH _) A na ca vs hv hn (by omega) x V3 W hW (aM _ _)
  by_cases hc:x.k=50∨x.k=51
  ·have h:=MU bG V nv cv Q nq cq m eg V1 x dp (fun vs=>cY vs ps x) ZE V3 hc (fun vs i=>zO vs ps x.nm x.n i (bO w B x i).nm) (fun i hi=>⟨_,(bE hk hi).1,fun W A na ca vs hW hv hn hn2=>Em bG V nv cv Q nq cq ps hq hnq hnq2 m (w0:=W) (B0:=W.heap.size) (aH _) A na ca vs hv hn (by omega) x _ V3 i hi (bE hk hi).1 W hW (aM _ _)⟩)
   have e:(fun vs=>dL w B ps (d+1) x vs)=(fun vs=>one (cY vs ps x)+aY (fun i=>one (zO vs ps x.nm x.n i (bO w B x i).nm)) x.n):=by funext vs;rw[dL,if_pos hc]
   rw[e];exact h
  ·have h:=MV bG V nv cv Q nq cq m eg V1 x dp (fun vs=>cY vs ps x) ZE V3 (by simp;omega) (by simp;omega) (fun i vs=>dL w B ps d (bO w B x i) vs) (fun i hi=>by
    obtain⟨lf',c',h4,h5⟩:=yV (fun i _ lf c h=>by have:=(kK ps d _ [] _ _ _ h).2;omega) h3 i hi;exact⟨_,(bE hk hi).1,vE bG V nv cv Q nq cq ps hq hnq hnq2 m eg V1 d _ dp lf' c' (bE hk hi).2 h5 (by omega)⟩)
   have e:(fun vs=>dL w B ps (d+1) x vs)=(fun vs=>one (cY vs ps x)+aY (fun i=>dL w B ps d (bO w B x i) (bJ x i vs)) x.n):=by funext vs;rw[dL,if_neg hc]
   rw[e];exact h
end Go.Proofs.YtakfdnnlhjhcfaaGreatDoor
