/- Part of the proof. -/
import Derived.Test.YtakfdnnlhjhcfaaGreatDoorA32
set_option linter.unusedVariables false
set_option linter.unusedSimpArgs false
set_option maxRecDepth 100000
set_option maxHeartbeats 4000000
namespace Bk
open Go Go.RowKit
structure Kept(p:Nat->Obj->Prop)(W W':World):Prop where
 os:W'.os=W.os
 tape:W'.tape=W.tape
 output:W'.output=W.output
 size:W.heap.size<=W'.heap.size
 keep:∀k o,W.heap[k]?=some o->p k o->W'.heap[k]?=some o
section
variable{p q:Nat->Obj->Prop}{W W' W'':World}
theorem Kept.refl(W:World):Kept p W W:=⟨rfl,rfl,rfl,aH _,fun _ _ h _=>h⟩
theorem Kept.trans(h:Kept p W W')(h':Kept p W' W''):Kept p W W'':=⟨h'.os.trans h.os,h'.tape.trans h.tape,h'.output.trans h.output,fC h.size h'.size,fun k o a b=>h'.keep k o (h.keep k o a b) b⟩
theorem Kept.mono(h:Kept p W W')(hq:∀k o,q k o->p k o):Kept q W W':=⟨h.os,h.tape,h.output,h.size,fun k o a b=>h.keep k o a (hq k o b)⟩
theorem Kept.of(h:Below W.heap.size W W'):Kept p W W':=⟨h.os,h.tape,h.output,h.size,fun k o a _=>(h.block k (Array.getElem?_eq_some_iff.1 a).1).trans a⟩
theorem Kept.fr{O:Nat->Prop}(h:Fr O W W')(hO:∀k o,W.heap[k]?=some o->O k->¬p k o):Kept p W W':=⟨h.os,h.tape,h.output,h.size,fun k o a b=>(h.block k (Array.getElem?_eq_some_iff.1 a).1 (fun hk=>hO k o a hk b)).trans a⟩
theorem Kept.grown{row:Option Nat}(hg:W.grownBy W' row)(hr:∀k,row=some k->∀o,W.heap[k]?=some o->¬p k o):Kept p W W':=by
 have h:=(aM 0 W).grown hg (fI _) (fun _ _=>fI _);exact⟨h.os,h.tape,h.output,hg.size,fun k o a b=>(hg.block k (Array.getElem?_eq_some_iff.1 a).1 (fun e=>hr k e.symm o a b)).trans a⟩
theorem Kept.blk(h:Kept p W W'){g:Nat}{t:TypeId}{cs:Array Value}(hb:Blk W g t cs)(hp:p g (.cells cs t (0,0))):Blk W' g t cs:=h.keep g _ hb hp
theorem Kept.heap(h:Kept p W W'){k:Nat}(hk:k<W.heap.size)(hp:∀o,p k o):W'.heap[k]?=W.heap[k]?:=(h.keep k _ (Array.getElem?_eq_getElem hk) (hp _)).trans (Array.getElem?_eq_getElem hk).symm
end
def BH(t:TypeId)(o:Obj):Prop:=∃cs z,o=.cells cs t z
theorem ClD.trans{w w1 w2:World}{B B1:Nat}{D D2:Nat->Prop}:∀{d:Nat}{x y z:Nd},ClD w B w1 D d x y->(∀k,D k->k<B1)->ClD w1 B1 w2 D2 d y z->ClD w B w2 D2 d x z
 |0,_,_,_,h,_,_=>h
 |d+1,x,y,z,⟨⟨e1,e2,e3,e4,_⟩,h2⟩,hD,⟨⟨f1,f2,f3,f4,f5⟩,g2⟩=>by
  refine⟨⟨f1.trans e1,f2.trans e2,f3.trans e3,f4.trans e4,f5⟩,fun i hi=>?_⟩;obtain⟨a,b,g,o,k1,k2,k3,k4,k5⟩:=h2 i hi;obtain⟨a',b',g',o',q1,q2,q3,q4,q5⟩:=g2 i (by omega);obtain rfl:=Kid.one (⟨g,o,k2,hD g k3,k4⟩:Kid w1 B1 y i b) q1;exact⟨a,b',g',o',k1,q2,q3,q4,ClD.trans k5 hD q5⟩
def AllD(w:World)(B:Nat)(V:Nat->Nd->Prop):Nat->Nd->Prop
 |0,_=>True
 |d+1,x=>V (d+1) x∧∀i y,i<x.n->Kid w B x i y->AllD w B V d y
theorem AllD.mono{w:World}{B:Nat}{V V':Nat->Nd->Prop}(h:∀d u,V d u->V' d u):∀{d:Nat}{x:Nd},AllD w B V d x->AllD w B V' d x
 |0,_,_=>trivial
 |d+1,x,⟨h1,h2⟩=>⟨h _ _ h1,fun i y hi hk=>AllD.mono h (h2 i y hi hk)⟩
end Bk
namespace Go.Proofs.YtakfdnnlhjhcfaaGreatDoor
open Go.RowKit Bk
def Hm(n0:Nat)(k:Nat)(o:Obj):Prop:=k<n0∨¬(BH 3 o∨BH 30 o)
def Sw(D:Nat->Prop)(k:Nat)(o:Obj):Prop:=D k∨BH 186 o∨BH 30 o∨BH 66 o∨BH 3 o∨BH 26 o
def Vk(D:Nat->Prop)(k:Nat)(o:Obj):Prop:=D k∨BH 186 o∨BH 66 o∨BH 26 o
structure ItW(W:World)(n0 by_ bp bv l:Nat)(pl:List Int):Prop where
 y:Blk W by_ 186 #[.func (.yield l) #[] #[]]
 v:Blk W bv 66 #[.func (.func 140) #[] #[.pointer (some ⟨by_,0,none⟩),.pointer (some ⟨bp,0,none⟩),.pointer (some ⟨bv,0,none⟩)]]
 p:∃pv,Blk W bp 30 #[pv]∧W.ownsRow n0 3 1 pv pl.length (aC pl)
section
variable{W W':World}{n0 by_ bp bv l:Nat}{pl:List Int}{D:Nat->Prop}
theorem wM{t t':TypeId}(h:t≠t'){cs:Array Value}{z:Nat×Nat}:¬BH t' (.cells cs t z):=fun⟨_,_,e⟩=>by injection e with _ e2 _;exact h e2
theorem R2{p:Nat->Obj->Prop}{base n:Nat}{e:TypeId}{size:Nat}{v:Value}{xs:List Value}(h:W.ownsRow base e size v n xs)(hk:Kept p W W')(hp:∀g cs,base<=g->p g (.cells cs e (0,0))):W'.ownsRow base e size v n xs:=by
 refine⟨h.1,?_⟩;rcases h.2 with h0|⟨g,cap,cur,e1,hg,hh,r⟩
 ·exact .inl h0
 ·exact .inr ⟨g,cap,cur,e1,hg,hk.keep g _ hh (hp g cur hg),r⟩
theorem ItW.rd(h:ItW W n0 by_ bp bv l pl)(hk:Kept (Sw D) W W'):ItW W' n0 by_ bp bv l pl:=by
 obtain⟨pv,h1,h2⟩:=h.p;exact⟨hk.blk h.y (.inr (.inl ⟨_,_,rfl⟩)),hk.blk h.v (.inr (.inr (.inr (.inl ⟨_,_,rfl⟩)))),pv,hk.blk h1 (.inr (.inr (.inl ⟨_,_,rfl⟩))),R2 h2 hk fun g cs _=>.inr (.inr (.inr (.inr (.inl ⟨cs,_,rfl⟩))))⟩
theorem Kept.vi(hD:∀k,D k->k<n0)(hk:Kept (Hm n0) W W'):Kept (Vk D) W W':=hk.mono fun k o hp=>by
 rcases hp with hp|⟨cs,z,rfl⟩|⟨cs,z,rfl⟩|⟨cs,z,rfl⟩
 ·exact .inl (hD k hp)
 all_goals exact .inr fun hx=>hx.elim (wM (by decide)) (wM (by decide))
def itQ(n0:Nat)(k:Nat)(o:Obj):Prop:=k<n0∨¬BH 3 o
theorem ItW.put{pv:Value}(hy:Blk W by_ 186 #[.func (.yield l) #[] #[]])(hv:Blk W bv 66 #[.func (.func 140) #[] #[.pointer (some ⟨by_,0,none⟩),.pointer (some ⟨bp,0,none⟩),.pointer (some ⟨bv,0,none⟩)]])(h1:Blk W bp 30 #[pv])(hn:by_≠bp∧by_≠bv∧bp≠bv)(hb:n0<=bp){pl':List Int}{v:Value}(ho:W.ownsRow n0 3 1 v pl'.length (aC pl')):ItW (W.setCell ⟨bp,0,none⟩ v) n0 by_ bp bv l pl'∧Kept (Hm n0) W (W.setCell ⟨bp,0,none⟩ v):=by
 have hf:Fr (· =bp) W (W.setCell ⟨bp,0,none⟩ v):=Fr.set (Fr.refl (· =bp) _) rfl _;have hk:Kept (Hm n0) W (W.setCell ⟨bp,0,none⟩ v):=Kept.fr hf fun k o hk e hp=>by
  subst e;have:=hk.symm.trans h1;injection this with this;subst this;rcases hp with hp|hp
  ·omega
  ·exact hp (.inr ⟨_,_,rfl⟩)
 refine⟨⟨hy.far (p:=⟨bp,0,none⟩) hn.1 _,hv.far (p:=⟨bp,0,none⟩) (fun e=>hn.2.2 e.symm) _,v,by simpa using h1.set_ 0 v,?_⟩,hk⟩;refine⟨ho.1,?_⟩;rcases ho.2 with h0|⟨g,cap,cur,e1,hg,hh,r⟩
 ·exact .inl h0
 ·refine .inr ⟨g,cap,cur,e1,hg,(hf.block g (Array.getElem?_eq_some_iff.1 hh).1 (fun e=>?_)).trans hh,r⟩
  subst e;have:=hh.symm.trans h1;injection this with this;injection this with _ e2 _;exact absurd e2 (by decide)
theorem WR{v:Value}{n:Nat}{xs:List Value}(h:W.ownsRow n0 3 1 v n xs){k:Nat}(hk:v.ownBlock=some k){o:Obj}(ho:W.heap[k]?=some o):n0<=k∧BH 3 o:=by
 rcases h.2 with⟨rfl,_⟩|⟨g,cap,cur,rfl,hg,hh,_⟩
 ·cases hk
 ·injection hk with hk;subst hk
  rw[hh]at ho;injection ho with ho;subst ho;exact⟨hg,_,_,rfl⟩
theorem nY{base n:Nat}{e:TypeId}{A:Option Addr}{c:Nat}{x:Value}{xs:List Value}(h:W.ownsRow base e 1 (.slice A (n+1) c) (n+1) (xs++ [x])):W.ownsRow base e 1 (.slice A n c) n xs∧n+1<=c:=by
 have hl:xs.length=n:=by have:=h.1;simp at this;omega
 rcases h.2 with⟨_,h0⟩|⟨g,cap,cur,e1,hg,hh,h1,h2,h3,h4⟩
 ·omega
 ·injection e1 with e1 e2 e3
  subst e1;subst e3;refine⟨⟨by omega,.inr ⟨g,c,cur,rfl,hg,hh,by omega,h2,h3,?_⟩⟩,h1⟩;have:=congrArg (List.take n) h4;rw[List.take_take,show min n ((n+1)*1)=n by omega,<-hl,List.take_left]at this;rw[Nat.mul_one,<-hl];exact this
end
noncomputable def o8(w:World)(B:Nat):Nat->Nd->Nat
 |0,_=>0
 |d+1,x=>1+aY (fun q=>o8 w B d (bO w B x q)) x.n
theorem M3(w:World)(B:Nat)(D:Nat->Prop)(n0 by_ bp bv l N:Nat)(hn:by_≠bp∧by_≠bv∧bp≠bv)(hno:n0<=bp∧∀k,D k->k<n0)(J:List Nd->World->Prop)(Jx:World->Prop)(U:Nat->Nd->Prop)(hU:∀d x i y,U (d+1) x->i<x.n->Kid w B x i y->U d y)
  (hJ:∀L W W',J L W->Kept (Hm n0) W W'->J L W')
  (hY:∀(L:List Nd)(W:World)(d:Nat)(x y:Nd)(pv:Value)(pl:List Int)(D2:Nat->Prop),L.length<N->J L W->U d x->KV w B d x->Sm w B d x->ClD w B W D2 d x y->(∀k,D2 k->n0<=k∧k<W.heap.size)->Sl W (fun k=>k<W.heap.size) 1 pv pl.length (aC pl)->YieldAt Fence.wide 0 Tryz.prog l #[pv,.agg #[.int .u8 y.k,.int .i64 y.num,.string y.nm,.slice y.A y.n y.cap]] W fun e W'=>(e=.returned (.bool true)∧J (x::L) W'∧Kept (Sw D) W W')∨(e=.returned (.bool false)∧Jx W')):
  ∀(d:Nat)(x y:Nd)(pl:List Int)(W:World)(L:List Nd),U d x->KV w B d x->Sm w B d x->ClD w B W D d x y->n0<=W.heap.size->J L W->L.length+o8 w B d x<=N->ItW W n0 by_ bp bv l pl->pl.length+d<=5000->
   Calls Tryz.prog 140 #[.agg #[.int .u8 y.k,.int .i64 y.num,.string y.nm,.slice y.A y.n y.cap],.pointer (some ⟨by_,0,none⟩),.pointer (some ⟨bp,0,none⟩),.pointer (some ⟨bv,0,none⟩)] W fun e W'=>(e=.returned (.bool true)∧(∃L',L'.length<=L.length+o8 w B d x∧J L' W'∧(∀u,u∈L->u∈L')∧AllD w B (fun _ u=>u∈L') d x)∧ItW W' n0 by_ bp bv l pl∧Kept (Vk D) W W')∨(e=.returned (.bool false)∧Jx W')
 |0,_,_,_,_,_,_,h,_,_,_,_,_,_,_=>h.elim
 |d+1,x,y,pl,W,L0,VZ,hx,hs,hc,Qw,hj,hN,hi,fM=>by
  have IH:=M3 w B D n0 by_ bp bv l N hn hno J Jx U hU hJ hY d;obtain⟨pv,hbp,bB⟩:=hi.p;have JK:=aA IH;have HY:=aA hY;have HC:=aA hc;have HX:=aA hx;have HS:=aA hs;have HJ:=aA hJ;have Wu:=aA hj;have HI:=aA hi;have HBP:=aA hbp;have HO:=aA bB;have lF:=aA hno;obtain⟨k,num,nm,A,n,cap⟩:=y;clear IH hY hc hx hs hJ hj hi hbp bB hno;dsimp only at *;go_enter Tryz.func140,Tryz.ntmps140;go_upto_region 1 with fail;refine aB ?_;intro w1 aF;have aG:Below W.heap.size W w1:=by rw[aF];go_grown
  have K1:Blk w1 W.heap.size 26 #[.int .u8 k,.int .i64 num,.string nm,.slice A n cap]:=by rw[aF];exact aQ
  have aO:=aA aG;have a9:=aA K1;have HY1:=aA (HI.out.y.next aG);have Cn:=aA (HBP.out.next aG);clear aF aG K1;refine(wpIn_wide (n:=0)).1 (wpIn_region_any (by kernel_rfl) ?_);refine FC (ops5:=#[{dst:=some 8,op:=Op.load 186 (Operand.tmp 1),type:=186,pos:= "ast.go:206",after:=#[],guard:=none},{dst:=some 9,op:=Op.load 30 (Operand.tmp 2),type:=30,pos:= "ast.go:206",after:=#[],guard:=none},{dst:=some 10,op:=Op.call {callee:=Callee.value (Operand.func 30),args:=#[Operand.tmp 9],argTypes:=#[30]},type:=30,pos:= "ast.go:206",after:=#[{on:=1,ground:=Ground.data}],guard:=none},{dst:=some 11,op:=Op.load 26 (Operand.tmp 4),type:=26,pos:= "ast.go:206",after:=#[],guard:=none},{dst:=some 12,op:=Op.call {callee:=Callee.value (Operand.func 138),args:=#[Operand.tmp 11],argTypes:=#[26]},type:=26,pos:= "ast.go:206",after:=#[{on:=3,ground:=Ground.data},{on:=2,ground:=Ground.chain}],guard:=none}]) (fun b0 b1 b2 b3 b4=>(!b2||b1)&&(!b4||(b3&&b2))) ?_ ?_ ?_ ?_ ?_ 5 false false false false false _ _ rfl ?_
  ·exact fun i hi=>match i,hi with|0,_=>rfl|1,_=>rfl|2,_=>rfl|3,_=>rfl|4,_=>rfl
  ·intro i o h
   match i,h with
   |0,h=>injection h with h;subst h;rfl
   |1,h=>injection h with h;subst h;rfl
   |2,h=>injection h with h;subst h;rfl
   |3,h=>injection h with h;subst h;rfl
   |4,h=>injection h with h;subst h;rfl
   |i+5,h=>simp at h
  ·decide+kernel
  ·decide+kernel
  ·decide+kernel
  refine wpAny_of_held (S:=fun W'=>Below w1.heap.size w1 W') _ _ _ _ ?_;refine aE ?_;intro wa bP;have hH:Below w1.heap.size w1 wa:=by rw[bP];exact(aM _ _).drew
  clear bP;refine cH 0 (v:=?_) rfl ?hy hH ?_
  case hy=>(intro bW aN;have t:=(HY1.out.next aN).cell;clear aN;go_simp;try with_reducible rfl)
  (try simp only[PU,aD])
  refine cH 1 (v:=?_) rfl ?hy hH ?_
  case hy=>(intro bW aN;have t:=(Cn.out.next aN).cell;clear aN;go_simp;try with_reducible rfl)
  (try simp only[PU,aD])
  refine cH 3 (v:=?_) rfl ?hy hH ?_
  case hy=>(intro bW aN;obtain⟨aL,aJ,aK⟩:=(a9.out.next aN).open_;clear aN;go_simp;try with_reducible rfl)
  (try simp only[PU,aD])
  refine cE 2 (by kernel_rfl) rfl (fun K hK=>?_);rw[if_pos (by rfl)];go_simp;refine(eR (Sl.of_own (aZ HO.out (aO.out.next hH) (aH _))) (by omega)).mono ?_;rintro en wb ⟨cv,rfl,gY,aR⟩;have JI:=aA gY;have aP:=aA (aO.out.next (hH.next aR));refine hK.out _ _ (hH.next aR) (fun hH=>?_);clear hK gY aR;(try simp only[PU,aD])
  have hzw:=aP.out.size;have oL:=aA (HC.out.keep (D':=D) (fun b o hb=>aP.out.cell (p:=⟨b,o,none⟩) (by show b<_;have:=lF.out.2 b hb;omega)) fun _ h=>h);obtain⟨tP,yR⟩:=ClD.kv (B1:=wb.heap.size) (fun q hq=>by have:=lF.out.2 q hq;omega) HX.out HS.out oL.out;refine cE 4 (by kernel_rfl) rfl (fun K hK=>?_);rw[if_pos (by rfl)];go_simp;refine(zW (aH _) (d+1) _ tP yR wb (aM _ _)).mono ?_;rintro en wc ⟨⟨y2,rfl,hcl⟩,aR⟩;have iK:=aA (ClD.trans oL.out (fun q hq=>by have:=lF.out.2 q hq;omega) hcl);have bD:=aA (aP.out.next aR);have Kr:=aA (aZ JI.out aR (aH _));refine hK.out _ _ (hH.next aR) (fun hH=>?_);clear hK tP yR hcl aR;(try simp only[PU,aD])
  refine wpAnyH_done (by kernel_rfl) ?_ _;have Jg:=HJ.out L0 W wc Wu.out (Kept.of bD.out);obtain⟨Ac,cc,hcf⟩:=aI Kr.out;subst hcf;obtain⟨fn,tm,asg,bd,hy,hR⟩:=HY.out L0 wc (d+1) x y2 _ pl _ (by have:1<=o8 w B (d+1) x:=(by rw[o8];omega);omega) Jg VZ HX.out HS.out iK.out (fun q hq=>⟨by have:=hq.1;omega,hq.2⟩) ((Sl.of_own Kr.out).mono fun q hq=>hq.2);refine Sp rfl rfl rfl rfl (by kernel_rfl) (by kernel_rfl) (by kernel_rfl) ?_;refine⟨fun _ _=>trivial,?_⟩;go_simp;refine⟨rfl,hR.mono ?_⟩;clear hR hy;have HH3:=aA hH;have l6:=HH3.out.size;have aBe:=a9.out.lt;have Hh:=aO.out.size;clear hH;rintro e w2 (⟨rfl,ZJ,hk⟩|⟨rfl,Qp⟩)
  ·have HJ2:=aA ZJ;have fL:=aA hk
   have Tn:=aA ((HI.out.rd (D:=D) (Kept.of bD.out)).rd hk);have bI:Hid (Kept (Vk D) W w2):=aA ((Kept.of bD.out).trans (hk.mono fun q o hq=>by rcases hq with hq|hq|hq|hq;exact .inl hq;exact .inr (.inl hq);exact .inr (.inr (.inr (.inl hq)));exact .inr (.inr (.inr (.inr (.inr hq))))));have KB:=hk.blk (a9.out.next HH3.out) (.inr (.inr (.inr (.inr (.inr ⟨_,_,rfl⟩)))));obtain⟨aL,aJ,aK⟩:=KB.open_;clear ZJ hk Jg KB;obtain⟨i2,li,lz,ls,lb⟩:=info_parts pL;have HII:=aA li;have HZ:=aA lz;have lI:=aA ls;have jY:=aA lb;clear li lz ls lb;obtain⟨_,_,_,_,_,dE⟩:=HX.out;obtain⟨hn2,yR⟩:=HS.out;obtain⟨⟨rH,_,_,Ji,_⟩,ZA⟩:=HC.out;have uB:=aA dE;have Yv:=aA yR;have RN:=aA ZA;dsimp only at Ji;have hn3:n<=10000:=by omega
   clear dE yR ZA;go_wp2_with fail;clear aJ aL aK;have OL:=bI.out.size
   go_loopw [18] (fun v18 wr=>∃j:Nat,j<=n∧v18=.int .i64 j∧(∃L',L'.length<=L0.length+1+aY (fun q=>o8 w B d (bO w B x q)) j∧J L' wr∧(∀u,u∈x::L0->u∈L')∧∀i a,i<j->Kid w B x i a->AllD w B (fun _ u=>u∈L') d a)∧ItW wr n0 by_ bp bv l pl∧Kept (Vk D) W wr) (fun v _=>n-(intOf v).toNat)
   case atStart=>exact⟨0,fI _,rfl,⟨x::L0,by simp only[aY,List.length_cons];omega,HJ2.out,fun _ h=>h,fun i a hi=>absurd hi (Nat.not_lt_zero _)⟩,Tn.out,bI.out⟩
   case round=>
    obtain⟨j,hj,rfl,⟨ir,aAt,hjr,Rx,fQ⟩,hir,VW⟩:=hrel;have HJR:=aA hjr;have HIR:=aA hir;have gO:=aA fQ;have De:=aA Rx;have Cf:=aA VW;have wT:=VW.size;clear hjr hir fQ Rx VW;by_cases e9:j<n
    ·obtain⟨a,b,g,o,k1,k2,k3,k4,k5⟩:=RN.out j (by omega)
     replace k2:A=some ⟨g,o,none⟩:=k2;subst k2;have hgD:=lF.out.2 g k3;have JL:=aA k1;have hcR:∀b o,D b->wr.cell? ⟨b,o,none⟩=W.cell? ⟨b,o,none⟩:=fun b o hb=>nL (Cf.out.heap (by have:=lF.out.2 b hb;omega) fun _=>.inl hb)
     have NT:Kid wr wr.heap.size ⟨k,num,nm,some ⟨g,o,none⟩,n,cap⟩ j b:=⟨g,o,rfl,by omega,fun t v hv=>(hcR g _ k3).trans (k4 t v hv)⟩;obtain⟨g',o',gF,_,c0,c1,c2,c3⟩:=NT.cells (aM _ _);dsimp only at gF;injection gF with gF;injection gF with e1 e2;subst e1;subst e2;have HCD:=aA (k5.keep (D':=D) hcR fun _ h=>h);have j0:(0:Int)<=(j:Int):=by omega
     have j1:(j:Int)<(n:Int):=by omega
     clear k1 k3 k4 k5 hcR NT;go_upto_region 6 with fail;refine aB ?_;intro w3 dP;have aT:Below wr.heap.size wr w3:=by rw[dP];go_grown
     have K7:Blk w3 wr.heap.size 26 #[.int .u8 b.k,.int .i64 b.num,.string b.nm,.slice b.A b.n b.cap]:=by rw[dP];exact aQ
     have Bc:=aA aT;have E8:=aA K7;clear dP c0 c1 c2 c3 aT K7;have Wr:=aA (HIR.out.rd (D:=D) (Kept.of Bc.out));obtain⟨pw,hpw,how⟩:=Wr.out.p;have lY:=aA how;have HPW:=aA hpw;obtain⟨G3,F8,E4⟩:=hpw.open_;have ZN:=Bc.out.size;clear hpw how;go_wp2_with (at_builtin;refine dF rfl (.tmp 23) (.tmp 25) 30 rfl n0 3 i2 _ 1 8 Tryz.underlying30 HII.out HZ.out lI.out jY.out rfl (by decide) pw pl.length (aC pl) rfl (lY.out.alloc _) rfl (oB (Blk.new _ _ _)) (by intro u hu;simp at hu;subst hu;rfl) (by unfold maxLen;omega) (by omega) (by simp;omega) ?_);intro v2 wA bB eH _;obtain⟨A2,c2,rfl⟩:=aI bB;have GJ:Kept (itQ n0) w3 wA:=(Kept.of ((aM _ _).alloc (aH _) _)).trans (Kept.grown eH fun q hq o' ho' hp=>by
      obtain⟨q1,q2⟩:=WR (lY.out.alloc _) hq ho';rcases hp with hp|hp
      ·omega
      ·exact hp q2)
     have YF:=aA (GJ.blk HPW.out (.inr (wM (by decide))));have HYA:=aA (GJ.blk Wr.out.y (.inr (wM (by decide))));have Dg:=aA (GJ.blk Wr.out.v (.inr (wM (by decide))));have RY:=aA GJ;have HOA:=aA bB;have Xf:=aA (GJ.blk E8.out (.inr (wM (by decide))));have hsA:=GJ.size;clear GJ bB eH G3 F8 E4;obtain⟨G3,F8,E4⟩:=YF.out.open_;go_upto_region 7 with fail;refine aB ?_;intro w4 qI;obtain⟨G0,N9⟩:=ItW.put (n0:=n0) (pl':=pl++ [(j:Int)]) (v:=.slice A2 (pl.length+1) c2) HYA.out Dg.out YF.out hn lF.out.1 (by rw[List.length_append,l7];exact HOA.out);rw[<-qI]at G0 N9;have RU:=aA G0;have eG:Hid (Kept (Hm n0) wr w4):=aA ((Kept.of Bc.out).trans ((RY.out.mono fun q o hq=>hq.elim .inl fun h=>.inr fun h2=>h (.inl h2)).trans N9));have Xd:=aA (N9.blk Xf.out (.inr fun h=>h.elim (wM (by decide)) (wM (by decide))));have ZO:=N9.size;clear qI G0 N9 G3 F8 E4;have Ws:=aA (HJ.out ir wr w4 HJR.out eG.out);have Lz:=aA (Kept.vi lF.out.2 eG.out);have Wb:=aA (HCD.out.keep (D':=D) (fun b o hb=>nL (Lz.out.heap (by have:=lF.out.2 b hb;omega) fun _=>.inl hb)) fun _ h=>h);obtain⟨Vl,Uh,Th⟩:=Xd.out.open_;obtain⟨Ju,Iw,Ii⟩:=RU.out.v.open_;go_wp2_with fail;obtain⟨a',k1',Qq⟩:=uB.out j (by omega);obtain rfl:=Kid.one JL.out k1'
     have hcs:ir.length+o8 w B d a<=L0.length+1+aY (fun q=>o8 w B d (bO w B x q)) (j+1):=by simp only[aY];rw[gH JL.out];omega
     have GI:L0.length+1+aY (fun q=>o8 w B d (bO w B x q)) (j+1)<=N:=by
      have h1:=iC (s:=fun q=>o8 w B d (bO w B x q)) (show j+1<=x.n by omega);have h2:o8 w B (d+1) x=1+aY (fun q=>o8 w B d (bO w B x q)) x.n:=rfl;omega
     refine(JK.out _ b (pl++ [(j:Int)]) w4 ir (hU d x j _ VZ (by omega) JL.out) Qq (Yv.out j _ (by omega) JL.out) Wb.out (by omega) Ws.out (by omega) RU.out (by rw[List.length_append];show pl.length+1+d<=5000;omega)).mono ?_;clear Qq k1' Vl Uh Th Ju Iw Ii;rintro e w5 (⟨rfl,⟨i5,aA5,hj5,ZP,ha5⟩,Jf,hk5⟩|⟨rfl,Qp⟩)
     ·have Wt:=aA hj5;have HA5:=aA ha5;have YL:=aA ZP;have HI5:=aA Jf;have lX:=aA hk5
      obtain⟨p5,hp5,Va⟩:=Jf.p;rw[List.length_append,l7]at Va;obtain⟨A5,c5,rfl⟩:=aI Va;obtain⟨ho6,hc5⟩:=nY Va;have oN:=aA hp5;have HO6:=aA ho6;obtain⟨G3,F8,E4⟩:=hp5.open_;have hs5:=hk5.size;clear hj5 ha5 ZP Jf hk5 hp5 Va ho6;go_upto_region 10 with fail;refine aB ?_;intro w6 hw6;obtain⟨hi6,Jh⟩:=ItW.put (n0:=n0) (pl':=pl) (v:=.slice A5 pl.length c5) HI5.out.y HI5.out.v oN.out hn lF.out.1 HO6.out;rw[show w5.setCell ⟨bp,0,none⟩ (.slice A5 pl.length c5)=w6 from hw6.symm]at hi6 Jh;have HI6:=aA hi6;have oF:=aA Jh;clear hw6 hi6 Jh G3 F8 E4;go_wp2_with fail;have Sd:=Kept.vi lF.out.2 oF.out;refine⟨⟨j+1,by omega,by go_num,⟨i5,by omega,HJ.out i5 w5 w6 Wt.out oF.out,fun u hu=>YL.out u (De.out u hu),fun i a'' hi hk=>?_⟩,HI6.out,Cf.out.trans (Lz.out.trans (lX.out.trans Sd))⟩,by simp[intOf];omega⟩;rcases Nat.lt_or_ge i j with h|h
      ·exact AllD.mono (fun _ u hu=>YL.out u hu) (gO.out i a'' h hk)
      ·obtain rfl:i=j:=by omega
       obtain rfl:=Kid.one JL.out hk;exact HA5.out
     ·go_wp2_with fail
      go_ret;exact .inr ⟨rfl,Qp⟩
    ·obtain rfl:j=n:=by omega
     go_wp2_with fail;go_ret;exact .inl ⟨rfl,⟨ir,by rw[o8];simp only[Ji]at aAt⊢;omega,HJR.out,fun u hu=>De.out u (List.mem_cons_of_mem _ hu),De.out x (List.mem_cons_self ..),fun i a hi hk=>gO.out i a (by omega) hk⟩,HIR.out,Cf.out⟩
  ·go_simp
   go_wp2_with fail;go_ret;exact .inr ⟨rfl,Qp⟩
end Go.Proofs.YtakfdnnlhjhcfaaGreatDoor
