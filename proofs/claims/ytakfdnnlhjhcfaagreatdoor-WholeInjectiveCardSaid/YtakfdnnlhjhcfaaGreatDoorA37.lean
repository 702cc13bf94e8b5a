/- Part of the proof. -/
import Derived.Test.YtakfdnnlhjhcfaaGreatDoorA36
set_option linter.unusedVariables false
set_option linter.unusedSimpArgs false
set_option maxRecDepth 100000
set_option maxHeartbeats 4000000
namespace Go.Proofs.YtakfdnnlhjhcfaaGreatDoor
open Go.RowKit Bk
def TA(w:World)(B:Nat)(x:Nd):Prop:=(∃e,EV w B aS e x)∨(∃l s,StAt w B l s x)∨∃l s,SqAt w B l s x
theorem GT{w:World}{B:Nat}{p:Ex}{y:Nd}(h:EV w B aS p y)(hk:y.k=3):1<=y.n:=by
 cases p with
 |item s a=>have:=h.2.2.2.2.1;omega
 |num v=>have:=h.1;omega
 |var s=>have:=h.1;omega
 |top s=>have:=h.1;omega
 |size s=>have:=h.1;omega
 |un op a=>have h1:=h.1;have h2:=h.2.1;omega
 |bin op a b=>have h1:=h.1;have h2:=h.2.1;omega
theorem Fl{w:World}{B:Nat}{p:Ex}{y:Nd}(h:EV w B aS p y):y.k<40:=by
 cases p with
 |un op a=>have h1:=h.1;have h2:=h.2.1;omega
 |bin op a b=>have h1:=h.1;have h2:=h.2.1;omega
 |_=>have:=h.1;omega
theorem MQ{w:World}{B:Nat}(bG:B<=w.heap.size)(d:Nat)(hd:d<=5000)(x:Nd)(hx:KV w B (d+1) x)(hs:Sm w B (d+1) x)(hv:TA w B x)(w':World)(hb:Below B w w'):
  Calls Tryz.prog 111 #[.agg #[.int .u8 x.k,.int .i64 x.num,.string x.nm,.slice x.A x.n x.cap]] w' fun en w''=>(∃nm err,en=.returned (.tuple #[.string nm,.int .i64 err])∧(err=0->RJ w B x))∧Below w'.heap.size w' w'':=by
 rcases hv with⟨e,he⟩|⟨l,s,h⟩|⟨l,s,h⟩
 ·exact D1 bG d x hx hs w' hb (.inl (Fl he))
 ·cases l with
  |zero=>exact h.elim
  |succ l=>
   cases s with
   |nil=>exact h.elim
   |upd op p e r=>
    obtain⟨h1,h2,h3,h4,h5,y,z,h6,h7,h8,h9⟩:=h;by_cases Fu:x.k=56
    ·exact WW bG d x hx hs w' hb Fu (by omega)
    ·exact XB bG d hd x hx hs w' hb (by omega) h4 (fun y' hk=>by obtain rfl:=Kid.one h6 hk;exact GT h8)
   |swp p q r=>
    obtain⟨h1,h2,h3,h4,h5,y,z,h6,h7,h8,h9⟩:=h;exact WY bG d hd x hx hs w' hb h1 h3 (fun i y' hi hk=>by
     obtain rfl|rfl:i=0∨i=1:=by omega
     ·obtain rfl:=Kid.one h6 hk;exact GT h8
     ·obtain rfl:=Kid.one h7 hk;exact GT h9)
   |stk op s p r=>
    obtain⟨h1,h2,h3,h4,h5,h6,h7,y,h8,h9⟩:=h;exact WX bG d hd x hx hs w' hb (by omega) h6 (fun y' hk=>by obtain rfl:=Kid.one h8 hk;exact GT h9)
   |tap op p r=>
    obtain⟨h1,h2,h3,h4,h5,y,h8,h9⟩:=h;exact WZ bG d hd x hx hs w' hb (by omega) h4 (fun y' hk=>by obtain rfl:=Kid.one h8 hk;exact GT h9)
   |cal op s args r=>exact WT bG d x hx hs w' hb (by have h1:=h.1;have h2:=h.2.1;omega)
   |ifs e a b e' r=>exact WV bG d x hx hs w' hb h.1 h.2.1
   |frm e a b e' r=>exact WU bG d x hx hs w' hb h.1 h.2.1
   |loc v e b e' r=>exact D1 bG d x hx hs w' hb (.inr (.inl h.1))
   |lst v b r=>exact D1 bG d x hx hs w' hb (.inr (.inr (.inl h.1)))
 ·exact D1 bG d x hx hs w' hb (.inr (.inr (.inr h.1)))
section
variable{w w1:World}{B B1:Nat}{D:Nat->Prop}(hD:∀k,D k->k<B1)
include hD
theorem dA{d:Nat}{x y a:Nd}(h:ClD w B w1 D (d+1) x y){i:Nat}(hi:i<x.n)(ha:Kid w B x i a):∃b,Kid w1 B1 y i b∧ClD w B w1 D d a b:=by
 obtain⟨a',b,g,o,k1,k2,k3,k4,k5⟩:=h.2 i hi;obtain rfl:=Kid.one k1 ha;exact⟨b,⟨g,o,k2,hD g k3,k4⟩,k5⟩
theorem gM:∀(e:Ex)(d:Nat)(x y:Nd),EV w B aS e x->ClD w B w1 D d x y->EV w1 B1 aS e y
 |_,0,_,_,_,h=>h.elim
 |.num v,d+1,x,y,⟨h1,h2,h3,h4,h5⟩,⟨⟨e1,e2,e3,e4,_⟩,_⟩=>⟨by omega,by omega,h3,by rw[e3];exact h4,by omega⟩
 |.var s,d+1,x,y,⟨h1,h2,h3,h4,h5⟩,⟨⟨e1,e2,e3,e4,_⟩,_⟩=>⟨by omega,by omega,by rw[e3];exact h3,h4,by omega⟩
 |.top s,d+1,x,y,⟨h1,h2,h3,h4,h5⟩,⟨⟨e1,e2,e3,e4,_⟩,_⟩=>⟨by omega,by omega,by rw[e3];exact h3,h4,by omega⟩
 |.size s,d+1,x,y,⟨h1,h2,h3,h4,h5⟩,⟨⟨e1,e2,e3,e4,_⟩,_⟩=>⟨by omega,by omega,by rw[e3];exact h3,h4,by omega⟩
 |.item s a,d+1,x,y,⟨h1,h2,h3,h4,h5,z,h6,h7⟩,h=>by
  obtain⟨b,k1,k2⟩:=dA hD h (by omega) h6;obtain⟨⟨e1,e2,e3,e4,_⟩,_⟩:=h;exact⟨by omega,by omega,by rw[e3];exact h3,h4,by omega,b,k1,gM a d z b h7 k2⟩
 |.un op a,d+1,x,y,⟨h1,h2,h3,h4,h5,z,h6,h7⟩,h=>by
  obtain⟨b,k1,k2⟩:=dA hD h (by omega) h6;obtain⟨⟨e1,e2,e3,e4,_⟩,_⟩:=h;exact⟨by omega,h2,by omega,by rw[e3];exact h4,by omega,b,k1,gM a d z b h7 k2⟩
 |.bin op a c,d+1,x,y,⟨h1,h2,h3,h4,h5,z,z2,h6,h6',h7,h8⟩,h=>by
  obtain⟨b,k1,k2⟩:=dA hD h (by omega) h6;obtain⟨b2,k3,k4⟩:=dA hD h (by omega) h6';obtain⟨⟨e1,e2,e3,e4,_⟩,_⟩:=h;exact⟨by omega,h2,by omega,by rw[e3];exact h4,by omega,b,b2,k1,k3,gM a d z b h7 k2,gM c d z2 b2 h8 k4⟩
theorem PL:∀(l:Nat)(s:Sq)(d:Nat)(x y:Nd),StAt w B l s x->ClD w B w1 D d x y->StAt w1 B1 l s y
 |0,_,_,_,_,h,_=>h.elim
 |l+1,s,0,_,_,_,h=>h.elim
 |l+1,s,d+1,x,y,h,hc=>by
  have sq:∀(s:Sq)(d:Nat)(x y:Nd),SqAt w B l s x->ClD w B w1 D d x y->SqAt w1 B1 l s y:=fun s d x y h hc=>by
   cases d with
   |zero=>exact hc.elim
   |succ d=>
    obtain⟨e1,_,_,e4,_⟩:=hc.1;refine⟨by rw[e1];exact h.1,by rw[e4];exact h.2.1,fun i hi=>?_⟩;obtain⟨z,k1,k2⟩:=h.2.2 i hi;obtain⟨b,q1,q2⟩:=dA hD hc (by have:=h.2.1;omega) k1;exact⟨b,q1,PL l _ d z b k2 q2⟩
  obtain⟨e1,e2,e3,e4,_⟩:=hc.1;have pb:∀b,d7 x=b->d7 y=b:=fun b hb=>by unfold d7 at hb⊢;rw[e2,e3];exact hb
  cases s with
  |nil=>exact h.elim
  |upd op p e r=>
   obtain⟨h1,h2,h3,h4,h5,a,c,h6,h7,h8,h9⟩:=h;obtain⟨b,q1,q2⟩:=dA hD hc (by omega) h6;obtain⟨b2,q3,q4⟩:=dA hD hc (by omega) h7;exact⟨by omega,h2,pb _ h3,by omega,h5,b,b2,q1,q3,gM hD _ _ _ _ h8 q2,gM hD _ _ _ _ h9 q4⟩
  |swp p q r=>
   obtain⟨h1,h3,h4,h5,h5',a,c,h6,h7,h8,h9⟩:=h;obtain⟨b,q1,q2⟩:=dA hD hc (by omega) h6;obtain⟨b2,q3,q4⟩:=dA hD hc (by omega) h7;exact⟨by omega,pb _ h3,by omega,h5,h5',b,b2,q1,q3,gM hD _ _ _ _ h8 q2,gM hD _ _ _ _ h9 q4⟩
  |stk op s p r=>
   obtain⟨h1,h2,h3,h4,h5,h6,h7,a,h8,h9⟩:=h;obtain⟨b,q1,q2⟩:=dA hD hc (by omega) h8;exact⟨by omega,h2,by omega,by rw[e3];exact h4,h5,by omega,h7,b,q1,gM hD _ _ _ _ h9 q2⟩
  |tap op p r=>
   obtain⟨h1,h2,h3,h4,h7,a,h8,h9⟩:=h;obtain⟨b,q1,q2⟩:=dA hD hc (by omega) h8;exact⟨by omega,h2,pb _ h3,by omega,h7,b,q1,gM hD _ _ _ _ h9 q2⟩
  |cal op s args r=>
   obtain⟨h1,h2,h3,h4,h5,h6,h7⟩:=h;refine⟨by omega,h2,by rw[e3];exact h3,h4,by omega,by omega,fun i a ha=>?_⟩;obtain⟨z,k1,k2⟩:=h7 i a ha;obtain⟨b,q1,q2⟩:=dA hD hc (by have:=(lgS.1 ha).1;omega) k1;exact⟨b,q1,gM hD _ _ _ _ k2 q2⟩
  |ifs e a b e' r=>
   obtain⟨h1,h2,y0,y1,y2,y3,k0,k1,k2,k3,v0,v1,v2,v3⟩:=h;obtain⟨b0,q0,r0⟩:=dA hD hc (by omega) k0;obtain⟨b1,q1,r1⟩:=dA hD hc (by omega) k1;obtain⟨b2,q2,r2⟩:=dA hD hc (by omega) k2;obtain⟨b3,q3,r3⟩:=dA hD hc (by omega) k3;exact⟨by omega,by omega,b0,b1,b2,b3,q0,q1,q2,q3,gM hD _ _ _ _ v0 r0,sq _ _ _ _ v1 r1,sq _ _ _ _ v2 r2,gM hD _ _ _ _ v3 r3⟩
  |frm e a b e' r=>
   obtain⟨h1,h2,y0,y1,y2,y3,k0,k1,k2,k3,v0,v1,v2,v3⟩:=h;obtain⟨b0,q0,r0⟩:=dA hD hc (by omega) k0;obtain⟨b1,q1,r1⟩:=dA hD hc (by omega) k1;obtain⟨b2,q2,r2⟩:=dA hD hc (by omega) k2;obtain⟨b3,q3,r3⟩:=dA hD hc (by omega) k3;exact⟨by omega,by omega,b0,b1,b2,b3,q0,q1,q2,q3,gM hD _ _ _ _ v0 r0,sq _ _ _ _ v1 r1,sq _ _ _ _ v2 r2,gM hD _ _ _ _ v3 r3⟩
  |loc v e b e' r=>
   obtain⟨h1,yI,h2,y0,y1,y2,k0,k1,k2,v0,v1,v2⟩:=h;obtain⟨b0,q0,r0⟩:=dA hD hc (by omega) k0;obtain⟨b1,q1,r1⟩:=dA hD hc (by omega) k1;obtain⟨b2,q2,r2⟩:=dA hD hc (by omega) k2;exact⟨by omega,by rw[e3];exact yI,by omega,b0,b1,b2,q0,q1,q2,gM hD _ _ _ _ v0 r0,sq _ _ _ _ v1 r1,gM hD _ _ _ _ v2 r2⟩
  |lst v b r=>
   obtain⟨h1,yI,h2,y0,k0,v0⟩:=h;obtain⟨b0,q0,r0⟩:=dA hD hc (by omega) k0;exact⟨by omega,by rw[e3];exact yI,by omega,b0,q0,sq _ _ _ _ v0 r0⟩
theorem Sx{l d:Nat}{s:Sq}{x y:Nd}(h:SqAt w B l s x)(hc:ClD w B w1 D d x y):SqAt w1 B1 l s y:=by
 cases d with
 |zero=>exact hc.elim
 |succ d=>
  obtain⟨e1,_,_,e4,_⟩:=hc.1;refine⟨by rw[e1];exact h.1,by rw[e4];exact h.2.1,fun i hi=>?_⟩;obtain⟨z,k1,k2⟩:=h.2.2 i hi;obtain⟨b,q1,q2⟩:=dA hD hc (by have:=h.2.1;omega) k1;exact⟨b,q1,PL hD l _ d z b k2 q2⟩
theorem Hz{d:Nat}{x y:Nd}(h:TA w B x)(hc:ClD w B w1 D d x y):TA w1 B1 y:=by
 rcases h with⟨e,h⟩|⟨l,s,h⟩|⟨l,s,h⟩
 ·exact .inl ⟨e,gM hD e d x y h hc⟩
 ·exact .inr (.inl ⟨l,s,PL hD l s d x y h hc⟩)
 ·exact .inr (.inr ⟨l,s,Sx hD h hc⟩)
theorem uL{nm:ByteArray}:∀(d d':Nat)(a b:Nd),KV w B d a->ClD w B w1 D d a b->KV w1 B1 d' b->AllD w1 B1 (xL nm) d' b->AllD w B (xL nm) d a
 |0,_,_,_,h,_,_,_=>h.elim
 |_+1,0,_,_,_,_,h,_=>h.elim
 |d+1,d'+1,a,b,hk,hc,⟨_,_,_,_,_,tB⟩,⟨h1,h2⟩=>by
  obtain⟨⟨e1,_,e3,e4,_⟩,_⟩:=hc;refine⟨fun h=>by have:=h1 (by rw[e1];exact h);rw[e3]at this;exact this,fun i y hi hy=>?_⟩;obtain⟨_,_,_,_,_,DJ⟩:=hk;obtain⟨y',q1,q2⟩:=DJ i hi;obtain rfl:=Kid.one hy q1;obtain⟨z,q3,q4⟩:=dA hD ⟨⟨e1,by assumption,e3,e4,by assumption⟩,by assumption⟩ hi hy;obtain⟨z',q5,q6⟩:=tB i (by omega);obtain rfl:=Kid.one q3 q5;exact uL d d' y z q2 q4 q6 (h2 i z (by omega) q3)
theorem jV{nm:ByteArray}{d:Nat}{a b:Nd}(hk:KV w B d a)(hc:ClD w B w1 D d a b)(h1:a.k=3->1<=a.n)(h:lT w1 B1 nm b):lT w B nm a:=fun h3 z hz=>by
 cases d with
 |zero=>exact hk.elim
 |succ d=>
  obtain⟨q,q1,q2⟩:=dA hD hc (h1 h3) hz;obtain⟨z',r1,r2⟩:=hk.2.2.2.2.2 0 (h1 h3);obtain rfl:=Kid.one hz r1;obtain⟨d',s1,s2⟩:=h (by rw[hc.1.1];exact h3) q q1;exact⟨d,r2,uL hD d d' z q r2 q2 s1 s2⟩
end
set_option maxHeartbeats 8000000
attribute [local go_sem] Oper.semAt_some
theorem P4:(Tryz.prog.info? 168).map (fun i=>(i.zero,i.size,i.bytes))=some (some (.agg #[.int .i64 0,.slice none 0 0,.int .i64 0,.string ⟨#[]⟩]),4,56):=by kernel_rfl
theorem EB{w:World}{B:Nat}{x:Nd}(h:TA w B x){i:Nat}{y:Nd}(hi:i<x.n)(hk:Kid w B x i y):TA w B y:=by
 rcases h with⟨e,h⟩|⟨l,s,h⟩|⟨l,s,h⟩
 ·exact .inl (MZ h hi hk)
 ·cases l with
  |zero=>exact h.elim
  |succ l=>
   cases s with
   |nil=>exact h.elim
   |upd op p e r=>
    obtain⟨_,_,_,hn,_,y0,y1,k0,k1,v0,v1⟩:=h;obtain rfl|rfl:i=0∨i=1:=by omega
    ·obtain rfl:=Kid.one k0 hk;exact .inl ⟨_,v0⟩
    ·obtain rfl:=Kid.one k1 hk;exact .inl ⟨_,v1⟩
   |swp p q r=>
    obtain⟨_,_,hn,_,_,y0,y1,k0,k1,v0,v1⟩:=h;obtain rfl|rfl:i=0∨i=1:=by omega
    ·obtain rfl:=Kid.one k0 hk;exact .inl ⟨_,v0⟩
    ·obtain rfl:=Kid.one k1 hk;exact .inl ⟨_,v1⟩
   |stk op s p r=>
    obtain⟨_,_,_,_,_,hn,_,y0,k0,v0⟩:=h;obtain rfl:i=0:=by omega
    obtain rfl:=Kid.one k0 hk;exact .inl ⟨_,v0⟩
   |tap op p r=>
    obtain⟨_,_,_,hn,_,y0,k0,v0⟩:=h;obtain rfl:i=0:=by omega
    obtain rfl:=Kid.one k0 hk;exact .inl ⟨_,v0⟩
   |cal op s args r=>
    obtain⟨_,_,_,_,hn,_,ha⟩:=h;obtain⟨z,k1,k2⟩:=ha i _ (dR (by omega));obtain rfl:=Kid.one k1 hk;exact .inl ⟨_,k2⟩
   |ifs e a b e' r=>
    obtain⟨_,hn,y0,y1,y2,y3,k0,k1,k2,k3,v0,v1,v2,v3⟩:=h;obtain rfl|rfl|rfl|rfl:i=0∨i=1∨i=2∨i=3:=by omega
    ·obtain rfl:=Kid.one k0 hk;exact .inl ⟨_,v0⟩
    ·obtain rfl:=Kid.one k1 hk;exact .inr (.inr ⟨_,_,v1⟩)
    ·obtain rfl:=Kid.one k2 hk;exact .inr (.inr ⟨_,_,v2⟩)
    ·obtain rfl:=Kid.one k3 hk;exact .inl ⟨_,v3⟩
   |frm e a b e' r=>
    obtain⟨_,hn,y0,y1,y2,y3,k0,k1,k2,k3,v0,v1,v2,v3⟩:=h;obtain rfl|rfl|rfl|rfl:i=0∨i=1∨i=2∨i=3:=by omega
    ·obtain rfl:=Kid.one k0 hk;exact .inl ⟨_,v0⟩
    ·obtain rfl:=Kid.one k1 hk;exact .inr (.inr ⟨_,_,v1⟩)
    ·obtain rfl:=Kid.one k2 hk;exact .inr (.inr ⟨_,_,v2⟩)
    ·obtain rfl:=Kid.one k3 hk;exact .inl ⟨_,v3⟩
   |loc v e b e' r=>
    obtain⟨_,_,hn,y0,y1,y2,k0,k1,k2,v0,v1,v2⟩:=h;obtain rfl|rfl|rfl:i=0∨i=1∨i=2:=by omega
    ·obtain rfl:=Kid.one k0 hk;exact .inl ⟨_,v0⟩
    ·obtain rfl:=Kid.one k1 hk;exact .inr (.inr ⟨_,_,v1⟩)
    ·obtain rfl:=Kid.one k2 hk;exact .inl ⟨_,v2⟩
   |lst v b r=>
    obtain⟨_,_,hn,y0,k0,v0⟩:=h;obtain rfl:i=0:=by omega
    obtain rfl:=Kid.one k0 hk;exact .inr (.inr ⟨_,_,v0⟩)
 ·obtain⟨z,k1,k2⟩:=h.2.2 i (by have:=h.2.1;omega)
  obtain rfl:=Kid.one k1 hk;exact .inr (.inl ⟨_,_,k2⟩)
theorem Ia{w:World}{B:Nat}{x:Nd}(h:TA w B x):(x.k=40∨x.k=41∨x.k=42∨x.k=43->x.n=2)∧(x.k=44∨x.k=45∨x.k=46∨x.k=47∨x.k=48∨x.k=49->x.n=1)∧∀i y,i<x.n->Kid w B x i y->y.k=3->1<=y.n:=by
 refine⟨fun hk=>?_,fun hk=>?_,fun i y hi hy h3=>?_⟩
 ·rcases h with⟨e,h⟩|⟨l,s,h⟩|⟨l,s,h⟩
  ·have:=Fl h;omega
  ·cases l with
   |zero=>exact h.elim
   |succ l=>
    cases s with
    |upd op p e r=>exact h.2.2.2.1
    |swp p q r=>exact h.2.2.1
    |nil=>exact h.elim
    |stk op s p r=>have h1:=h.1;have h2:=h.2.1;omega
    |tap op p r=>have h1:=h.1;have h2:=h.2.1;omega
    |cal op s args r=>have h1:=h.1;have h2:=h.2.1;omega
    |_=>have h1:=h.1;omega
  ·have:=h.1;omega
 ·rcases h with⟨e,h⟩|⟨l,s,h⟩|⟨l,s,h⟩
  ·have:=Fl h;omega
  ·cases l with
   |zero=>exact h.elim
   |succ l=>
    cases s with
    |upd op p e r=>have h1:=h.1;have h2:=h.2.1;omega
    |nil=>exact h.elim
    |stk op s p r=>exact h.2.2.2.2.2.1
    |tap op p r=>exact h.2.2.2.1
    |cal op s args r=>have h1:=h.1;have h2:=h.2.1;omega
    |_=>have h1:=h.1;omega
  ·have:=h.1;omega
 ·rcases EB h hi hy with⟨e,h⟩|⟨l,s,h⟩|⟨l,s,h⟩
  ·exact GT h h3
  ·cases l with
   |zero=>exact h.elim
   |succ l=>
    cases s with
    |nil=>exact h.elim
    |upd op p e r=>have h1:=h.1;have h2:=h.2.1;omega
    |stk op s p r=>have h1:=h.1;have h2:=h.2.1;omega
    |tap op p r=>have h1:=h.1;have h2:=h.2.1;omega
    |cal op s args r=>have h1:=h.1;have h2:=h.2.1;omega
    |_=>have h1:=h.1;omega
  ·have:=h.1;omega
theorem WF{w w1:World}{B B1:Nat}{D:Nat->Prop}(hD:∀k,D k->k<B1){nm:ByteArray}{d:Nat}{a b:Nd}(hk:KV w B d a)(hc:ClD w B w1 D d a b)(h:WO w1 B1 nm b):WO w B nm a:=by
 obtain⟨d',h1,h2⟩:=h;exact⟨d,hk,uL hD d d' a b hk hc h1 h2⟩
theorem XD{w w1:World}{B B1:Nat}{D:Nat->Prop}(hD:∀k,D k->k<B1){d:Nat}{x y:Nd}(hx:KV w B d x)(hv:TA w B x)(hc:ClD w B w1 D d x y)(h:RJ w1 B1 y):RJ w B x:=by
 cases d with
 |zero=>exact hx.elim
 |succ d=>
  obtain⟨⟨e1,e2,e3,e4,_⟩,_⟩:=id hc;obtain⟨n2,n1,pl⟩:=Ia hv;have hk:=hx.2.2.2.2.2;have kid:∀i a,i<x.n->Kid w B x i a->∃b,Kid w1 B1 y i b∧ClD w B w1 D d a b∧KV w B d a∧b.nm=a.nm:=fun i a hi ha=>by
   obtain⟨b,q1,q2⟩:=dA hD hc hi ha;obtain⟨a',q3,q4⟩:=hk i hi;obtain rfl:=Kid.one ha q3;refine⟨b,q1,q2,q4,?_⟩;cases d with
   |zero=>exact q2.elim
   |succ d=>exact q2.1.2.2.1
  obtain⟨h1,h2,h3,h4,h5,h6⟩:=h;rw[e1]at h1 h2 h3 h4 h5 h6;refine⟨h1,fun hx a c ha hb=>?_,fun hx a c ha hb=>?_,fun hx a ha=>?_,fun hx a ha=>?_,fun hx i j a c yM hj ha hb=>?_⟩
  ·have hn:=n2 (by omega)
   obtain⟨b,q1,q2,q3,q4⟩:=kid 0 a (by omega) ha;obtain⟨b2,r1,r2,r3,r4⟩:=kid 1 c (by omega) hb;obtain⟨s1,s2⟩:=h2 hx b b2 q1 r1;rw[q4]at s1 s2;exact⟨jV hD q3 q2 (pl 0 a (by omega) ha) s1,WF hD r3 r2 s2⟩
  ·have hn:=n2 (by omega)
   obtain⟨b,q1,q2,q3,q4⟩:=kid 0 a (by omega) ha;obtain⟨b2,r1,r2,r3,r4⟩:=kid 1 c (by omega) hb;obtain⟨s1,s2,s3,s4⟩:=h3 hx b b2 q1 r1;rw[q4]at s1 s3;rw[r4]at s2 s4;exact⟨jV hD q3 q2 (pl 0 a (by omega) ha) s1,jV hD q3 q2 (pl 0 a (by omega) ha) s2,jV hD r3 r2 (pl 1 c (by omega) hb) s3,jV hD r3 r2 (pl 1 c (by omega) hb) s4⟩
  ·have hn:=n1 (by omega)
   obtain⟨b,q1,q2,q3,q4⟩:=kid 0 a (by omega) ha;obtain⟨s1,s2⟩:=h4 hx b q1;rw[q4]at s1;rw[e3]at s2;exact⟨jV hD q3 q2 (pl 0 a (by omega) ha) s1,jV hD q3 q2 (pl 0 a (by omega) ha) s2⟩
  ·have hn:=n1 (by omega)
   obtain⟨b,q1,q2,q3,q4⟩:=kid 0 a (by omega) ha;have s1:=h5 hx b q1;rw[q4]at s1;exact jV hD q3 q2 (pl 0 a (by omega) ha) s1
  ·obtain⟨b,q1,q2,q3,q4⟩:=kid i a (by omega) ha
   obtain⟨b2,r1,r2,r3,r4⟩:=kid j c hj hb;have:=h6 hx i j b b2 yM (by omega) q1 r1;rw[q4,r4]at this;exact this
attribute [local go_sem] Oper.semAt_some
structure ChI(w:World)(B:Nat)(w':World)(nb:Nat)(proc:Int)(L:List Nd)(W:World):Prop where
 bel:Below w'.heap.size w' W
 p:Blk W w'.heap.size 3 #[.int .i64 proc]
 l:∃v n xs,Blk W (w'.heap.size+2) 94 #[v]∧W.ownsRow nb 168 4 v n xs∧(n<=L.length∧n<=10000)∧(∀u,u∈xs->u.oneCell'=true)∧(n=0->∀u,u∈L->RJ w B u)
theorem UG{w:World}{B:Nat}(bG:B<=w.heap.size)(d:Nat)(hd:d<=5000)(x:Nd)(hx:KV w B d x)(hs:Sm w B d x)(hv:TA w B x)(Uo:o8 w B d x<=10000)(proc:Int)(w':World)(hb:Below B w w'):
  Calls Tryz.prog 70 #[.int .i64 proc,.agg #[.int .u8 x.k,.int .i64 x.num,.string x.nm,.slice x.A x.n x.cap]] w' fun en w''=>(∃v n xs,en=.returned v∧w''.ownsRow w'.heap.size 168 4 v n xs∧n<=10000∧(∀u,u∈xs->u.oneCell'=true)∧(n=0->AllD w B (fun _ u=>RJ w B u) d x))∧Below w'.heap.size w' w'':=by
 have HW:=aA (fun W hW=>LW bG d x hx hs W hW);have HB:=aA hb;have HX:=aA hx;have HS:=aA hs;have FA:=aA hv;obtain⟨i4,li,lz,ls,lb⟩:=info_parts P4;have HI:=aA li;have HZ:=aA lz;have lI:=aA ls;have jY:=aA lb;obtain⟨k,num,nmx,A,n,cap⟩:=x;clear hx hs hb hv li lz ls lb;dsimp only at *;refine sR Tryz.func70 rfl ?_;simp only[Tryz.ntmps70,List.size_toArray,List.length_cons,List.length_nil,Nat.reduceAdd,Nat.reduceSub,Array.replicate_succ,Array.replicate_zero,List.push_toArray,List.append_toArray,List.nil_append,List.cons_append];go_upto_region 2 with fail;refine aB ?_;intro w1 aF;have aG:Below w'.heap.size w' w1:=by rw[aF];go_grown
 have K2:Blk w1 w'.heap.size 3 #[.int .i64 proc]:=by rw[aF];exact aQ
 have K3:Blk w1 (w'.heap.size+1) 26 #[.int .u8 k,.int .i64 num,.string nmx,.slice A n cap]:=by rw[aF];exact aQ
 have K5:Blk w1 (w'.heap.size+2) 94 #[.slice none 0 0]:=by rw[aF];exact aQ
 have aO:=aA aG;have bI:=aA K2;have lX:=aA K5;have hs5:=K5.lt;clear aF aG K2 K5;obtain⟨aL,aJ,aK⟩:=K3.open_;clear K3;go_wp2_with fail;refine(HW.out _ (HB.out.trans (aO.out.mono (by have:=HB.out.size;omega)))).mono ?_;rintro en w2 ⟨⟨y,b,rfl,mQ,hcl⟩,hb2⟩;have aP:=aA (aO.out.next hb2);have G8:=aA (bI.out.next hb2);have Xb:=aA (lX.out.next hb2);have hs2:=hb2.size;clear aL aJ aK hb2;go_wp2_with fail;refine qZ (w:=w) (B:=B) (D:=fun q=>w1.heap.size<=q∧q<w2.heap.size) (x:=⟨k,num,nmx,A,n,cap⟩) (y:=y) (b:=b) rfl HX.out HS.out hcl mQ (fun q hq=>hq.2) hd (fun q=>q=w'.heap.size+2) (fun q hq e=>by have:=hq.1;omega) (fun t=>t=94∨t=168) ⟨by decide,by decide,by decide,by decide,by decide⟩ _ Uo
  (ChI w B w' w2.heap.size proc) (fun _ _=>False) (fun e u=>TA w B u∧e<=5000) (fun _ u i y h hi hk=>⟨EB h.1 hi hk,by have:=h.2;omega⟩) ⟨FA.out,hd⟩ ?_ (fun _ _ _ h _=>h) ⟨aP.out,G8.out,.slice none 0 0,0,[],Xb.out,⟨rfl,.inl ⟨rfl,rfl⟩⟩,⟨fI _,fI _⟩,(fun u h=>by cases h),fun _ u h=>by cases h⟩ ?_ ?_ (fun _ _ _ h _ _=>h.elim)
 ·rintro L E E' ⟨h1,h2,v,m,xs,h3,h4,h5,h6,h7⟩ hk
  exact⟨Kept.below h1 hk fun q o hq=>.inl (by omega),hk.blk h2 (.inl (by omega)),v,m,xs,hk.blk h3 (.inl (by omega)),R2 h4 hk fun g cs _=>.inr ⟨cs,_,_,rfl,by decide,by decide⟩,h5,h6,h7⟩
 ·rintro L l E e u z pv pl D2 hL hI hl1 hl2 Ve tP yR mR Ph JB
  obtain⟨Ap,cp,rfl,_⟩:=JB;have iK:=aA mR;have U2:=aA tP;have HSM:=aA yR;have Zk:=aA Ve;have Tk:=aA Ph;simp only[List.setIfInBounds_toArray,List.set_cons_zero,List.set_cons_succ];clear tP yR mR Ve Ph hI hcl mQ
  gi_wp2
  refine⟨(aM _ _).alloc (aH _) _,fun w4 N9 hI4=>?_⟩;have KX:Blk w4 E.heap.size 26 #[.int .u8 z.k,.int .i64 z.num,.string z.nm,.slice z.A z.n z.cap]:=N9.blk (Blk.new _ _ _) (by omega);have HKX:=aA KX;have hE4:E.heap.size<w4.heap.size:=KX.lt;have Vz:=aA (iK.out.keep (D':=D2) (fun b o hb=>by
   have:=Tk.out b hb;exact nL ((N9.heap (by simp;omega) (fun _=>by omega)).trans (Below.heap_alloc _ _ _ this.2))) fun _ h=>h)
  obtain⟨sU,l6⟩:=ClD.kv (B1:=w4.heap.size) (fun q hq=>by have:=Tk.out q hq;omega) U2.out HSM.out Vz.out;have G1:=Hz (B1:=w4.heap.size) (fun q hq=>by have:=Tk.out q hq;omega) Zk.out.1 Vz.out;have o0:=aA (fun h=>XD (B1:=w4.heap.size) (fun q hq=>by have:=Tk.out q hq;omega) U2.out Zk.out.1 Vz.out h);obtain⟨e',he'⟩:∃e',e=e'+1:=by cases e with|zero=>exact U2.out.elim|succ e=>exact⟨e,rfl⟩
  subst he';have Yo:=aA (MQ (aH _) e' (by have:=Zk.out.2;omega) z sU l6 G1 w4 (aM _ _));have RU:=aA hI4;obtain⟨z_x,T_x,F_x⟩:=KX.open_;clear sU l6 G1 hI4 KX N9
  gi_wp2
  refine⟨trivial,rfl,(CallsIn.inRound l (callsIn_wide.2 Yo.out)).mono ?_⟩;rintro en w5 ⟨⟨nm5,er,rfl,hrj⟩,cW⟩;have nK:=aA hrj;have gL:=aA cW;obtain⟨v,m,xs,q1,q2,q3,q4,q5⟩:=RU.out.l;obtain⟨Av,cv,rfl⟩:=aI q2;have X0:=aA (q1.next cW);have j6:=aA (aZ q2 cW (aH _));have EY:=aA q4;have F0:=aA q5;have oN:=aA (RU.out.p.next cW);have RK:=aA (RU.out.bel.next cW);have ZO:=RU.out.bel.size;have aBc:=cW.size;clear hrj cW q1 q2 q4 q5 z_x T_x F_x;by_cases her:er=0
  ·subst her
   gi_wp2
   refine⟨⟨RK.out,oN.out,_,m,xs,X0.out,j6.out,⟨by rw[List.length_cons];omega,by omega⟩,EY.out,fun hm u' RB=>?_⟩,Kept.of gL.out⟩;rcases List.mem_cons.1 RB with rfl|RB
   ·exact o0.out (nK.out (by trivial))
   ·exact F0.out hm u' RB
  ·have aA2:(er !=0)=true:=by simpa using her
   obtain⟨D9,zN,zF⟩:=X0.out.open_;obtain⟨eL,eC,eF⟩:=oN.out.open_
   gi_wp2_with (gi_at_builtin;refine wpListIn_append_own _ rfl (.tmp 21) (.tmp 27) 94 rfl w2.heap.size 168 i4 _ 4 56 Tryz.underlying94 HI.out HZ.out lI.out jY.out rfl (by decide) (.slice Av m cv) m xs rfl (j6.out.alloc _) ⟨w5.heap.size,0,none⟩ 1 1 [.int .i64 proc,.slice Ap pl.length cp,.int .i64 er,.string nm5] rfl rfl (FO _ _ _) (by intro u hu;simp at hu;rcases hu with rfl|rfl|rfl|rfl<;>rfl) (by unfold maxLen;omega) (by omega) (by simp;omega) ?_)
   intro v6 w6 bB eH _;obtain⟨A6,c6,rfl⟩:=aI bB;have GJ:Kept (fun k o=>k<w2.heap.size∨¬BH 168 o) w5 w6:=(Kept.of ((aM _ _).alloc (aH _) _)).trans (Kept.grown eH fun q hq o ho hp=>by
    rcases(j6.out.alloc (.cells #[.int .i64 proc,.slice Ap pl.length cp,.int .i64 er,.string nm5] 168)).2 with⟨e,_⟩|⟨g,cap,cur,e,hg,hh,_⟩
    ·rw[e]at hq;cases hq
    ·rw[e]at hq;injection hq with hq;replace hq:g=q:=hq;subst hq
     have:=hh.symm.trans ho;injection this with this;subst this;rcases hp with hp|hp
     ·omega
     ·exact hp ⟨_,_,rfl⟩)
   have RY:=aA GJ;have lY:=aA bB;have Yl:=aA (GJ.blk X0.out (.inl (by omega)));have oO:=aA (GJ.blk oN.out (.inl (by omega)));have AP:=GJ.size;clear GJ bB eH D9 zN zF eL eC eF;obtain⟨D9,zN,zF⟩:=Yl.out.open_
   gi_wp2
   have ff:Fr (fun q=>q=w'.heap.size+2) w6 (w6.setCell ⟨w'.heap.size+2,0,none⟩ (.slice A6 (m+1) c6)):=Fr.set (Fr.refl (fun q=>q=w'.heap.size+2) _) rfl _;have mC:Below w'.heap.size w' w6:=Kept.below RK.out RY.out fun q o hq=>.inl (by omega)
   refine⟨⟨mC.trans (ff.below (by omega) fun q hq=>by omega),oO.out.far (p:=⟨w'.heap.size+2,0,none⟩) (by simp) _,.slice A6 (m+1) c6,m+1,_,Yl.out.set_ 0 _,bL lY.out ff (fun q hq e=>by have:=(bH lY.out hq).1;omega),⟨by rw[List.length_cons];omega,by omega⟩,fun u' RB=>?_,fun h=>by omega⟩,(Kept.of gL.out).trans ((RY.out.mono fun q o hq=>?_).trans (Kept.fr ff fun q o hq e hp=>?_))⟩
   ·rcases List.mem_append.1 RB with h|h
    ·exact EY.out u' h
    ·simp at h;rcases h with rfl|rfl|rfl|rfl<;>rfl
   ·rcases hq with hq|hq
    ·exact .inl hq.1
    ·exact .inr (hq _ (.inr rfl))
   ·subst e
    rcases hp with hp|hp
    ·exact hp.2 rfl
    ·have:=hq.symm.trans Yl.out;injection this with this;subst this
     exact hp _ (.inl rfl) ⟨_,_,rfl⟩
 ·intro Db L E hI ha hdb hE
  obtain⟨v,m,xs,q1,q2,q3,q4,q5⟩:=hI.l;obtain⟨Av,cv,rfl⟩:=aI q2;obtain⟨D9,zN,zF⟩:=q1.open_;have j6:=aA q2;have RK:=aA hI.bel;have hm:m<=10000:=q3.2;clear q1 q2 hI;dsimp only;go_wp2_with fail;have Pj:=RK.out.size;have Py:=(Array.getElem?_eq_some_iff.1 hE).1;refine pM hE (results_tmp rfl _ _ _) ⟨⟨_,m,xs,rfl,?_,hm,q4,fun h=>AllD.mono (fun _ u hu=>q5 h u hu) ha⟩,RK.out.trans ((aM _ _).grown (grownBy_putObj' _ Db _) Pj (fun k e=>by cases e;omega))⟩;exact iQ (dZ j6.out (by omega)) fun g hg hk=>World.putObj_heap_other (fun e=>by
   subst e;rcases j6.out.2 with⟨e,_⟩|⟨g',cap,cur,e,_,hh,_⟩
   ·rw[e]at hk;cases hk
   ·rw[e]at hk;injection hk with hk;subst hk;have:=hh.symm.trans hE;cases this)
end Go.Proofs.YtakfdnnlhjhcfaaGreatDoor
