/- Part of the proof. -/
import Derived.Test.YtakfdnnlhjhcfaaGreatDoorA37
set_option linter.unusedVariables false
set_option linter.unusedSimpArgs false
namespace Bk
open Go Go.RowKit Go.Proofs.YtakfdnnlhjhcfaaGreatDoor
theorem y8{g:Nat->Nat}:∀{n:Nat},(∀i,i<n->1<=g i)->n<=aY g n
 |0,_=>fI _
 |n+1,h=>by
  have:=y8 (n:=n) fun i hi=>h i (by omega)
  have:=h n (by omega);simp only[aY];omega
theorem S9{g:Nat->Nat}:∀{n i:Nat},i<n->g i<=aY g n
 |0,i,hi=>absurd hi (Nat.not_lt_zero _)
 |n+1,i,hi=>by
  simp only[aY];rcases Nat.lt_succ_iff_lt_or_eq.1 hi with h|rfl
  ·have:=S9 (g:=g) h;omega
  ·omega
theorem y7{g h:Nat->Nat}:∀{n:Nat},(∀i,i<n->g i=h i)->aY g n=aY h n
 |0,_=>rfl
 |n+1,e=>by simp only[aY];rw[y7 (n:=n) fun i hi=>e i (by omega),e n (by omega)]
theorem LQ{w:World}{B:Nat}:∀(d:Nat)(x:Nd)(dp lf c:Nat),f6 w B d x dp lf=(true,c)->o8 w B d x+c<=lf
 |0,_,_,_,_,h=>by rw[f6]at h;cases h
 |d+1,x,dp,lf,c,h=>by
  obtain⟨h1,h2,h3⟩:=tR h;have h4:=kR (g:=fun i=>o8 w B d (bO w B x i)) (fun i _ lf c h=>LQ d _ _ _ _ h) h3;rw[o8];omega
theorem OQ{w:World}{B:Nat}:∀(d:Nat)(x:Nd)(dp lf c:Nat),KV w B d x->f6 w B d x dp lf=(true,c)->KV w B dp x
 |0,_,_,_,_,h,_=>h.elim
 |d+1,x,dp,lf,c,hk,h=>by
  obtain⟨h1,h2,h3⟩:=tR h;obtain⟨e,rfl⟩:∃e,dp=e+1:=⟨dp-1,by omega⟩;have tB:=hk;obtain⟨k1,k2,k3,k4,k5,_⟩:=hk;refine⟨k1,k2,k3,k4,k5,fun i hi=>?_⟩;obtain⟨q1,q2⟩:=bE tB hi;obtain⟨lf',c',h4⟩:=Q4 h3 i hi;exact⟨_,q1,OQ d _ e lf' c' q2 h4⟩
theorem YS{w:World}{B:Nat}:∀(d e:Nat)(x:Nd),KV w B d x->KV w B e x->o8 w B d x=o8 w B e x
 |0,_,_,h,_=>h.elim
 |_+1,0,_,_,h=>h.elim
 |d+1,e+1,x,h,h'=>by
  rw[o8,o8,y7 (h:=fun q=>o8 w B e (bO w B x q)) fun i hi=>YS d e _ (bE h hi).2 (bE h' hi).2]
theorem ZX{w:World}{B:Nat}:∀(d:Nat)(x:Nd),KV w B d x->o8 w B d x<=10000->Sm w B d x
 |0,_,h,_=>h.elim
 |d+1,x,h,hc=>by
  rw[o8]at hc;have h1:=y8 (g:=fun q=>o8 w B d (bO w B x q)) (n:=x.n) fun i hi=>by
   have h2:=(bE h hi).2;cases d with
   |zero=>exact h2.elim
   |succ d=>show 1<=o8 w B (d+1) _;rw[o8];omega
  refine⟨by omega,fun i y hi hy=>?_⟩;obtain⟨q1,q2⟩:=bE h hi;obtain rfl:=Kid.one hy q1;have:=S9 (g:=fun q=>o8 w B d (bO w B x q)) hi;exact ZX d _ q2 (by omega)
theorem zQ{w:World}{B d:Nat}{x:Nd}(h:KV w B d x)(hb:gZ w B d x=true):KV w B 80 x∧Sm w B 80 x∧o8 w B 80 x<=10000:=by
 unfold gZ at hb;rw[Bool.and_eq_true]at hb;have hl:f6 w B d x 80 2000=(true,(f6 w B d x 80 2000).2):=by rw[<-hb.1]
 have h1:=OQ d x _ _ _ h hl;have h2:=LQ d x _ _ _ hl;rw[YS d 80 x h h1]at h2;exact⟨h1,ZX 80 x h1 (by omega),by omega⟩
theorem sJ{w:World}{B:Nat}:∀(e:Ex)(d:Nat)(x:Nd),KV w B d x->EV w B aS e x->e.rng
 |_,0,_,h,_=>h.elim
 |.num v,d+1,x,⟨_,h,_⟩,⟨_,h2,_⟩=>by subst h2;unfold Ex.rng I64;omega
 |.var _,d+1,x,_,_=>trivial
 |.top _,d+1,x,_,_=>trivial
 |.size _,d+1,x,_,_=>trivial
 |.item s a,d+1,x,hk,⟨_,_,_,_,h3,y,h4,h5⟩=>by
  obtain⟨q1,q2⟩:=bE hk (show 0<x.n by omega);obtain rfl:=Kid.one h4 q1;exact sJ a d _ q2 h5
 |.un op a,d+1,x,hk,⟨_,_,_,_,h3,y,h4,h5⟩=>by
  obtain⟨q1,q2⟩:=bE hk (show 0<x.n by omega);obtain rfl:=Kid.one h4 q1;exact sJ a d _ q2 h5
 |.bin op a b,d+1,x,hk,⟨_,_,_,_,h3,y,z,h4,Ja,h5,h6⟩=>by
  obtain⟨q1,q2⟩:=bE hk (show 0<x.n by omega);obtain rfl:=Kid.one h4 q1;obtain⟨q3,q4⟩:=bE hk (show 1<x.n by omega);obtain rfl:=Kid.one Ja q3;exact⟨sJ a d _ q2 h5,sJ b d _ q4 h6⟩
theorem vJ{s t:ByteArray}(h:(s.toList==t.toList)=true):∀l:List Vr,bK s l=bK t l
 | []=>rfl
 |v::l=>by
  have h':s.toList=t.toList:=by simpa using h
  simp only[bK,vJ h l,h']
theorem tV{vs:List Vr}{s t:ByteArray}{k:Int}(h:one (dT vs t k)=0)(hs:bK s vs=none):(t.toList==s.toList)=false:=by
 obtain⟨i,v,h1,_⟩:=oD (wC h);cases h2:t.toList==s.toList with
 |false=>rfl
 |true=>rw[vJ h2,hs]at h1;cases h1
theorem kP{w:World}{B:Nat}{pcs:List Pc}{s:ByteArray}{vs:List Vr}(hs:bK s vs=none):∀(e:Ex)(d:Nat)(x:Nd),KV w B d x->EV w B aS e x->dL w B pcs d x vs=0->e.has s=false
 |_,0,_,h,_,_=>h.elim
 |.num v,d+1,x,_,_,_=>rfl
 |.var t,d+1,x,_,⟨h1,_,h2,_⟩,h=>by
  rw[dL]at h;have h0:one (cY vs pcs x)=0:=by omega
  unfold cY at h0;rw[if_pos h1,h2]at h0;exact tV h0 hs
 |.top t,d+1,x,_,⟨h1,_,h2,_⟩,h=>by
  rw[dL]at h;have h0:one (cY vs pcs x)=0:=by omega
  unfold cY at h0;rw[if_neg (by omega),if_neg (by omega),if_pos (by omega),h2]at h0;exact tV h0 hs
 |.size t,d+1,x,_,⟨h1,_,h2,_⟩,h=>by
  rw[dL]at h;have h0:one (cY vs pcs x)=0:=by omega
  unfold cY at h0;rw[if_neg (by omega),if_neg (by omega),if_pos (by omega),h2]at h0;exact tV h0 hs
 |.item t a,d+1,x,hk,⟨h1,_,h2,_,h3,y,h4,h5⟩,h=>by
  rw[dL,if_neg (by omega)]at h;have h0:one (cY vs pcs x)=0:=by omega
  unfold cY at h0;rw[if_neg (by omega),if_pos h1,h2]at h0;obtain⟨q1,q2⟩:=bE hk (show 0<x.n by omega);obtain rfl:=Kid.one h4 q1;have h6:=eQ (show aY (fun i=>dL w B pcs d (bO w B x i) (bJ x i vs)) x.n=0 by omega) 0 (by omega);rw[show bJ x 0 vs=vs by unfold bJ;rw[if_neg (by omega),if_neg (by omega)]]at h6;show(t.toList==s.toList||a.has s)=false;rw[tV h0 hs,kP hs a d _ q2 h5 h6];rfl
 |.un op a,d+1,x,hk,⟨h1,yI,_,_,h3,y,h4,h5⟩,h=>by
  rw[dL,if_neg (by omega)]at h;obtain⟨q1,q2⟩:=bE hk (show 0<x.n by omega);obtain rfl:=Kid.one h4 q1;have h6:=eQ (show aY (fun i=>dL w B pcs d (bO w B x i) (bJ x i vs)) x.n=0 by omega) 0 (by omega);rw[show bJ x 0 vs=vs by unfold bJ;rw[if_neg (by omega),if_neg (by omega)]]at h6;exact kP hs a d _ q2 h5 h6
 |.bin op a b,d+1,x,hk,⟨h1,yI,_,_,h3,y,z,h4,Ja,h5,h5'⟩,h=>by
  rw[dL,if_neg (by omega)]at h;have key:∀i y,i<x.n->Kid w B x i y->KV w B d y∧dL w B pcs d y vs=0:=fun i y hi hy=>by
   obtain⟨q1,q2⟩:=bE hk hi;obtain rfl:=Kid.one hy q1;have h6:=eQ (show aY (fun i=>dL w B pcs d (bO w B x i) (bJ x i vs)) x.n=0 by omega) i hi;rw[show bJ x i vs=vs by unfold bJ;rw[if_neg (by omega),if_neg (by omega)]]at h6;exact⟨q2,h6⟩
  obtain⟨k1,k2⟩:=key 0 y (by omega) h4;obtain⟨k3,k4⟩:=key 1 z (by omega) Ja;show(a.has s||b.has s)=false;rw[kP hs a d _ k1 h5 k2,kP hs b d _ k3 h5' k4];rfl
theorem mX{w:World}{B:Nat}{p:Ex}{y:Nd}(h:EV w B aS p y)(hp:p.isPl):p.nam=y.nm:=by
 cases p with
 |var s=>exact h.2.2.1.symm
 |item s a=>exact h.2.2.1.symm
 |_=>exact hp.elim
theorem sX{w:World}{B:Nat}{nm:ByteArray}{p:Ex}{y:Nd}(h:EV w B aS p y)(hn:lT w B nm y):p.ih nm=false:=by
 cases p with
 |item s a=>
  obtain⟨h1,_,_,_,_,z,h4,h5⟩:=h;obtain⟨d,k1,k2⟩:=hn h1 z h4;exact rW a d z k1 h5 k2
 |_=>rfl
theorem Sn{w:World}{B:Nat}{nm:ByteArray}{e:Ex}{y:Nd}(h:EV w B aS e y)(hn:WO w B nm y):e.has nm=false:=by
 obtain⟨d,k1,k2⟩:=hn;exact rW e d y k1 h k2
def Sq.hrv:Sq->Prop
 |.nil=>True
 |.upd op p e _=>(op=40∨op=41∨op=42)∧p.isPl∧p.ih p.nam=false∧e.has p.nam=false
 |.swp p q _=>p.isPl∧q.isPl∧p.ih p.nam=false∧p.ih q.nam=false∧q.ih p.nam=false∧q.ih q.nam=false
 |.stk op s p _=>(op=44∨op=45)∧p.isPl∧p.ih p.nam=false∧p.ih s=false
 |.tap op p _=>(op=46∨op=47∨op=48∨op=49)∧p.isPl∧p.ih p.nam=false
 |.cal op s ss _=>(op=50∨op=51)∧ss.Pairwise fun a b=>(a.toList==b.toList)=false
 |.ifs e a b e' _=>a.rv∧b.rv
 |.frm e a b e' _=>a.rv∧b.rv
 |.loc x e b e' _=>e.has x=false∧e'.has x=false∧e.rng∧e'.rng∧b.rv
 |.lst x b _=>b.rv
theorem Sq.rv_of:∀(s:Sq),(∀i,i<s.len->(s.drop i).hrv)->s.rv
 |.nil,_=>trivial
 |.upd _ _ _ r,h=>⟨h 0 (Nat.succ_pos _),Sq.rv_of r fun i hi=>h (i+1) (Nat.succ_lt_succ hi)⟩
 |.swp _ _ r,h=>⟨h 0 (Nat.succ_pos _),Sq.rv_of r fun i hi=>h (i+1) (Nat.succ_lt_succ hi)⟩
 |.stk _ _ _ r,h=>⟨h 0 (Nat.succ_pos _),Sq.rv_of r fun i hi=>h (i+1) (Nat.succ_lt_succ hi)⟩
 |.tap _ _ r,h=>⟨h 0 (Nat.succ_pos _),Sq.rv_of r fun i hi=>h (i+1) (Nat.succ_lt_succ hi)⟩
 |.cal _ _ _ r,h=>⟨h 0 (Nat.succ_pos _),Sq.rv_of r fun i hi=>h (i+1) (Nat.succ_lt_succ hi)⟩
 |.ifs _ _ _ _ r,h=>⟨h 0 (Nat.succ_pos _),Sq.rv_of r fun i hi=>h (i+1) (Nat.succ_lt_succ hi)⟩
 |.frm _ _ _ _ r,h=>⟨h 0 (Nat.succ_pos _),Sq.rv_of r fun i hi=>h (i+1) (Nat.succ_lt_succ hi)⟩
 |.loc _ _ _ _ r,h=>⟨h 0 (Nat.succ_pos _),Sq.rv_of r fun i hi=>h (i+1) (Nat.succ_lt_succ hi)⟩
 |.lst _ _ r,h=>⟨h 0 (Nat.succ_pos _),Sq.rv_of r fun i hi=>h (i+1) (Nat.succ_lt_succ hi)⟩
section
variable{w:World}{B:Nat}{pcs:List Pc}
mutual
theorem Hc:∀(d:Nat)(s:Sq)(x:Nd),StAt w B d s x->∀(e:Nat)(vs:List Vr),KV w B e x->dL w B pcs e x vs=0->∀(g:Nat),KV w B g x->AllD w B (fun _ u=>RJ w B u) g x->s.hrv
 |0,s,x,h,_,_,_,_,_,_,_=>h.elim
 |d+1,s,x,h,0,vs,hk,_,_,_,_=>hk.elim
 |d+1,s,x,h,e+1,vs,hk,hc,0,hg,_=>hg.elim
 |d+1,s,x,h,e+1,vs,hk,hc,g+1,hg,hr=>by
  rw[dL]at hc;have kid:¬(x.k=50∨x.k=51)->∀(i:Nat)(y:Nd),i<x.n->Kid w B x i y->KV w B e y∧dL w B pcs e y (bJ x i vs)=0∧KV w B g y∧AllD w B (fun _ u=>RJ w B u) g y:=fun h0 i y hi hy=>by
   rw[if_neg h0]at hc;obtain⟨h1,h2⟩:=bE hk hi;have h3:=Kid.one hy h1;subst h3;exact⟨h2,eQ (show aY (fun i=>dL w B pcs e (bO w B x i) (bJ x i vs)) x.n=0 by omega) i hi,(bE hg hi).2,hr.2 i _ hi hy⟩
  obtain⟨r0,r1,r2,r3,r4,r5⟩:=hr.1;cases s with
  |nil=>exact h.elim
  |upd op p ex r=>
   obtain⟨h1,h2,h3,h4,h5,y,z,k1,k2,e1,e2⟩:=h;obtain⟨q1,q2⟩:=r1 (by omega) y z k1 k2;refine⟨by omega,h5,?_,?_⟩
   ·rw[mX e1 h5];exact sX e1 q1
   ·rw[mX e1 h5];exact Sn e2 q2
  |swp p q r=>
   obtain⟨h1,h2,h3,h4,h5,y,z,k1,k2,e1,e2⟩:=h;obtain⟨q1,q2,q3,q4⟩:=r2 h1 y z k1 k2;refine⟨h4,h5,?_,?_,?_,?_⟩
   ·rw[mX e1 h4];exact sX e1 q1
   ·rw[mX e2 h5];exact sX e1 q2
   ·rw[mX e1 h4];exact sX e2 q3
   ·rw[mX e2 h5];exact sX e2 q4
  |stk op s p r=>
   obtain⟨h1,h2,h3,h4,h5,h6,h7,y,k1,e1⟩:=h;obtain⟨q1,q2⟩:=r3 (by omega) y k1;refine⟨h2,h7,?_,?_⟩
   ·rw[mX e1 h7];exact sX e1 q1
   ·rw[<-h4];exact sX e1 q2
  |tap op p r=>
   obtain⟨h1,h2,h3,h4,h5,y,k1,e1⟩:=h;refine⟨h2,h5,?_⟩;rw[mX e1 h5];exact sX e1 (r4 (by omega) y k1)
  |cal op nm args r=>
   obtain⟨h1,h2,h3,h4,h5,h6,h7⟩:=h;refine⟨h2,List.pairwise_iff_getElem.2 fun i j hi hj yM=>?_⟩;obtain⟨y,k1,e1⟩:=h7 i _ (dR hi);obtain⟨z,k2,e2⟩:=h7 j _ (dR hj);have:=r5 (by omega) i j y z yM (by omega) k1 k2;rw[e1.2.2.1,e2.2.2.1]at this;exact this
  |ifs ex a b ex' r=>
   obtain⟨h1,h2,y0,y1,y2,y3,k0,k1,k2,k3,_,b1,b2,_⟩:=h;obtain⟨p1,p2,p3,p4⟩:=kid (by omega) 1 y1 (by omega) k1;obtain⟨q1,q2,q3,q4⟩:=kid (by omega) 2 y2 (by omega) k2;exact⟨sZ d a y1 b1 e _ p1 p2 g p3 p4,sZ d b y2 b2 e _ q1 q2 g q3 q4⟩
  |frm ex a b ex' r=>
   obtain⟨h1,h2,y0,y1,y2,y3,k0,k1,k2,k3,_,b1,b2,_⟩:=h;obtain⟨p1,p2,p3,p4⟩:=kid (by omega) 1 y1 (by omega) k1;obtain⟨q1,q2,q3,q4⟩:=kid (by omega) 2 y2 (by omega) k2;exact⟨sZ d a y1 b1 e _ p1 p2 g p3 p4,sZ d b y2 b2 e _ q1 q2 g q3 q4⟩
  |loc v ex b ex' r=>
   obtain⟨h1,h2,h3,y0,y1,y2,k0,k1,k2,e1,b1,e2⟩:=h;obtain⟨o1,o2,o3,o4⟩:=kid (by omega) 0 y0 (by omega) k0;obtain⟨p1,p2,p3,p4⟩:=kid (by omega) 1 y1 (by omega) k1;obtain⟨q1,q2,q3,q4⟩:=kid (by omega) 2 y2 (by omega) k2;have h4:=wC (show one (cY vs pcs x)=0 by omega);unfold cY at h4;rw[if_neg (by omega),if_neg (by omega),if_neg (by omega),if_pos (by omega),h2]at h4;have h5:bK v vs=none:=by
    cases h6:bK v vs with
    |none=>rfl
    |some i=>rw[h6]at h4;simp at h4
   rw[show bJ x 0 vs=vs by unfold bJ;rw[if_neg (by omega),if_neg (by omega)]]at o2;rw[show bJ x 2 vs=vs by unfold bJ;rw[if_neg (by omega),if_neg (by omega)]]at q2;exact⟨kP h5 ex e y0 o1 e1 o2,kP h5 ex' e y2 q1 e2 q2,sJ ex e y0 o1 e1,sJ ex' e y2 q1 e2,sZ d b y1 b1 e _ p1 p2 g p3 p4⟩
  |lst v b r=>
   obtain⟨h1,h2,h3,y0,k0,b1⟩:=h;obtain⟨p1,p2,p3,p4⟩:=kid (by omega) 0 y0 (by omega) k0;exact sZ d b y0 b1 e _ p1 p2 g p3 p4
theorem sZ:∀(d:Nat)(s:Sq)(x:Nd),SqAt w B d s x->∀(e:Nat)(vs:List Vr),KV w B e x->dL w B pcs e x vs=0->∀(g:Nat),KV w B g x->AllD w B (fun _ u=>RJ w B u) g x->s.rv
 |d,s,x,h,0,vs,hk,_,_,_,_=>hk.elim
 |d,s,x,h,e+1,vs,hk,hc,0,hg,_=>hg.elim
 |d,s,x,h,e+1,vs,hk,hc,g+1,hg,hr=>by
  obtain⟨h1,h2,h3⟩:=h;rw[dL,if_neg (by omega)]at hc;refine Sq.rv_of s fun i hi=>?_
  obtain⟨y,hy,hs⟩:=h3 i hi;obtain⟨q1,q2⟩:=bE hk (show i<x.n by omega);have q3:=Kid.one hy q1;subst q3;exact Hc d _ _ hs e _ q2 (eQ (show aY (fun i=>dL w B pcs e (bO w B x i) (bJ x i vs)) x.n=0 by omega) i (by omega)) g (bE hg (show i<x.n by omega)).2 (hr.2 i _ (by omega) hy)
end
end
end Bk
set_option maxRecDepth 100000
set_option maxHeartbeats 4000000
namespace Go.Proofs.YtakfdnnlhjhcfaaGreatDoor
open Go.RowKit Bk
theorem yH{α:Type}{l:List (List α)}{j:Nat}(h:j<l.length):l.getD j []∈l:=by simp[eX,h]
theorem Sl.some_{w:World}{D:Nat->Prop}{sz n:Nat}{v:Value}{xs:List Value}(h:Sl w D sz v n xs)(hn:0<n):∃b off cap,v=.slice (some ⟨b,off,none⟩) n cap∧D b∧∀j u,xs[j]?=some u->w.cell? ⟨b,off+j,none⟩=some u:=by
 obtain⟨A,cap,rfl,_,_,h3⟩:=h;obtain⟨b,off,rfl,hd,hc⟩:=h3.2 hn;exact⟨b,off,cap,rfl,hd,hc⟩
theorem YR{w:World}{D D':Nat->Prop}{v v':Value}{l l':List Int}(h:Sl w D 1 v l.length (aC l))(h':Sl w D' 1 v' l'.length (aC l'))(hD:∀k,D k->k<w.heap.size)(DI:∀k,D' k->k<w.heap.size)(mD:l.length<=17592186044400)(NW:l'.length<=17592186044400):
  Calls Tryz.prog 23 #[v,v'] w fun e w'=>e=.returned (.bool (decide (l=l')))∧Below w.heap.size w w':=by
 have HS:=aA h;have Mv:=aA h';obtain⟨A,cap,rfl,_⟩:=h;obtain⟨A',cap',rfl,_⟩:=h';by_cases hll:l.length=l'.length
 ·have hnn:((l.length:Int) !=(l.length:Int))=false:=by simp
  obtain⟨n,hn⟩:∃n,n=l.length:=⟨_,rfl⟩;obtain⟨r,hr⟩:∃r,r=decide (l=l'):=⟨_,rfl⟩;rw[<-hr];rw[<-hll];rw[<-hn]at hnn mD⊢;have HN:=aA hn;have HR:=aA hr;have YB:=aA hll;clear hn hr hll NW;go_enter Tryz.func23,Tryz.ntmps23;go_wp2_with fail
  go_loopw [13] (fun v13 wr=>∃i:Nat,i<=n∧v13=.int .i64 i∧(∀k,k<i->l.getD k 0=l'.getD k 0)∧Below w.heap.size w wr) (fun i _=>n-(intOf i).toNat)
  case atStart=>exact⟨0,fI _,rfl,fun k hk=>absurd hk (Nat.not_lt_zero _),by go_grown⟩
  case round=>
   obtain⟨j,hi,rfl,hz,hB⟩:=hrel;have HZ:=aA hz;clear hz;by_cases Gt:j<n
   ·have eI:j<l.length:=HN.out▸Gt
    have hll:=YB.out;obtain⟨bx,ox,cpx,ex,Qc,Pw⟩:=Sl.some_ HS.out (by omega);obtain⟨by',oy,cpy,ey,Qd,Px⟩:=Sl.some_ Mv.out (by omega);obtain⟨rfl,-,-⟩:A=some ⟨bx,ox,none⟩∧True∧True:=⟨by injection ex,trivial,trivial⟩;obtain⟨rfl,-,-⟩:A'=some ⟨by',oy,none⟩∧True∧True:=⟨by injection ey,trivial,trivial⟩;have cx:=(hB.cell (p:=⟨bx,ox+j,none⟩) (hD _ Qc)).trans (Pw _ _ (eJ l j eI));have cy:=(hB.cell (p:=⟨by',oy+j,none⟩) (DI _ Qd)).trans (Px _ _ (eJ l' j (hll▸eI)));clear Pw Px ex ey hll eI;generalize hx:l.getD j 0=x at *;generalize hy:l'.getD j 0=y at *;have HX:=aA hx;have HY:=aA hy;clear hx hy;obtain⟨z,hv⟩:∃z,(x !=y)=z:=⟨_,rfl⟩;have HV:=aA hv;have U5:bx<wr.heap.size:=by have:=hB.size;have:=hD _ Qc;omega
    have NH:by'<wr.heap.size:=by have:=hB.size;have:=DI _ Qd;omega
    cases z with
    |true=>
     go_wp2_with fail;go_quiet (fail);go_wp2_with fail;go_ret;refine⟨qR ?_,Bk.drewN_ hB _⟩;rw[HR.out];symm;rw[decide_eq_false_iff_not];intro e;have:=HV.out;have Hf:x=y:=by rw[<-HX.out,<-HY.out,e]
     subst Hf;simp at this
    |false=>
     have Hf:x=y:=by
      have:=HV.out;simpa[Prod.ext_iff]using this
     go_wp2_with fail;go_quiet (fail);go_wp2_with fail;exact⟨⟨j+1,by omega,by go_num,fun k hk=>(Nat.lt_succ_iff_lt_or_eq.1 hk).elim (HZ.out k) (fun e=>by subst e;rw[HX.out,HY.out,Hf]),Bk.drewN_ hB _⟩,by simp[intOf];omega⟩
   ·obtain rfl:n=j:=by omega
    have qE:l=l':=by
     apply List.ext_getElem YB.out;intro k h1 h2;have:=HZ.out k (by rw[HN.out];exact h1);simpa[eX,h1,h2]using this
    go_wp2_with fail;go_ret;exact⟨qR (by rw[HR.out];simp[qE]),by go_grown⟩
 ·have hnn:((l.length:Int) !=(l'.length:Int))=true:=by simp;omega
  have hr:decide (l=l')=false:=by rw[decide_eq_false_iff_not];intro e;exact hll (by rw[e])
  rw[hr];clear hr HS Mv;go_enter Tryz.func23,Tryz.ntmps23;go_wp2_with fail;go_ret;exact⟨rfl,by go_grown⟩
theorem Nx{w:World}{D D':Nat->Prop}{v v':Value}{sv sv':List Value}{ss GZ:List (List Int)}(h:Sl w D 1 v ss.length sv)(h':Sl w D' 1 v' GZ.length sv')(hs:SvRd w D sv ss)(hs':SvRd w D' sv' GZ)(hD:∀k,D k->k<w.heap.size)(DI:∀k,D' k->k<w.heap.size)
  (mD:ss.length<=17592186044400) (NW:GZ.length<=17592186044400) (hl:∀l∈ss,l.length<=17592186044400) (oS:∀l∈GZ,l.length<=17592186044400):
  Calls Tryz.prog 22 #[v,v',.func (.func 23) #[] #[]] w fun e w'=>e=.returned (.bool (decide (ss=GZ)))∧Below w.heap.size w w':=by
 have HS:=aA h;have Mv:=aA h';have HV:=aA hs;have HV':=aA hs';have HL:=aA hl;have HL':=aA oS;clear hs hs' hl oS;obtain⟨A,cap,rfl,_⟩:=h;obtain⟨A',cap',rfl,_⟩:=h';by_cases hll:ss.length=GZ.length
 ·have hnn:((ss.length:Int) !=(ss.length:Int))=false:=by simp
  obtain⟨n,hn⟩:∃n,n=ss.length:=⟨_,rfl⟩;obtain⟨r,hr⟩:∃r,r=decide (ss=GZ):=⟨_,rfl⟩;rw[<-hr];rw[<-hll];rw[<-hn]at hnn mD⊢;have HN:=aA hn;have HR:=aA hr;have YB:=aA hll;clear hn hr hll NW;go_enter Tryz.func22,Tryz.ntmps22;go_wp2_with fail
  go_loopw [17] (fun v13 wr=>∃i:Nat,i<=n∧v13=.int .i64 i∧(∀k,k<i->ss.getD k []=GZ.getD k [])∧Below w.heap.size w wr) (fun i _=>n-(intOf i).toNat)
  case atStart=>exact⟨0,fI _,rfl,fun k hk=>absurd hk (Nat.not_lt_zero _),by go_grown⟩
  case round=>
   obtain⟨j,hi,rfl,hz,hB⟩:=hrel;have HZ:=aA hz;clear hz;by_cases Gt:j<n
   ·have eI:j<ss.length:=HN.out▸Gt
    have Gu:j<GZ.length:=YB.out▸eI;obtain⟨bx,ox,cpx,ex,Qc,Pw⟩:=Sl.some_ HS.out (by omega);obtain⟨by',oy,cpy,ey,Qd,Px⟩:=Sl.some_ Mv.out (by omega);obtain⟨rfl,-,-⟩:A=some ⟨bx,ox,none⟩∧True∧True:=⟨by injection ex,trivial,trivial⟩;obtain⟨rfl,-,-⟩:A'=some ⟨by',oy,none⟩∧True∧True:=⟨by injection ey,trivial,trivial⟩;obtain⟨ux,VZ,slx⟩:=HV.out.2 j eI;obtain⟨uy,huy,sly⟩:=HV'.out.2 j Gu;have cx:=(hB.cell (p:=⟨bx,ox+j,none⟩) (hD _ Qc)).trans (Pw _ _ VZ);have cy:=(hB.cell (p:=⟨by',oy+j,none⟩) (DI _ Qd)).trans (Px _ _ huy);have HSX:=aA (slx.keep (fun b o hd=>hB.cell (p:=⟨b,o,none⟩) (hD _ hd)) (D':=D) (fun _ h=>h));have QU:=aA (sly.keep (fun b o hd=>hB.cell (p:=⟨b,o,none⟩) (DI _ hd)) (D':=D') (fun _ h=>h));have hlx:=HL.out _ (yH eI);have Uw:=HL'.out _ (yH Gu);clear Pw Px ex ey eI Gu VZ huy;generalize hx:ss.getD j []=x at *;generalize hy:GZ.getD j []=y at *;have HX:=aA hx;have HY:=aA hy;clear hx hy;obtain⟨Ax,cpx',rfl,_⟩:=slx;obtain⟨Ay,cpy',rfl,_⟩:=sly;obtain⟨z,hv⟩:∃z,decide (x=y)=z:=⟨_,rfl⟩;have Zr:=aA hv;clear hv;have U5:bx<wr.heap.size:=by have:=hB.size;have:=hD _ Qc;omega
    have NH:by'<wr.heap.size:=by have:=hB.size;have:=DI _ Qd;omega
    go_wp2_with fail;refine(YR HSX.out QU.out (fun k hk=>dX (hD k hk) hB.size) (fun k hk=>dX (DI k hk) hB.size) hlx Uw).mono ?_;rw[Zr.out];rintro e w2 ⟨rfl,hb2⟩;have GF:Below w.heap.size w w2:=hB.next hb2;clear hb2;cases z with
    |false=>
     go_wp2_with fail;go_ret;refine⟨qR ?_,GF⟩;rw[HR.out];symm;rw[decide_eq_false_iff_not];intro e;have Hf:x=y:=by rw[<-HX.out,<-HY.out,e]
     exact of_decide_eq_false Zr.out Hf
    |true=>
     have Hf:x=y:=of_decide_eq_true Zr.out;go_wp2_with fail;exact⟨⟨j+1,by omega,by go_num,fun k hk=>(Nat.lt_succ_iff_lt_or_eq.1 hk).elim (HZ.out k) (fun e=>by subst e;rw[HX.out,HY.out,Hf]),GF⟩,by simp[intOf];omega⟩
   ·obtain rfl:n=j:=by omega
    have qE:ss=GZ:=by
     apply List.ext_getElem YB.out;intro k h1 h2;have:=HZ.out k (by rw[HN.out];exact h1);simpa[eX,h1,h2]using this
    go_wp2_with fail;go_ret;exact⟨qR (by rw[HR.out];simp[qE]),by go_grown⟩
 ·have hnn:((ss.length:Int) !=(GZ.length:Int))=true:=by simp;omega
  have hr:decide (ss=GZ)=false:=by rw[decide_eq_false_iff_not];intro e;exact hll (by rw[e])
  rw[hr];clear hr HS Mv;go_enter Tryz.func22,Tryz.ntmps22;go_wp2_with fail;go_ret;exact⟨rfl,by go_grown⟩
theorem SW.sv{w:World}{D:Nat->Prop}{vC vI vO:Value}{cs:List (List Int)}{inp out:List Int}(h:SW w D vC vI vO cs inp out):∃sv,Sl w D 1 vC cs.length sv∧SvRd w D sv cs:=by
 obtain⟨sv,h1,h2⟩:=h.row;have hl:sv.length=cs.length:=by obtain⟨A,c,_,_,_,h3⟩:=h1;have:=h3.1;omega
 refine⟨sv,h1,hl,fun j hj=>?_⟩;have e1:=dR (l:=sv) (i:=j) (by omega);have e2:=dR (l:=cs) (i:=j) hj;refine⟨_,e1,?_⟩;have:=h2 j _ _ e1 e2;rw[show cs.getD j []=cs[j] by simp[eX,hj]];exact this
theorem rN{w:World}{D D':Nat->Prop}{vC vI vO vC' vI' vO':Value}{cs cs':List (List Int)}{inp out inp' out':List Int}(h:SW w D vC vI vO cs inp out)(h':SW w D' vC' vI' vO' cs' inp' out')(hD:∀k,D k->k<w.heap.size)(DI:∀k,D' k->k<w.heap.size)
  (hb:cs.length<=100000∧inp.length<=100000∧out.length<=100000∧∀l∈cs,l.length<=100000) (gX:cs'.length<=100000∧inp'.length<=100000∧out'.length<=100000∧∀l∈cs',l.length<=100000):
  Calls Tryz.prog 12 #[.agg #[vC,vI,vO],.agg #[vC',vI',vO']] w fun e w'=>e=.returned (.bool (decide (cs=cs')&&(decide (inp=inp')&&decide (out=out'))))∧Below w.heap.size w w':=by
 obtain⟨sv,s1,s2⟩:=h.sv;obtain⟨sv',s1',s2'⟩:=h'.sv;have X4:∀{size n:Nat}{v:Value}{xs:List Value}{D:Nat->Prop},(∀k,D k->k<w.heap.size)->Sl w D size v n xs->∀W,Below w.heap.size w W->Sl W D size v n xs:=fun hD h W hW=>h.keep (fun b o hd=>hW.cell (p:=⟨b,o,none⟩) (hD _ hd)) (fun _ h=>h)
 have HC:Hid (∀W,Below w.heap.size w W->Calls Tryz.prog 22 #[vC,vC',.func (.func 23) #[] #[]] W fun e w'=>e=.returned (.bool (decide (cs=cs')))∧Below W.heap.size W w'):=aA fun W hW=>Nx (X4 hD s1 W hW) (X4 DI s1' W hW) ⟨s2.1,fun j hj=>let ⟨u,a,b⟩:=s2.2 j hj;⟨u,a,X4 hD b W hW⟩⟩ ⟨s2'.1,fun j hj=>let ⟨u,a,b⟩:=s2'.2 j hj;⟨u,a,X4 DI b W hW⟩⟩ (fun k hk=>dX (hD k hk) hW.size) (fun k hk=>dX (DI k hk) hW.size) (by omega) (by omega) (fun l hl=>by have:=hb.2.2.2 l hl;omega) (fun l hl=>by have:=gX.2.2.2 l hl;omega)
 have HE:∀{v v':Value}{l l':List Int},Sl w D 1 v l.length (aC l)->Sl w D' 1 v' l'.length (aC l')->l.length<=100000->l'.length<=100000->Hid (∀W,Below w.heap.size w W->Calls Tryz.prog 23 #[v,v'] W fun e w'=>e=.returned (.bool (decide (l=l')))∧Below W.heap.size W w'):=fun h h' hb gX=>aA fun W hW=>YR (X4 hD h W hW) (X4 DI h' W hW) (fun k hk=>dX (hD k hk) hW.size) (fun k hk=>dX (DI k hk) hW.size) (by omega) (by omega)
 have G7:=HE h.inp h'.inp hb.2.1 gX.2.1;have HOU:=HE h.out h'.out hb.2.2.1 gX.2.2.1;obtain⟨AC,nc,cC,rfl⟩:∃A n c,vC=.slice A n c:=by obtain⟨A,c,e,_⟩:=s1;exact⟨A,_,c,e⟩
 obtain⟨AI,ni,cI,rfl⟩:∃A n c,vI=.slice A n c:=by obtain⟨A,c,e,_⟩:=h.inp;exact⟨A,_,c,e⟩
 obtain⟨AO,no,cO,rfl⟩:∃A n c,vO=.slice A n c:=by obtain⟨A,c,e,_⟩:=h.out;exact⟨A,_,c,e⟩
 obtain⟨AC',nc',cC',rfl⟩:∃A n c,vC'=.slice A n c:=by obtain⟨A,c,e,_⟩:=s1';exact⟨A,_,c,e⟩
 obtain⟨AI',ni',cI',rfl⟩:∃A n c,vI'=.slice A n c:=by obtain⟨A,c,e,_⟩:=h'.inp;exact⟨A,_,c,e⟩
 obtain⟨AO',no',cO',rfl⟩:∃A n c,vO'=.slice A n c:=by obtain⟨A,c,e,_⟩:=h'.out;exact⟨A,_,c,e⟩
 obtain⟨r1,h1⟩:∃r,decide (cs=cs')=r:=⟨_,rfl⟩;obtain⟨r2,h2⟩:∃r,decide (inp=inp')=r:=⟨_,rfl⟩;obtain⟨r3,h3⟩:∃r,decide (out=out')=r:=⟨_,rfl⟩;rw[h1]at HC⊢;rw[h2]at G7⊢;rw[h3]at HOU⊢;clear h h' hD DI hb gX s1 s2 s1' s2' X4 HE h1 h2 h3;go_enter Tryz.func12,Tryz.ntmps12;go_upto_region 1 with fail;refine aB ?_;intro w1 aF;have aG:Below w.heap.size w w1:=by rw[aF];go_grown
 have K1:Blk w1 w.heap.size 32 #[.slice AC nc cC,.slice AI ni cI,.slice AO no cO]:=by rw[aF];exact Blk.alloc (Blk.new _ _ _) _
 have K2:Blk w1 (w.heap.size+1) 32 #[.slice AC' nc' cC',.slice AI' ni' cI',.slice AO' no' cO']:=by rw[aF];exact Blk.new' (by simp) _ _
 have a9:=aA K1;have bI:=aA K2;have aO:=aA aG;clear aF aG K1 K2;obtain⟨aL,aJ,aK⟩:=a9.out.open_;obtain⟨eL,eC,eF⟩:=bI.out.open_;go_wp2_with fail;refine(HC.out w1 aO.out).mono ?_;rintro en w2 ⟨rfl,hb2⟩;have aP:=aA (aO.out.next hb2);have Lq:=aA (a9.out.next hb2);have Lt:=aA (bI.out.next hb2);clear aJ aL aK eC eL eF hb2;obtain⟨aL,aJ,aK⟩:=Lq.out.open_;obtain⟨eL,eC,eF⟩:=Lt.out.open_;cases r1
 ·go_wp2_with fail
  go_ret;exact⟨rfl,aP.out⟩
 go_wp2_with fail;refine(G7.out w2 aP.out).mono ?_;rintro en w3 ⟨rfl,aT⟩;have bD:=aA (aP.out.next aT);have Lr:=aA (Lq.out.next aT);have Lu:=aA (Lt.out.next aT);clear aJ aL aK eC eL eF aT;obtain⟨aL,aJ,aK⟩:=Lr.out.open_;obtain⟨eL,eC,eF⟩:=Lu.out.open_;cases r2
 ·go_wp2_with fail
  go_ret;exact⟨rfl,bD.out⟩
 go_wp2_with fail;refine(HOU.out w3 bD.out).mono ?_;rintro en w4 ⟨rfl,bV⟩;have dQ:=aA (bD.out.next bV);clear aJ aL aK eC eL eF bV;go_wp2_with fail;go_ret;exact⟨by simp,dQ.out⟩
theorem iV(n:Int)(w:World):Calls Tryz.prog 14 #[.int .i64 n] w fun e w'=>(∃vC,e=.returned (.agg #[vC,.slice none 0 0,.slice none 0 0])∧SW w' (fun k=>w.heap.size<=k∧k<w'.heap.size) vC (.slice none 0 0) (.slice none 0 0) [[n]] [] [])∧Below w.heap.size w w':=by
 go_enter Tryz.func14,Tryz.ntmps14;go_upto_region 1 with fail;refine aB ?_;intro w1 aF;have aG:Below w.heap.size w w1:=by rw[aF];go_grown
 have K1:Blk w1 w.heap.size 32 #[.slice none 0 0,.slice none 0 0,.slice none 0 0]:=by rw[aF];exact aQ
 have a9:=aA K1;have aO:=aA aG;have vV:w.heap.size<w1.heap.size:=K1.lt;clear aF aG;obtain⟨aL,aJ,aK⟩:=K1.open_;clear K1;go_wp2_with fail;have fin:∀W,Blk W (w1.heap.size+1) 30 #[.slice (some ⟨w1.heap.size,0,none⟩) 1 1]->Blk W w1.heap.size 3 #[.int .i64 n]->Below w.heap.size w W->(∃vC,Ending.returned (.agg #[.slice (some ⟨w1.heap.size+1,0,none⟩) 1 1,.slice none 0 0,.slice none 0 0])=.returned (.agg #[vC,.slice none 0 0,.slice none 0 0])∧SW W (fun k=>w.heap.size<=k∧k<W.heap.size) vC (.slice none 0 0) (.slice none 0 0) [[n]] [] [])∧Below w.heap.size w W:=fun W h1 h2 h3=>by
  have hD:∀{g:Nat}{u:Value}{t:TypeId},Blk W g t #[u]->w.heap.size<=g->Sl W (fun k=>w.heap.size<=k∧k<W.heap.size) 1 (.slice (some ⟨g,0,none⟩) 1 1) 1 [u]:=fun{g u t} h hg=>
   ⟨_,1,rfl,aH _,(fun e=>by cases e),rfl,fun _=>⟨g,0,rfl,⟨hg,h.lt⟩,fun j v hv=>by
    match j,hv with
    |0,hv=>simp at hv;subst hv;exact h.cell 0⟩⟩
  refine⟨⟨_,rfl,⟨⟨[.slice (some ⟨w1.heap.size,0,none⟩) 1 1],hD h1 (by omega),fun i v l hv hl=>?_⟩,Sl.nil,Sl.nil⟩⟩,h3⟩
  match i,hv,hl with
  |0,hv,hl=>
   simp at hv hl;subst hv;subst hl;exact hD h2 (by omega)
 have K9:=((a9.out.set_ 0 (.slice (some ⟨w1.heap.size+1,0,none⟩) 1 1)).set_ 1 (.slice none 0 0)).set_ 2 (.slice none 0 0);refine bodyPost_ret_by (results_cell_row rfl _ _ w.heap.size 32 #[.slice (some ⟨w1.heap.size+1,0,none⟩) 1 1,.slice none 0 0,.slice none 0 0] _ _ rfl (show Blk _ w.heap.size 32 #[.slice (some ⟨w1.heap.size+1,0,none⟩) 1 1,.slice none 0 0,.slice none 0 0]from Blk.alloc (Blk.alloc (by simpa using K9) _) _) Tryz.underlying32 rfl (by rw[mW];rfl)) rfl ?_;exact fin _ (Blk.new' (by simp) _ _) (Blk.alloc (Blk.new' (by simp) _ _) _) ((((((aO.out.setCell (aH _) _).setCell (aH _) _).setCell (aH _) _).alloc (by simp;omega) _).alloc (by simp;omega) _))
end Go.Proofs.YtakfdnnlhjhcfaaGreatDoor
