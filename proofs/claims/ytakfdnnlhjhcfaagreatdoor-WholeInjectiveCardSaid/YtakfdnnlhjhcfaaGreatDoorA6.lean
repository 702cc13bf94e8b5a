/- Part of the proof. -/
import Derived.Test.YtakfdnnlhjhcfaaGreatDoorA4
import Derived.Test.YtakfdnnlhjhcfaaGreatDoorA5
set_option linter.unusedVariables false
set_option linter.unusedSimpArgs false
namespace Bk
open Go Go.RowKit
def Sq.len:Sq->Nat
 |.nil=>0
 |.upd _ _ _ r|.swp _ _ r|.stk _ _ _ r|.tap _ _ r|.cal _ _ _ r|.ifs _ _ _ _ r|.frm _ _ _ _ r|.loc _ _ _ _ r|.lst _ _ r=>r.len+1
def Sq.tl:Sq->Sq
 |.nil=>.nil
 |.upd _ _ _ r|.swp _ _ r|.stk _ _ _ r|.tap _ _ r|.cal _ _ _ r|.ifs _ _ _ _ r|.frm _ _ _ _ r|.loc _ _ _ _ r|.lst _ _ r=>r
def Sq.drop:Nat->Sq->Sq
 |0,s=>s
 |n+1,s=>Sq.drop n s.tl
def Sq.put:Sq->Sq->Sq
 |.nil,_=>.nil
 |.upd a b c _,r=>.upd a b c r
 |.swp a b _,r=>.swp a b r
 |.stk a b c _,r=>.stk a b c r
 |.tap a b _,r=>.tap a b r
 |.cal a b c _,r=>.cal a b c r
 |.ifs a b c d _,r=>.ifs a b c d r
 |.frm a b c d _,r=>.frm a b c d r
 |.loc a b c d _,r=>.loc a b c d r
 |.lst a b _,r=>.lst a b r
theorem Sq.len_tl(s:Sq):s.len=0∨s.len=s.tl.len+1:=by cases s<;>simp[Sq.len,Sq.tl]
theorem Sq.drop_tl:∀(n:Nat)(s:Sq),(Sq.drop n s).tl=Sq.drop (n+1) s
 |0,s=>rfl
 |n+1,s=>Sq.drop_tl n s.tl
theorem Sq.len_drop:∀(n:Nat)(s:Sq),(Sq.drop n s).len=s.len-n
 |0,s=>rfl
 |n+1,s=>by
  show(Sq.drop n s.tl).len=_;rw[Sq.len_drop n s.tl];rcases s.len_tl with h|h
  ·have:s.tl.len=0:=by cases s<;>simp_all[Sq.len,Sq.tl]
   omega
  ·omega
theorem Sq.nil_of_len{s:Sq}(h:s.len=0):s=.nil:=by cases s<;>simp_all[Sq.len]
def jB(procs:List Pr)(n:Nat)(inner:Bool->Sq->Mo)(back:Bool):Sq->Mo
 |.nil=>xM
 |.upd op p e _=>eM (lW (if back then dH op else op) p e)
 |.swp p q _=>eM (mF p q)
 |.stk op s p _=>eM (kZ (if back then dH op else op) s p)
 |.tap op p _=>eM (lA (if back then dH op else op) p)
 |.cal op s ss _=>p8 procs inner (back !=decide (op=51)) s ss
 |.ifs e a b e' _=>fF (if back then e' else e) fun t=>(inner back (if t then a else b)).seq (bF (if back then e else e') t)
 |.frm e a b e' _=>(bF (if back then e' else e) true).seq (iB (inner back a) (inner back b) (if back then e' else e) (if back then e else e') n)
 |.loc x e b e' _=>PO.seq ((b8 (if back then e' else e) fun v=>liftM (cX ⟨x,1,0⟩ [v])).seq ((inner back b).seq (PO.seq (b8 (if back then e else e') fun v=>liftM (bU x v)))))
 |.lst x b _=>PO.seq ((liftM (cX ⟨x,3,0⟩ [])).seq ((inner back b).seq (PO.seq (liftM (bU x 0)))))
theorem M7(procs:List Pr)(n:Nat)(inner:Bool->Sq->Mo)(back:Bool)(s:Sq)(h:0<s.len):execS procs n inner back s=put back (jB procs n inner back s) (execS procs n inner back s.tl):=by
 cases s<;>first|rfl|exact absurd h (Nat.lt_irrefl 0)
theorem Mo.ok_seq(a:Mo):xM.seq a=a:=rfl
theorem Mo.seq_ok(a:Mo):a.seq xM=a:=by
 funext σ f;unfold Mo.seq xM;cases a σ f<;>rfl
def sP(procs:List Pr)(n:Nat)(inner:Bool->Sq->Mo)(s:Sq):Nat->Mo
 |0=>xM
 |j+1=>(jB procs n inner true (s.drop j)).seq (sP procs n inner s j)
theorem I3(procs:List Pr)(n:Nat)(inner:Bool->Sq->Mo)(s:Sq):∀j,sP procs n inner s (j+1)=(sP procs n inner s.tl j).seq (jB procs n inner true s)
 |0=>by simp only[sP,Sq.drop];rw[Mo.seq_ok,Mo.ok_seq]
 |j+1=>by
  rw[sP,I3 procs n inner s j,sP,Mo.seq_assoc];rfl
theorem vG(procs:List Pr)(n:Nat)(inner:Bool->Sq->Mo):∀(k:Nat)(s:Sq),s.len=k->execS procs n inner true s=sP procs n inner s k
 |0,s,h=>by rw[Sq.nil_of_len h];rfl
 |k+1,s,h=>by
  have h1:s.tl.len=k:=by rcases s.len_tl with h2|h2<;>omega
  rw[M7 _ _ _ _ _ (by omega),vG procs n inner k s.tl h1,I3];rfl
def Ex.isPl:Ex->Prop
 |.var _|.item _ _=>True
 |_=>False
open Go.Proofs.YtakfdnnlhjhcfaaGreatDoor in
def StAt(w:World)(B:Nat):Nat->Sq->Nd->Prop
 |0,_,_=>False
 |d+1,s,x=>
  let BL:=fun(s:Sq)(x:Nd)=>x.k=57∧x.n=s.len∧∀i,i<s.len->∃y,Kid w B x i y∧StAt w B d (s.drop i) y
  match s with
  |.nil=>False
  |.upd op p e _=>x.k=op∧(op=40∨op=41∨op=42∨op=56)∧d7 x=true∧x.n=2∧p.isPl∧∃y z,Kid w B x 0 y∧Kid w B x 1 z∧EV w B aS p y∧EV w B aS e z
  |.swp p q _=>x.k=43∧d7 x=true∧x.n=2∧p.isPl∧q.isPl∧∃y z,Kid w B x 0 y∧Kid w B x 1 z∧EV w B aS p y∧EV w B aS q z
  |.stk op s p _=>x.k=op∧(op=44∨op=45)∧x.num=0∧x.nm=s∧aS s=true∧x.n=1∧p.isPl∧∃y,Kid w B x 0 y∧EV w B aS p y
  |.tap op p _=>x.k=op∧(op=46∨op=47∨op=48∨op=49)∧d7 x=true∧x.n=1∧p.isPl∧∃y,Kid w B x 0 y∧EV w B aS p y
  |.cal op s args _=>x.k=op∧(op=50∨op=51)∧x.nm=s∧aS s=true∧x.n=args.length∧x.n<=8∧∀i a,args[i]?=some a->∃y,Kid w B x i y∧EV w B aS (.var a) y
  |.ifs e a b e' _=>x.k=52∧x.n=4∧∃y0 y1 y2 y3,Kid w B x 0 y0∧Kid w B x 1 y1∧Kid w B x 2 y2∧Kid w B x 3 y3∧EV w B aS e y0∧BL a y1∧BL b y2∧EV w B aS e' y3
  |.frm e a b e' _=>x.k=53∧x.n=4∧∃y0 y1 y2 y3,Kid w B x 0 y0∧Kid w B x 1 y1∧Kid w B x 2 y2∧Kid w B x 3 y3∧EV w B aS e y0∧BL a y1∧BL b y2∧EV w B aS e' y3
  |.loc v e b e' _=>x.k=54∧x.nm=v∧x.n=3∧∃y0 y1 y2,Kid w B x 0 y0∧Kid w B x 1 y1∧Kid w B x 2 y2∧EV w B aS e y0∧BL b y1∧EV w B aS e' y2
  |.lst v b _=>x.k=55∧x.nm=v∧x.n=1∧∃y0,Kid w B x 0 y0∧BL b y0
def SqAt(w:World)(B d:Nat)(s:Sq)(x:Nd):Prop:=x.k=57∧x.n=s.len∧∀i,i<s.len->∃y,Kid w B x i y∧StAt w B d (s.drop i) y
theorem StAt.up{w:World}{B:Nat}:∀(d:Nat)(s:Sq)(x:Nd),StAt w B d s x->StAt w B (d+1) s x
 |0,_,_,h=>h.elim
 |d+1,s,x,h=>by
  have up:=fun(s:Sq)(y:Nd)(h:SqAt w B d s y)=>(⟨h.1,h.2.1,fun i hi=>let ⟨z,a,b⟩:=h.2.2 i hi;⟨z,a,StAt.up d _ _ b⟩⟩:SqAt w B (d+1) s y)
  cases s with
  |ifs e a b e' r=>obtain⟨h1,h2,y0,y1,y2,y3,k0,k1,k2,k3,v0,v1,v2,v3⟩:=h;exact⟨h1,h2,y0,y1,y2,y3,k0,k1,k2,k3,v0,up _ _ v1,up _ _ v2,v3⟩
  |frm e a b e' r=>obtain⟨h1,h2,y0,y1,y2,y3,k0,k1,k2,k3,v0,v1,v2,v3⟩:=h;exact⟨h1,h2,y0,y1,y2,y3,k0,k1,k2,k3,v0,up _ _ v1,up _ _ v2,v3⟩
  |loc v e b e' r=>obtain⟨h1,h2,h3,y0,y1,y2,k0,k1,k2,v0,v1,v2⟩:=h;exact⟨h1,h2,h3,y0,y1,y2,k0,k1,k2,v0,up _ _ v1,v2⟩
  |lst v b r=>obtain⟨h1,h2,h3,y0,k0,v0⟩:=h;exact⟨h1,h2,h3,y0,k0,up _ _ v0⟩
  |_=>exact h
theorem SqAt.up{w:World}{B d:Nat}{s:Sq}{x:Nd}(h:SqAt w B d s x):SqAt w B (d+1) s x:=⟨h.1,h.2.1,fun i hi=>let ⟨z,a,b⟩:=h.2.2 i hi;⟨z,a,StAt.up _ _ _ b⟩⟩
theorem StAt.put{w:World}{B d:Nat}{s:Sq}{x:Nd}(h:StAt w B d s x)(r:Sq):StAt w B d (s.put r) x:=by
 cases d with
 |zero=>exact h
 |succ d=>cases s<;>exact h
theorem StAt.pos{w:World}{B d:Nat}{s:Sq}{x:Nd}(h:StAt w B d s x):0<s.len:=by
 cases d with
 |zero=>exact h.elim
 |succ d=>cases s<;>first|exact h.elim|exact Nat.succ_pos _
theorem Sq.put_len{s:Sq}(h:0<s.len)(r:Sq):(s.put r).len=r.len+1∧(s.put r).tl=r:=by
 cases s<;>first|exact absurd h (Nat.lt_irrefl 0)|exact⟨rfl,rfl⟩
def R0(f:Nat->Sq):Nat->Nat->Sq
 |_,0=>.nil
 |i,k+1=>(f i).put (R0 f (i+1) k)
theorem wB{f:Nat->Sq}:∀(k i:Nat),(∀j,i<=j->j<i+k->0<(f j).len)->(R0 f i k).len=k
 |0,_,_=>rfl
 |k+1,i,h=>by
  rw[R0,(Sq.put_len (h i (aH _) (by omega)) _).1,wB k (i+1) fun j h1 h2=>h j (by omega) (by omega)]
theorem yW{f:Nat->Sq}:∀(j k i:Nat),j<k->(∀m,i<=m->m<i+k->0<(f m).len)->(R0 f i k).drop j=(f (i+j)).put (R0 f (i+j+1) (k-j-1))
 |0,k,i,hj,h=>by
  obtain⟨k,rfl⟩:∃k',k=k'+1:=⟨k-1,by omega⟩;rfl
 |j+1,k,i,hj,h=>by
  obtain⟨k,rfl⟩:∃k',k=k'+1:=⟨k-1,by omega⟩;show Sq.drop j (R0 f i (k+1)).tl=_;rw[R0,(Sq.put_len (h i (aH _) (by omega)) _).2,yW j k (i+1) (by omega) fun m h1 h2=>h m (by omega) (by omega)];rw[show i+1+j=i+(j+1) by omega,show k-j-1=k+1-(j+1)-1 by omega]
theorem ZY{w:World}{B d:Nat}{x:Nd}(hk:x.k=57)(h:∀i,i<x.n->∃y s,Kid w B x i y∧StAt w B d s y):∃s,SqAt w B d s x:=by
 have hc:∀i,∃s:Sq,i<x.n->∃y,Kid w B x i y∧StAt w B d s y:=fun i=>by
  by_cases hi:i<x.n
  ·obtain⟨y,s,h1,h2⟩:=h i hi;exact⟨s,fun _=>⟨y,h1,h2⟩⟩
  ·exact⟨.nil,fun h=>absurd h hi⟩
 obtain⟨f,hf⟩:∃f:Nat->Sq,∀i,i<x.n->∃y,Kid w B x i y∧StAt w B d (f i) y:=⟨fun i=>Classical.choose (hc i),fun i=>Classical.choose_spec (hc i)⟩;have hp:∀m,0<=m->m<0+x.n->0<(f m).len:=fun m _ hm=>by obtain⟨y,_,h2⟩:=hf m (by omega);exact h2.pos
 refine⟨R0 f 0 x.n,hk,(wB x.n 0 hp).symm,fun i hi=>?_⟩;rw[wB x.n 0 hp]at hi;obtain⟨y,h1,h2⟩:=hf i hi;refine⟨y,h1,?_⟩;rw[yW i x.n 0 hi hp,Nat.zero_add];exact h2.put _
open Go.Proofs.YtakfdnnlhjhcfaaGreatDoor
theorem mP{w:World}{B:Nat}{x:Nd}(h:j8 w B x=true):∃e,EV w B aS e x:=by simp[j8]at h;exact h
theorem wF{w:World}{B:Nat}{x:Nd}(h:oU w B x=true):∃e,EV w B aS e x∧e.isPl:=by
 unfold oU at h;simp only[Bool.and_eq_true,Bool.or_eq_true,decide_eq_true_eq]at h;obtain⟨hk,h2⟩:=h;obtain⟨e,he⟩:=mP h2;refine⟨e,he,?_⟩;cases e with
 |var s=>trivial
 |item s a=>trivial
 |num v=>have:=he.1;omega
 |top s=>have:=he.1;omega
 |size s=>have:=he.1;omega
 |un op a=>have h3:=he.1;have h4:=he.2.1;omega
 |bin op a b=>have h3:=he.1;have h4:=he.2.1;omega
theorem XN{w:World}{B:Nat}{x:Nd}(h:T4 w B x=true):EV w B aS (.var x.nm) x:=by
 unfold T4 at h;simp only[Bool.and_eq_true,decide_eq_true_eq]at h;obtain⟨hk,h2⟩:=h;obtain⟨e,he⟩:=mP h2;cases e with
 |var s=>obtain⟨h3,h4,h5,h6,h7⟩:=he;exact⟨h3,h4,rfl,by rw[h5];exact h6,h7⟩
 |num v=>have:=he.1;omega
 |item s a=>have:=he.1;omega
 |top s=>have:=he.1;omega
 |size s=>have:=he.1;omega
 |un op a=>have h3:=he.1;have h4:=he.2.1;omega
 |bin op a b=>have h3:=he.1;have h4:=he.2.1;omega
theorem cQ{r:Nat->Bool}:∀{n:Nat},bX r n=true->∀i,i<n->r i=true
 |0,_,i,hi=>absurd hi (Nat.not_lt_zero _)
 |n+1,h,i,hi=>by
  simp only[bX,Bool.and_eq_true]at h;rcases Nat.lt_succ_iff_lt_or_eq.1 hi with h1|rfl
  ·exact cQ h.1 i h1
  ·exact h.2
theorem mL{r:Nat->Bool}:∀{n:Nat},(∀i,i<n->r i=true)->bX r n=true
 |0,_=>rfl
 |n+1,h=>by simp only[bX,Bool.and_eq_true];exact⟨mL fun i hi=>h i (by omega),h n (by omega)⟩
mutual
theorem ZZ{w:World}{B:Nat}:∀(d:Nat)(x:Nd),KV w B d x->D3 w B d x=true->∃s,StAt w B d s x
 |0,_,h,_=>h.elim
 |d+1,x,hv,h=>by
  unfold D3 at h;have K:∀i,i<x.n->Kid w B x i (bO w B x i)∧KV w B d (bO w B x i):=fun i hi=>bE hv hi
  dsimp only at h;split at h
  ·rename_i hk
   simp only[Bool.and_eq_true,decide_eq_true_eq]at h;obtain⟨hp,hn,ha⟩:=h;have a0:=cQ ha 0 (by omega);have a1:=cQ ha 1 (by omega);simp at a0 a1;obtain⟨p,h1,h2⟩:=wF a0;obtain⟨e,h3⟩:=mP a1;exact⟨.upd x.k p e .nil,rfl,hk,hp,hn,h2,_,_,(K 0 (by omega)).1,(K 1 (by omega)).1,h1,h3⟩
  split at h
  ·rename_i hk
   simp only[Bool.and_eq_true,decide_eq_true_eq]at h;obtain⟨hp,hn,ha⟩:=h;obtain⟨p,h1,h2⟩:=wF (cQ ha 0 (by omega));obtain⟨q,h3,h4⟩:=wF (cQ ha 1 (by omega));exact⟨.swp p q .nil,hk,hp,hn,h2,h4,_,_,(K 0 (by omega)).1,(K 1 (by omega)).1,h1,h3⟩
  split at h
  ·rename_i hk
   simp only[Bool.and_eq_true,decide_eq_true_eq,jE]at h;obtain⟨⟨NZ,RA⟩,hn,ha⟩:=h;obtain⟨p,h1,h2⟩:=wF (cQ ha 0 (by omega));exact⟨.stk x.k x.nm p .nil,rfl,hk,NZ,rfl,RA,hn,h2,_,(K 0 (by omega)).1,h1⟩
  split at h
  ·rename_i hk
   simp only[Bool.and_eq_true,decide_eq_true_eq]at h;obtain⟨hp,hn,ha⟩:=h;obtain⟨p,h1,h2⟩:=wF (cQ ha 0 (by omega));exact⟨.tap x.k p .nil,rfl,hk,hp,hn,h2,_,(K 0 (by omega)).1,h1⟩
  split at h
  ·rename_i hk
   simp only[Bool.and_eq_true,decide_eq_true_eq,jE]at h;obtain⟨⟨NZ,RA⟩,hn,ha⟩:=h;refine⟨.cal x.k x.nm ((List.range x.n).map fun i=>(bO w B x i).nm) .nil,rfl,hk,rfl,RA,by simp,hn,fun i a wR=>?_⟩;have hi:i<x.n:=by have:=(lgS.1 wR).1;simpa using this
   simp[List.getElem?_range hi]at wR;subst wR;exact⟨_,(K i hi).1,XN (cQ ha i hi)⟩
  split at h
  ·rename_i hk
   simp only[Bool.and_eq_true,decide_eq_true_eq]at h;obtain⟨hp,hn,ha⟩:=h;have a0:=cQ ha 0 (by omega);have a1:=cQ ha 1 (by omega);have a2:=cQ ha 2 (by omega);have a3:=cQ ha 3 (by omega);simp at a0 a1 a2 a3;obtain⟨e,h1⟩:=mP a0;obtain⟨e',h2⟩:=mP a3;obtain⟨s1,h3⟩:=CP d _ (K 1 (by omega)).2 a1;obtain⟨s2,h4⟩:=CP d _ (K 2 (by omega)).2 a2;rcases hk with hk|hk
   ·exact⟨.ifs e s1 s2 e' .nil,hk,hn,_,_,_,_,(K 0 (by omega)).1,(K 1 (by omega)).1,(K 2 (by omega)).1,(K 3 (by omega)).1,h1,h3,h4,h2⟩
   ·exact⟨.frm e s1 s2 e' .nil,hk,hn,_,_,_,_,(K 0 (by omega)).1,(K 1 (by omega)).1,(K 2 (by omega)).1,(K 3 (by omega)).1,h1,h3,h4,h2⟩
  split at h
  ·rename_i hk
   simp only[Bool.and_eq_true,decide_eq_true_eq]at h;obtain⟨hp,hn,ha⟩:=h;have a0:=cQ ha 0 (by omega);have a1:=cQ ha 1 (by omega);have a2:=cQ ha 2 (by omega);simp at a0 a1 a2;obtain⟨e,h1⟩:=mP a0;obtain⟨e',h2⟩:=mP a2;obtain⟨s1,h3⟩:=CP d _ (K 1 (by omega)).2 a1;exact⟨.loc x.nm e s1 e' .nil,hk,rfl,hn,_,_,_,(K 0 (by omega)).1,(K 1 (by omega)).1,(K 2 (by omega)).1,h1,h3,h2⟩
  split at h
  ·rename_i hk
   simp only[Bool.and_eq_true,decide_eq_true_eq]at h;obtain⟨hp,hn,ha⟩:=h;obtain⟨s1,h3⟩:=CP d _ (K 0 (by omega)).2 (cQ ha 0 (by omega));exact⟨.lst x.nm s1 .nil,hk,rfl,hn,_,(K 0 (by omega)).1,h3⟩
  ·cases h
theorem CP{w:World}{B:Nat}:∀(d:Nat)(x:Nd),KV w B d x->p7 w B d x=true->∃s,SqAt w B d s x
 |0,_,h,_=>h.elim
 |d+1,x,hv,h=>by
  unfold p7 at h;simp only[Bool.and_eq_true,decide_eq_true_eq]at h;obtain⟨hk,_,ha⟩:=h;obtain⟨s,h1,h2,h3⟩:=ZY (d:=d) hk fun i hi=>by
   obtain⟨h1,h2⟩:=bE hv hi;obtain⟨s,h3⟩:=ZZ d _ h2 (cQ ha i hi);exact⟨_,s,h1,h3⟩
  refine⟨s,h1,h2,fun i hi=>?_⟩;obtain⟨y,h4,h5⟩:=h3 i hi;exact⟨y,h4,StAt.up _ _ _ h5⟩
end
end Bk
namespace Bk
open Go (bits BinOp IntKind)
open Go.RowKit (wrap64)
def I64(x:Int):Prop:= -9223372036854775808<=x∧x<=9223372036854775807
theorem eK(x:Int):I64 (wrap64 x):=by unfold I64 wrap64;constructor<;>omega
theorem D7{x y:Int}(h:I64 x):wrap64 (wrap64 (x+y)-y)=x:=by unfold I64 at h;unfold wrap64;omega
theorem D8{x y:Int}(h:I64 x):wrap64 (wrap64 (x-y)+y)=x:=by unfold I64 at h;unfold wrap64;omega
theorem jJ(b:BitVec 64):IntKind.i64.wrap (b.toNat:Int)=b.toInt:=by
 have h:=b.isLt;rw[BitVec.toInt_eq_toNat_cond];simp[IntKind.wrap,IntKind.bits,IntKind.signed];split<;>split<;>omega
theorem m9(b:BitVec 64):I64 b.toInt:=by
 have h1:=BitVec.le_toInt b;have h2:=BitVec.toInt_lt (x:=b);unfold I64;simp at h1 h2;omega
theorem XP{x y:Int}(h:I64 x):lD (lD x y) y=x:=by
 show IntKind.i64.wrap ((BitVec.ofInt 64 (IntKind.i64.wrap ((BitVec.ofInt 64 x^^^BitVec.ofInt 64 y).toNat:Int))^^^BitVec.ofInt 64 y).toNat:Int)=x;rw[jJ (BitVec.ofInt 64 x^^^BitVec.ofInt 64 y),BitVec.ofInt_toInt,BitVec.xor_assoc,BitVec.xor_self,BitVec.xor_zero,jJ,BitVec.toInt_ofInt];unfold I64 at h;simp[Int.bmod];omega
theorem zD(x y:Int):I64 (lD x y):=by
 show I64 (IntKind.i64.wrap ((BitVec.ofInt 64 x^^^BitVec.ofInt 64 y).toNat:Int));rw[jJ];exact m9 _
end Bk
namespace Bk
open Go.RowKit (wrap64)
def Ex.has(s:ByteArray):Ex->Bool
 |.num _=>false
 |.var t|.top t|.size t=>t.toList==s.toList
 |.item t a=>t.toList==s.toList||a.has s
 |.un _ a=>a.has s
 |.bin _ a b=>a.has s||b.has s
def Ex.ih(s:ByteArray):Ex->Bool
 |.item _ a=>a.has s
 |_=>false
def Ex.rng:Ex->Prop
 |.num v=>I64 v
 |.var _|.top _|.size _=>True
 |.item _ a=>a.rng
 |.un _ a=>a.rng
 |.bin _ a b=>a.rng∧b.rng
theorem Ex.has_congr{s t:ByteArray}(h:(s.toList==t.toList)=true):∀e:Ex,e.has s=e.has t:=by
 have h':s.toList=t.toList:=by simpa using h
 intro e
 induction e with
 |num v=>rfl
 |var u=>simp only[Ex.has,h']
 |top u=>simp only[Ex.has,h']
 |size u=>simp only[Ex.has,h']
 |item u a ih=>simp only[Ex.has,h',ih]
 |un op a ih=>simp only[Ex.has,ih]
 |bin op a b iha ihb=>simp only[Ex.has,iha,ihb]
theorem Ex.ih_congr{s t:ByteArray}(h:(s.toList==t.toList)=true)(e:Ex):e.ih s=e.ih t:=by
 cases e<;>first|rfl|exact Ex.has_congr h _
theorem jR{look look':ByteArray->Option (List Int)}:∀e:Ex,(∀t,e.has t=true->look' t=look t)->aX look' e=aX look e:=by
 intro e
 induction e with
 |num v=>intro _;rfl
 |var u=>intro h;simp only[aX,h u (by simp[Ex.has])]
 |top u=>intro h;simp only[aX,h u (by simp[Ex.has])]
 |size u=>intro h;simp only[aX,h u (by simp[Ex.has])]
 |item u a ih=>intro h;simp only[aX,h u (by simp[Ex.has]),ih fun t ht=>h t (by simp[Ex.has,ht])]
 |un op a ih=>intro h;simp only[aX,ih fun t ht=>h t (by simp[Ex.has,ht])]
 |bin op a b iha ihb=>intro h;simp only[aX,iha fun t ht=>h t (by simp[Ex.has,ht]),ihb fun t ht=>h t (by simp[Ex.has,ht])]
theorem gG{look look':ByteArray->Option (List Int)}(e:Ex)(h:∀t,e.ih t=true->look' t=look t):c9 look' e=c9 look e:=by
 cases e<;>first|rfl|exact jR _ h
structure Inv(σ:PSt):Prop where
 ok:∃kd m,σ.Ok kd m
 nd:σ.cur.idx.Nodup
 rc:∀l,l∈σ.cells->∀v,v∈l->I64 v
 ri:∀v,v∈σ.inp->I64 v
 ro:∀v,v∈σ.out->I64 v
theorem Inv.name{σ:PSt}(h:Inv σ){s t:ByteArray}{c:Nat}(hs:σ.at_ s=some c)(ht:σ.at_ t=some c):(t.toList==s.toList)=true:=by
 obtain⟨kd,m,ho⟩:=h.ok;unfold PSt.at_ at hs ht;cases h1:bK s σ.cur.vars with
 |none=>rw[h1]at hs;cases hs
 |some i=>
  cases h2:bK t σ.cur.vars with
  |none=>rw[h2]at ht;cases ht
  |some j=>
   obtain⟨v1,c1,l1,a1,b1,_,_,_,_⟩:=ho.find h1;obtain⟨v2,c2,l2,a2,b2,_,_,_,_⟩:=ho.find h2;obtain⟨u1,g1,n1⟩:=fE h1;obtain⟨u2,g2,n2⟩:=fE h2;rw[h1]at hs;rw[h2]at ht;simp[eX,b1]at hs;simp[eX,b2]at ht;subst hs;subst ht;obtain⟨Uu,hi2⟩:=lgS.1 b1;obtain⟨hj1,ZJ⟩:=lgS.1 b2;have:i=j:=(List.getElem_inj (h₀:=Uu) (h₁:=hj1) h.nd).1 (by rw[hi2,ZJ]);subst this;rw[g1]at g2;injection g2 with g2;subst g2;have e1:u1.nm.toList=s.toList:=by simpa using n1
   have e2:u1.nm.toList=t.toList:=by simpa using n2
   simp[<-e1,<-e2]
def PSt.upd(σ:PSt)(cs:List (List Int))(a b:List Int):PSt:={σ with cells:=cs,inp:=a,out:=b}
theorem PSt.upd_look(σ:PSt)(cs:List (List Int))(a b:List Int)(t:ByteArray):(σ.upd cs a b).look t=(σ.at_ t).map fun c=>cs.getD c []:=rfl
structure At(σ:PSt)(s:ByteArray)(c:Nat)(l:List Int):Prop where
 at_:σ.at_ s=some c
 cell:σ.cells[c]?=some l
theorem At.look{σ:PSt}{s:ByteArray}{c:Nat}{l:List Int}(h:At σ s c l):σ.look s=some l:=by
 unfold PSt.look;rw[h.at_];simp[eX,h.cell]
theorem At.len{σ:PSt}{s:ByteArray}{c:Nat}{l:List Int}(h:At σ s c l):σ.len s=l.length:=by unfold PSt.len;rw[h.look];rfl
theorem At.read{σ:PSt}{s:ByteArray}{c:Nat}{l:List Int}(h:At σ s c l)(i:Nat):σ.read s i=l.getD i 0:=by unfold PSt.read;rw[h.look];rfl
theorem At.write{σ:PSt}{s:ByteArray}{c:Nat}{l:List Int}(h:At σ s c l)(i:Nat)(v:Int):σ.write s i v=σ.upd (σ.cells.set c (l.set i v)) σ.inp σ.out:=by
 unfold PSt.write;rw[h.at_];simp[eX,h.cell,PSt.upd]
theorem At.setCell{σ:PSt}{s:ByteArray}{c:Nat}{l:List Int}(h:At σ s c l)(l':List Int):σ.setCell s l'=σ.upd (σ.cells.set c l') σ.inp σ.out:=by
 unfold PSt.setCell;rw[h.at_];rfl
theorem At.upd{σ:PSt}{s:ByteArray}{c:Nat}{l:List Int}(h:At σ s c l){cs:List (List Int)}{l':List Int}(hc:cs[c]?=some l')(a b:List Int):At (σ.upd cs a b) s c l':=⟨h.at_,hc⟩
theorem At.lt{σ:PSt}{s:ByteArray}{c:Nat}{l:List Int}(h:At σ s c l):c<σ.cells.length:=(lgS.1 h.cell).1
theorem At.rng{σ:PSt}{s:ByteArray}{c:Nat}{l:List Int}(h:At σ s c l)(hi:Inv σ):∀v,v∈l->I64 v:=hi.rc l (List.mem_of_getElem? h.cell)
theorem I64.zero:I64 0:=by unfold I64;omega
theorem i9{l:List Int}(h:∀v,v∈l->I64 v)(i:Nat):I64 (l.getD i 0):=by
 rw[eX];cases hi:l[i]? with
 |none=>exact I64.zero
 |some v=>exact h v (List.mem_of_getElem? hi)
theorem Inv.use{σ:PSt}(h:Inv σ){s:ByteArray}{k:Int}(hu:dT σ.cur.vars s k=0):∃c l,At σ s c l∧l.length<=1000:=by
 obtain⟨kd,m,ho⟩:=h.ok;obtain⟨i,c,l,h1,h2,h3,h4,h5,h6⟩:=ho.use hu;exact⟨c,l,⟨h5,h3⟩,(ho.one c l h3).2⟩
theorem Inv.look{σ:PSt}(h:Inv σ){s s' t:ByteArray}{c d:Nat}(hs:σ.at_ s=some c)(hs':σ.at_ s'=some d)(n1:(t.toList==s.toList)=false)(n2:(t.toList==s'.toList)=false){cs:List (List Int)}(hcs:∀n,n≠c->n≠d->cs[n]?=σ.cells[n]?)(a b:List Int):(σ.upd cs a b).look t=σ.look t:=by
 rw[PSt.upd_look];unfold PSt.look;cases ht:σ.at_ t with
 |none=>rfl
 |some e=>
  have e1:e≠c:=fun x=>by subst x;rw[h.name hs ht]at n1;cases n1
  have e2:e≠d:=fun x=>by subst x;rw[h.name hs' ht]at n2;cases n2
  simp only[Option.map_some,eX,hcs e e1 e2]
structure Kp(σ σ':PSt):Prop where
 inv:Inv σ'
 base:σ'.base=σ.base
 calls:σ'.calls=σ.calls
 size:σ.cells.length<=σ'.cells.length
theorem Kp.cur{σ σ':PSt}(h:Kp σ σ'):σ'.cur=σ.cur:=by unfold PSt.cur;rw[h.base,h.calls]
theorem Kp.refl{σ:PSt}(h:Inv σ):Kp σ σ:=⟨h,rfl,rfl,aH _⟩
theorem Kp.trans{a b c:PSt}(h:Kp a b)(h':Kp b c):Kp a c:=⟨h'.inv,h'.base.trans h.base,h'.calls.trans h.calls,fC h.size h'.size⟩
theorem Kp.upd{σ:PSt}(h:Inv σ){cs:List (List Int)}{a b:List Int}(ho:∃kd m,(σ.upd cs a b).Ok kd m)(hn:cs.length=σ.cells.length)(hc:∀l,l∈cs->∀v,v∈l->I64 v)(ha:∀v,v∈a->I64 v)(hb:∀v,v∈b->I64 v):Kp σ (σ.upd cs a b):=
 ⟨⟨ho,h.nd,hc,ha,hb⟩,rfl,rfl,Nat.le_of_eq hn.symm⟩
theorem lV{cs:List (List Int)}(h:∀l,l∈cs->∀v,v∈l->I64 v){l:List Int}(hl:∀v,v∈l->I64 v)(c:Nat):∀l',l'∈cs.set c l->∀v,v∈l'->I64 v:=fun l' hm v hv=>by
 rcases List.mem_or_eq_of_mem_set hm with hm|rfl
 ·exact h l' hm v hv
 ·exact hl v hv
theorem jH{l:List Int}(h:∀v,v∈l->I64 v)(i:Nat){x:Int}(hx:I64 x):∀v,v∈l.set i x->I64 v:=fun v hv=>by
 rcases List.mem_or_eq_of_mem_set hv with hm|rfl
 ·exact h v hm
 ·exact hx
theorem B9{e:Ex}{s t:ByteArray}(h:e.has s=false)(ht:e.has t=true):(t.toList==s.toList)=false:=by
 cases hn:(t.toList==s.toList)with
 |false=>rfl
 |true=>rw[Ex.has_congr hn e,h]at ht;cases ht
theorem oT{e:Ex}{s t:ByteArray}(h:e.ih s=false)(ht:e.ih t=true):(t.toList==s.toList)=false:=by
 cases hn:(t.toList==s.toList)with
 |false=>rfl
 |true=>rw[Ex.ih_congr hn e,h]at ht;cases ht
theorem Ex.pl_use{vars:List Vr}{p:Ex}(hp:p.isPl)(h:bN vars p=0):∃k,(k=1∨k=2)∧dT vars p.nam k=0:=by
 cases p with
 |var s=>exact⟨1,.inl rfl,h⟩
 |item s a=>
  refine⟨2,.inr rfl,?_⟩;simp only[bN]at h;split at h
  ·exact h
  ·rename_i h0;exact Decidable.not_not.1 h0
 |_=>exact hp.elim
theorem oA{σ:PSt}{p:Ex}{right:Int×Int}{k:Nat->Int->Rs}(h1:(c9 σ.look p).2=0)(h2:right.2=0)(h3:0<=(c9 σ.look p).1)(h4:(c9 σ.look p).1<(σ.len p.nam:Int)):eE σ p right k=k (c9 σ.look p).1.toNat right.1:=by
 unfold eE;rw[if_neg (by omega),if_neg (by omega),if_neg (by omega)]
theorem PI{cs:List (List Int)}{c:Nat}{l:List Int}(h:cs[c]?=some l)(l':List Int):(cs.set c l').set c l=cs:=by
 obtain⟨h1,h2⟩:=lgS.1 h;rw[List.set_set,<-h2,List.set_getElem_self h1]
theorem sK{l:List Int}{i:Nat}(h:i<l.length)(x:Int):(l.set i x).set i (l.getD i 0)=l:=by
 rw[List.set_set,eX,dR h,Option.getD_some,List.set_getElem_self h]
theorem jA{l:List Int}{i:Nat}(h:i<l.length)(x:Int):(l.set i x).getD i 0=x:=by
 simp[eX,h]
theorem PSt.upd_own(σ:PSt){cs:List (List Int)}(h:cs=σ.cells):σ.upd cs σ.inp σ.out=σ:=by subst h;rfl
theorem QI{σ σ':PSt}(hi:Inv σ){op:Int}{p e:Ex}(fY:op=40∨op=41∨op=42)(fM:p.isPl)(hp:p.ih p.nam=false)(he:e.has p.nam=false)(hr:lW op p e σ=.ok σ'):Kp σ σ'∧lW (dH op) p e σ'=.ok σ:=by
 have hok:∃kd m,σ'.Ok kd m:=by obtain⟨kd,m,ho⟩:=hi.ok;exact⟨_,_,DZ ho hr⟩
 unfold lW at hr;rw[if_neg (by omega)]at hr;split at hr
 ·cases hr
 rename_i h0;have h0:=Decidable.not_not.1 h0;obtain⟨f1,f2⟩:=gB h0;obtain⟨⟨p1,p2,p3,p4⟩,hk⟩:=fR hr;injection hk with hk;obtain⟨k,_,hu⟩:=Ex.pl_use fM f1;obtain⟨c,l,ha,_⟩:=hi.use hu;rw[ha.len]at p4;obtain⟨i,hI⟩:∃i,(c9 σ.look p).1.toNat=i:=⟨_,rfl⟩;have mT:i<l.length:=by omega
 rw[ha.write,ha.read,hI]at hk;obtain⟨v,hV⟩:∃v,(aX σ.look e).1=v:=⟨_,rfl⟩;rw[hV]at hk;obtain⟨x,hx⟩:∃x,(if op=40 then wrap64 (l.getD i 0+v)else if op=41 then wrap64 (l.getD i 0-v)else lD (l.getD i 0) v)=x:=⟨_,rfl⟩;rw[hx]at hk;have hxr:I64 x:=by
  rw[<-hx];split
  ·exact eK _
  split
  ·exact eK _
  ·exact zD _ _
 have har:=i9 (ha.rng hi) i;subst hk;refine⟨Kp.upd hi hok (by simp) (lV hi.rc (jH (ha.rng hi) i hxr) c) hi.ri hi.ro,?_⟩;have hcs:∀n,n≠c->n≠c->(σ.cells.set c (l.set i x))[n]?=σ.cells[n]?:=fun n h _=>by rw[List.getElem?_set_ne (Ne.symm h)]
 have hl1:=gG (look:=σ.look) (look':=(σ.upd (σ.cells.set c (l.set i x)) σ.inp σ.out).look) p fun t ht=>hi.look ha.at_ ha.at_ (oT hp ht) (oT hp ht) hcs _ _
 have hl2:=jR (look:=σ.look) (look':=(σ.upd (σ.cells.set c (l.set i x)) σ.inp σ.out).look) e fun t ht=>hi.look ha.at_ ha.at_ (B9 he ht) (B9 he ht) hcs _ _
 have wR:=ha.upd (cs:=σ.cells.set c (l.set i x)) (l':=l.set i x) (by simp[ha.lt]) σ.inp σ.out;unfold lW;rw[if_neg (by unfold dH;rcases fY with rfl|rfl|rfl<;>decide),if_neg (by exact fun h=>h h0),oA (by rw[hl1];exact p1) (by rw[hl2];exact p2) (by rw[hl1];exact p3) (by rw[hl1,wR.len];simpa using p4),hl1,hl2,hI,hV,wR.write,wR.read,jA mT];have hv:(if dH op=40 then wrap64 (x+v)else if dH op=41 then wrap64 (x-v)else lD x v)=l.getD i 0:=by
  rw[<-hx];rcases fY with rfl|rfl|rfl
  ·exact D7 har
  ·exact D8 har
  ·exact XP har
 rw[hv,sK mT];exact congrArg _ (PSt.upd_own σ (PI ha.cell _))
end Bk
