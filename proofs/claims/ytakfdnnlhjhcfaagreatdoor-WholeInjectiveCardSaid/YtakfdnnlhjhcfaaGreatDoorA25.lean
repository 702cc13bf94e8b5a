/- Part of the proof. -/
import Derived.Test.YtakfdnnlhjhcfaaGreatDoorA7
import Derived.Test.YtakfdnnlhjhcfaaGreatDoorA24
set_option linter.unusedVariables false
set_option linter.unusedSimpArgs false
namespace Bk
open Go (bits BinOp IntKind)
open Go.RowKit (wrap64)
def Sq.rv:Sq->Prop
 |.nil=>True
 |.upd op p e r=>((op=40∨op=41∨op=42)∧p.isPl∧p.ih p.nam=false∧e.has p.nam=false)∧r.rv
 |.swp p q r=>(p.isPl∧q.isPl∧p.ih p.nam=false∧p.ih q.nam=false∧q.ih p.nam=false∧q.ih q.nam=false)∧r.rv
 |.stk op s p r=>((op=44∨op=45)∧p.isPl∧p.ih p.nam=false∧p.ih s=false)∧r.rv
 |.tap op p r=>((op=46∨op=47∨op=48∨op=49)∧p.isPl∧p.ih p.nam=false)∧r.rv
 |.cal op s ss r=>((op=50∨op=51)∧ss.Pairwise fun a b=>(a.toList==b.toList)=false)∧r.rv
 |.ifs e a b e' r=>(a.rv∧b.rv)∧r.rv
 |.frm e a b e' r=>(a.rv∧b.rv)∧r.rv
 |.loc x e b e' r=>(e.has x=false∧e'.has x=false∧e.rng∧e'.rng∧b.rv)∧r.rv
 |.lst x b r=>b.rv∧r.rv
theorem KU(x y:Int):I64 (bits .and .i64 x y)∧I64 (bits .or .i64 x y)∧I64 (bits .xor .i64 x y):=by
 refine⟨?_,?_,zD x y⟩
 ·show I64 (IntKind.i64.wrap ((BitVec.ofInt 64 x &&& BitVec.ofInt 64 y).toNat:Int))
  rw[jJ];exact m9 _
 ·show I64 (IntKind.i64.wrap ((BitVec.ofInt 64 x ||| BitVec.ofInt 64 y).toNat:Int))
  rw[jJ];exact m9 _
theorem PZ{x y:Int}(h:I64 x):I64 (x.tmod y):=by
 have h1:(x.tmod y).natAbs<=x.natAbs:=by rw[Int.natAbs_tmod];exact Nat.mod_le _ _
 unfold I64 at h⊢;by_cases hx:0<=x
 ·have:=Int.tmod_nonneg y hx;omega
 ·have:x.tmod y<=0:=by
   have h2:0<=(-x).tmod y:=Int.tmod_nonneg y (by omega);rw[Int.neg_tmod]at h2;omega
  omega
theorem dJ{c:Prop} [Decidable c]{p q:Int×Int}(h1:I64 p.1)(h2:I64 q.1):I64 (if c then p else q).1:=by split;exact h1;exact h2
theorem gU{c:Prop} [Decidable c]:I64 (if c then 1 else 0):=by unfold I64;split<;>omega
theorem xV{x y:Int}(hx:I64 x)(op:Int):I64 (apply op x y).1:=by
 have h0:I64 0:=by unfold I64;omega
 obtain⟨b1,b2,b3⟩:=KU x y;unfold apply;exact dJ (eK _) (dJ (eK _) (dJ (eK _) (dJ (dJ h0 (eK _)) (dJ (dJ h0 (PZ hx)) (dJ b1 (dJ b2 (dJ b3 (dJ gU (dJ gU (dJ gU (dJ gU (dJ gU (dJ gU (dJ gU (dJ gU h0)))))))))))))))
theorem GC{look:ByteArray->Option (List Int)}(hl:∀t l,look t=some l->l.length<=1000∧∀v,v∈l->I64 v):∀e:Ex,e.rng->I64 (aX look e).1:=by
 have h0:I64 0:=by unfold I64;omega
 have h1:I64 1:=by unfold I64;omega
 intro e
 induction e with
 |num v=>exact fun h=>h
 |var s=>
  intro _;unfold aX;cases h:look s with
  |none=>exact h0
  |some l=>dsimp only;split;exact i9 (hl s l h).2 0;exact h0
 |top s=>
  intro _;unfold aX;cases h:look s with
  |none=>exact h0
  |some l=>dsimp only;split;exact h0;exact lN (hl s l h).2
 |size s=>
  intro _;unfold aX;cases h:look s with
  |none=>exact h0
  |some l=>have:=(hl s l h).1;show I64 (l.length:Int);unfold I64;omega
 |item s a ih=>
  intro _;unfold aX;cases h:look s with
  |none=>exact h0
  |some l=>dsimp only;split;exact h0;split;exact h0;exact i9 (hl s l h).2 _
 |un op a ih=>intro _;unfold aX;exact dJ h0 (dJ (eK _) gU)
 |bin op a b iha ihb=>intro h;unfold aX;split;exact h0;split;exact h0;exact xV (iha h.1) _
theorem Inv.lookR{σ:PSt}(h:Inv σ)(t:ByteArray)(l:List Int)(hl:σ.look t=some l):l.length<=1000∧∀v,v∈l->I64 v:=by
 refine⟨by obtain⟨kd,m,ho⟩:=h.ok;exact ho.lookLen hl,?_⟩;unfold PSt.look at hl;cases ha:σ.at_ t with
 |none=>rw[ha]at hl;cases hl
 |some c=>
  rw[ha]at hl;simp only[Option.map_some,Option.some.injEq,eX]at hl;cases hc:σ.cells[c]? with
  |none=>rw[hc]at hl;subst hl;simp
  |some l'=>rw[hc]at hl;have:l'=l:=hl;subst this;exact h.rc l' (List.mem_of_getElem? hc)
theorem uM{σ:PSt}(hl:σ.cur.idx.length=σ.cur.vars.length):∀(ps:List Vr)(ss:List ByteArray)(l:List Nat),bY σ ps ss=.ok l->∀c,c∈l->∃s,s∈ss∧σ.at_ s=some c
 | [],_,l,hr,c,hc=>by simp[bY]at hr;subst hr;cases hc
 |v::ps,[],l,hr,c,hc=>by cases hr
 |v::ps,s::ss,l,hr,c,hc=>by
  unfold bY at hr;split at hr
  ·cases hr
  rename_i i hi;split at hr
  ·cases hr
  split at hr
  ·cases hr
  rename_i l' oS;injection hr with hr;subst hr;rcases List.mem_cons.1 hc with rfl|hc
  ·exact⟨s,List.mem_cons_self ..,by unfold PSt.at_;rw[hi];rfl⟩
  ·obtain⟨t,h1,h2⟩:=uM hl ps ss l' oS c hc
   exact⟨t,List.mem_cons_of_mem _ h1,h2⟩
theorem sO{σ:PSt}(h:Inv σ):∀(ps:List Vr)(ss:List ByteArray)(l:List Nat),(ss.Pairwise fun a b=>(a.toList==b.toList)=false)->bY σ ps ss=.ok l->l.Nodup
 | [],_,l,_,hr=>by simp[bY]at hr;subst hr;exact List.nodup_nil
 |v::ps,[],l,_,hr=>by cases hr
 |v::ps,s::ss,l,hd,hr=>by
  unfold bY at hr;split at hr
  ·cases hr
  rename_i i hi;split at hr
  ·cases hr
  split at hr
  ·cases hr
  rename_i l' oS;injection hr with hr;subst hr;obtain⟨d1,d2⟩:=List.pairwise_cons.1 hd;refine List.nodup_cons.2 ⟨fun hc=>?_,sO h ps ss l' d2 oS⟩;obtain⟨t,h1,h2⟩:=uM h.len ps ss l' oS _ hc;have h3:σ.at_ s=some (σ.cur.idx.getD i 0):=by unfold PSt.at_;rw[hi];rfl
  have h4:=h.name h2 h3;rw[d1 t h1]at h4;cases h4
theorem xZ{ρ:Nat->Nat}{σ τ σ':PSt}(hl:σ.cur.idx.length=σ.cur.vars.length)(hc:τ.cur=σ.cur.ren ρ):∀(ps:List Vr)(ss:List ByteArray)(l:List Nat),bY σ ps ss=.ok l->bY τ ps ss=.ok (l.map ρ)
 | [],_,l,hr=>by simp[bY]at hr⊢;subst hr;rfl
 |v::ps,[],l,hr=>by cases hr
 |v::ps,s::ss,l,hr=>by
  unfold bY at hr⊢;have hv:τ.cur.vars=σ.cur.vars:=by rw[hc];rfl
  rw[hv];split at hr
  ·cases hr
  rename_i i hi;split at hr
  ·cases hr
  rename_i hk;split at hr
  ·cases hr
  rename_i l' oS;injection hr with hr;subst hr;rw[if_neg hk,xZ (σ':=σ') hl hc ps ss l' oS];have U7:=KQ hi;have:i<σ.cur.idx.length:=by omega
  rw[hc];simp[PFr.ren,eX,this]
theorem xW{σ τ:PSt}(hc:τ.cur=σ.cur):∀(ps:List Vr)(ss:List ByteArray),bY τ ps ss=bY σ ps ss
 | [],_=>rfl
 |v::ps,[]=>rfl
 |v::ps,s::ss=>by unfold bY;rw[hc,xW hc ps ss]
theorem yC{σ0 σ1:PSt}{ps:List Vr}{ss:List ByteArray}(hi:Inv σ0)(hd:ss.Pairwise fun a b=>(a.toList==b.toList)=false)(h:dB ps ss σ0=.ok σ1):Inv σ1∧ps.length=ss.length∧σ0.calls.length<100∧∃l,bY σ0 ps ss=.ok l∧l.length=ps.length∧σ1={σ0 with calls:=σ0.calls++ [⟨ps,l,0⟩]}:=by
 have hok:∃kd m,σ1.Ok kd m:=by
  obtain⟨kd,m,ho⟩:=hi.ok;exact⟨kd,max m ps.length,rR (ho.mono (Nat.le_max_left ..)) (Nat.le_max_right ..) h⟩
 unfold dB at h;split at h
 ·cases h
 rename_i hl;split at h
 ·cases h
 rename_i l ha;split at h
 ·cases h
 rename_i hc;injection h with h;subst h;have hll:l.length=ps.length:=by obtain⟨kd,m,ho⟩:=hi.ok;exact(uN ho ps ss l ha).1
 refine⟨⟨hok,?_,hi.rc,hi.ri,hi.ro⟩,by omega,by omega,l,ha,hll,rfl⟩;have:({σ0 with calls:=σ0.calls++ [⟨ps,l,0⟩]}:PSt).cur=⟨ps,l,0⟩:=by unfold PSt.cur;simp
 rw[this];exact sO hi ps ss l hd ha
theorem TY{σ0 σ1 σ2 σ3:PSt}{ps:List Vr}{ss:List ByteArray}(hi:Inv σ0)(hd:ss.Pairwise fun a b=>(a.toList==b.toList)=false)(h1:dB ps ss σ0=.ok σ1)(h2:Kp σ1 σ2)(h3:dY σ2=.ok σ3):
  Kp σ0 σ3∧(∀τ,Eqv τ σ3->∃τ',dB ps ss τ=.ok τ'∧Eqv τ' σ2)∧∀τ,Eqv τ σ1->∃τ',dY τ=.ok τ'∧Eqv τ' σ0:=by
 obtain⟨Uu,hls,hcl,l,ha,hll,e1⟩:=yC hi hd h1;have hok:∃kd m,σ3.Ok kd m:=by obtain⟨kd,m,ho⟩:=h2.inv.ok;exact⟨_,_,sF ho h3⟩
 have b1:σ1.base=σ0.base∧σ1.calls=σ0.calls++ [⟨ps,l,0⟩]∧σ1.cells=σ0.cells:=by rw[e1];exact⟨rfl,rfl,rfl⟩
 have rY:σ2.calls=σ0.calls++ [⟨ps,l,0⟩]:=by rw[h2.calls,b1.2.1]
 unfold dY at h3;split at h3
 ·cases h3
 injection h3 with h3;rw[rY,List.dropLast_concat]at h3;have aT:σ3.base=σ0.base∧σ3.calls=σ0.calls:=by rw[<-h3];exact⟨by show σ2.base=_;rw[h2.base,b1.1],rfl⟩
 have He:σ3.cells=σ2.cells∧σ3.inp=σ2.inp∧σ3.out=σ2.out:=by rw[<-h3];exact⟨rfl,rfl,rfl⟩
 have Jd:σ3.cur=σ0.cur:=by unfold PSt.cur;rw[aT.1,aT.2]
 have live3:∀c,fV σ3 c↔fV σ0 c:=fun c=>by unfold fV;rw[aT.1,aT.2]
 refine⟨⟨⟨hok,by rw[Jd];exact hi.nd,by rw[He.1];exact h2.inv.rc,by rw[He.2.1];exact h2.inv.ri,by rw[He.2.2];exact h2.inv.ro⟩,aT.1,aT.2,by rw[He.1,<-b1.2.2];exact h2.size⟩,fun τ⟨ρ,h⟩=>?_,fun τ⟨ρ,h⟩=>?_⟩
 ·have wR:bY τ ps ss=.ok (l.map ρ):=xZ (σ:=σ3) (σ':=σ3) (by rw[Jd];exact hi.len) h.cur ps ss l (by rw[xW Jd];exact ha)
  have hlen:τ.calls.length<100:=by rw[h.calls,List.length_map,aT.2];exact hcl
  refine⟨{τ with calls:=τ.calls++ [⟨ps,l.map ρ,0⟩]},?_,ρ,?_⟩
  ·unfold dB
   rw[if_neg (by omega),wR];dsimp only;rw[if_neg (by omega)]
  ·have gN:∀c,fV σ2 c->fV σ3 c:=fun c hc=>by
    rw[live3];rcases hc with hc|⟨f,hf,hc⟩
    ·rw[h2.base,b1.1]at hc;exact .inl hc
    ·rw[rY]at hf
     rcases List.mem_append.1 hf with hf|hf
     ·exact .inr ⟨f,hf,hc⟩
     ·simp at hf;subst hf
      obtain⟨s,_,hs⟩:=uM hi.len ps ss l ha c hc;exact pZ hi.len hs
   refine⟨by rw[h2.base,b1.1,<-aT.1];exact h.base,?_,h.inp.trans He.2.1,h.out.trans He.2.2,fun c hc=>(h.cells c (gN c hc)).trans (by rw[He.1]),fun c d hc hd e=>h.inj c d (gN c hc) (gN d hd) e,?_⟩
   ·show τ.calls++ [_]=_
    rw[rY,h.calls,aT.2,List.map_append];rfl
   ·have:σ2.cur=⟨ps,l,0⟩:=by unfold PSt.cur;rw[rY];simp
    rw[this];exact hll
 ·have vR:τ.cur=PFr.ren ρ ⟨ps,l,0⟩:=by
   rw[h.cur];have:σ1.cur=⟨ps,l,0⟩:=by unfold PSt.cur;rw[b1.2.1];simp
   rw[this]
  have hcs:τ.calls=σ0.calls.map (PFr.ren ρ)++ [PFr.ren ρ ⟨ps,l,0⟩]:=by rw[h.calls,b1.2.1,List.map_append];rfl
  have gN:∀c,fV σ0 c->fV σ1 c:=fun c hc=>by
   rcases hc with hc|⟨f,hf,hc⟩
   ·exact .inl (by rw[b1.1];exact hc)
   ·exact .inr ⟨f,by rw[b1.2.1];exact List.mem_append_left _ hf,hc⟩
  refine⟨{τ with calls:=σ0.calls.map (PFr.ren ρ)},?_,ρ,?_⟩
  ·unfold dY
   rw[if_neg (by rw[vR,hcs];simp[PFr.ren]),hcs,List.dropLast_concat]
  ·exact⟨by rw[<-b1.1];exact h.base,rfl,by rw[h.inp,e1],by rw[h.out,e1],fun c hc=>(h.cells c (gN c hc)).trans (by rw[b1.2.2]),fun c d hc hd e=>h.inj c d (gN c hc) (gN d hd) e,hi.len⟩
theorem dV{a b:Mo}{σ:PSt}{f:Nat}{r:PSt×Nat}(h:(a.seq b) σ f=.ok r):∃σ1 f1,a σ f=.ok (σ1,f1)∧b σ1 f1=.ok r:=by
 unfold Mo.seq at h;cases h1:a σ f with
 |error e=>rw[h1]at h;cases h
 |ok q=>rw[h1]at h;exact⟨q.1,q.2,rfl,h⟩
theorem eT{a b:Mo}{σ σ1:PSt}{f f1:Nat}(h:a σ f=.ok (σ1,f1)):(a.seq b) σ f=b σ1 f1:=by unfold Mo.seq;rw[h]
theorem kY{b:Mo}{σ:PSt}{f:Nat}{r:PSt×Nat}(h:(PO.seq b) σ f=.ok r):∃g,f=g+1∧b σ g=.ok r:=by
 cases f with
 |zero=>cases h
 |succ f=>exact⟨f,rfl,h⟩
theorem jD{g:PSt->Rs}{σ σ':PSt}{f f':Nat}(h:liftM g σ f=.ok (σ',f')):f'=f∧g σ=.ok σ':=by
 unfold liftM at h;cases h1:g σ with
 |error e=>rw[h1]at h;cases h
 |ok s=>rw[h1]at h;simp only[Except.ok.injEq,Prod.mk.injEq]at h;exact⟨h.2.symm,by rw[h.1]⟩
theorem nV{g:PSt->Rs}{σ σ':PSt}{f:Nat}(h:g σ=.ok σ'):liftM g σ f=.ok (σ',f):=by unfold liftM;rw[h]
theorem sM{e:Ex}{k:Int->Mo}{σ:PSt}{f:Nat}{r:PSt×Nat}(h:b8 e k σ f=.ok r):(aX σ.look e).2=0∧k (aX σ.look e).1 σ f=.ok r:=by
 unfold b8 at h;split at h
 ·cases h
 ·exact⟨by omega,h⟩
theorem T3{e:Ex}{k:Int->Mo}{σ:PSt}{f:Nat}(h:(aX σ.look e).2=0):b8 e k σ f=k (aX σ.look e).1 σ f:=by
 unfold b8;rw[if_neg (by omega)]
theorem Rv.call{n:Nat}{X X':Mo}(hX:Rv n 0 X X')(ps:List Vr){ss:List ByteArray}(hd:ss.Pairwise fun a b=>(a.toList==b.toList)=false):Rv (n+1) 0 (PO.seq ((liftM (dB ps ss)).seq (X.seq (PO.seq (liftM dY))))) (PO.seq ((liftM (dB ps ss)).seq (X'.seq (PO.seq (liftM dY))))):=fun σ f σ' f' hi h=>by
 obtain⟨f0,rfl,a0⟩:=kY h;obtain⟨σ1,f1,a1,a2⟩:=dV a0;obtain⟨rfl,h1⟩:=jD a1;obtain⟨σ2,f2,h2,a3⟩:=dV a2;obtain⟨f3,rfl,a4⟩:=kY a3;obtain⟨rfl,h3⟩:=jD a4;obtain⟨q1,q2,q3⟩:=hX σ1 f1 σ2 _ (yC hi hd h1).1 h2;obtain⟨k1,k2,k3⟩:=TY hi hd h1 q2 h3;refine⟨by omega,k1,fun τ g e1 e2 e3=>?_⟩;obtain⟨g,rfl⟩:∃g',g=g'+1:=⟨g-1,by omega⟩;obtain⟨τ2,g1,g2⟩:=k2 τ e1;obtain⟨τ1,g3,g4⟩:=q3 τ2 g g2 (by omega) (by omega);obtain⟨τ0,g5,g6⟩:=k3 τ1 g4;obtain⟨d,hd'⟩:∃d,g-(f1-(f'+1))=d+1:=⟨g-(f1-(f'+1))-1,by omega⟩;refine⟨τ0,?_,g6⟩;show((liftM (dB ps ss)).seq (X'.seq (PO.seq (liftM dY)))) τ g=_;rw[eT (nV g1),eT g3,hd'];show liftM dY τ1 d=_;rw[nV g5];congr 2;omega
theorem Rv.loc{n:Nat}{X X':Mo}(hX:Rv n 0 X X'){x:ByteArray}{e e':Ex}(h1:e.has x=false)(yI:e'.has x=false)(hr:e.rng):Rv (n+1) 0 (PO.seq ((b8 e fun v=>liftM (cX ⟨x,1,0⟩ [v])).seq (X.seq (PO.seq (b8 e' fun v=>liftM (bU x v)))))) (PO.seq ((b8 e' fun v=>liftM (cX ⟨x,1,0⟩ [v])).seq (X'.seq (PO.seq (b8 e fun v=>liftM (bU x v)))))):=fun σ f σ' f' hi h=>by
 obtain⟨f0,rfl,a0⟩:=kY h;obtain⟨σ1,f1,a1,a2⟩:=dV a0;obtain⟨v1,a3⟩:=sM a1;obtain⟨rfl,h2⟩:=jD a3;obtain⟨σ2,f2,h3,a4⟩:=dV a2;obtain⟨f3,rfl,a5⟩:=kY a4;obtain⟨v2,a6⟩:=sM a5;obtain⟨rfl,h4⟩:=jD a6;have hl:∀v,v∈ [(aX σ.look e).1]->I64 v:=fun v hv=>by simp at hv;subst hv;exact GC hi.lookR e hr
 obtain⟨q1,q2,q3⟩:=hX σ1 f1 σ2 _ (wD hi (fun _=>rfl) (by simp) hl h2).1 h3;obtain⟨k1,k2,k3,k4⟩:=R9 (u:=⟨x,1,0⟩) hi (.inl ⟨rfl,rfl⟩) hl h2 q2 h4;refine⟨by omega,k1,fun τ g e1 e2 e3=>?_⟩;obtain⟨g,rfl⟩:∃g',g=g'+1:=⟨g-1,by omega⟩;have ev:aX τ.look e'=aX σ2.look e':=by
  rw[e1.look];exact(jR e' fun t ht=>(k2 t (B9 yI ht)).1.symm)
 obtain⟨τ2,g1,g2⟩:=k3 τ e1;obtain⟨τ1,g3,g4⟩:=q3 τ2 g g2 (by omega) (by omega);obtain⟨τ0,g5,g6⟩:=k4 τ1 g4;have ev1:aX τ1.look e=aX σ.look e:=by
  rw[g4.look];exact(jR e fun t ht=>(k2 t (B9 h1 ht)).2)
 obtain⟨d,hd'⟩:∃d,g-(f1-(f'+1))=d+1:=⟨g-(f1-(f'+1))-1,by omega⟩;refine⟨τ0,?_,g6⟩;show((b8 e' fun v=>liftM (cX ⟨x,1,0⟩ [v])).seq (X'.seq (PO.seq (b8 e fun v=>liftM (bU x v))))) τ g=_;have s1:(b8 e' fun v=>liftM (cX ⟨x,1,0⟩ [v])) τ g=.ok (τ2,g):=by
  rw[T3 (by rw[ev];exact v2),ev];exact nV g1
 rw[eT s1,eT g3,hd'];have g5:bU x (aX σ.look e).1 τ1=.ok τ0:=g5;show(b8 e fun v=>liftM (bU x v)) τ1 d=_;rw[T3 (by rw[ev1];exact v1),ev1,nV g5];congr 2;omega
theorem Rv.lst{n:Nat}{X X':Mo}(hX:Rv n 0 X X')(x:ByteArray):Rv (n+1) 0 (PO.seq ((liftM (cX ⟨x,3,0⟩ [])).seq (X.seq (PO.seq (liftM (bU x 0)))))) (PO.seq ((liftM (cX ⟨x,3,0⟩ [])).seq (X'.seq (PO.seq (liftM (bU x 0)))))):=fun σ f σ' f' hi h=>by
 obtain⟨f0,rfl,a0⟩:=kY h;obtain⟨σ1,f1,a1,a2⟩:=dV a0;obtain⟨rfl,h2⟩:=jD a1;obtain⟨σ2,f2,h3,a3⟩:=dV a2;obtain⟨f3,rfl,a4⟩:=kY a3;obtain⟨rfl,h4⟩:=jD a4;have hl:∀v,v∈([]:List Int)->I64 v:=fun v hv=>by cases hv
 obtain⟨q1,q2,q3⟩:=hX σ1 f1 σ2 _ (wD hi (fun h=>by cases h) (by simp) hl h2).1 h3;obtain⟨k1,k2,k3,k4⟩:=R9 (u:=⟨x,3,0⟩) hi (.inr ⟨rfl,rfl⟩) hl h2 q2 h4;refine⟨by omega,k1,fun τ g e1 e2 e3=>?_⟩;obtain⟨g,rfl⟩:∃g',g=g'+1:=⟨g-1,by omega⟩;obtain⟨τ2,g1,g2⟩:=k3 τ e1;obtain⟨τ1,g3,g4⟩:=q3 τ2 g g2 (by omega) (by omega);obtain⟨τ0,g5,g6⟩:=k4 τ1 g4;obtain⟨d,hd'⟩:∃d,g-(f1-(f'+1))=d+1:=⟨g-(f1-(f'+1))-1,by omega⟩;refine⟨τ0,?_,g6⟩;have g1:cX ⟨x,3,0⟩ [] τ=.ok τ2:=g1;have g5:bU x 0 τ1=.ok τ0:=g5;show((liftM (cX ⟨x,3,0⟩ [])).seq (X'.seq (PO.seq (liftM (bU x 0))))) τ g=_;rw[eT (nV g1),eT g3,hd'];show liftM (bU x 0) τ1 d=_;rw[nV g5];congr 2;omega
theorem Rv.of{ι:Type}{P:ι->Prop}{N k:Nat}{a b:Mo}(A A':ι->Mo)(hA:∀i,P i->Rv N k (A i) (A' i))(h1:∀σ f r,a σ f=.ok r->∃i,P i∧A i σ f=.ok r)(h2:∀i,P i->∀τ g r,A' i τ g=.ok r->b τ g=.ok r):Rv N k a b:=fun σ f σ' f' hi h=>by
 obtain⟨i,hp,h⟩:=h1 σ f _ h;obtain⟨q1,q2,q3⟩:=hA i hp σ f σ' f' hi h;exact⟨q1,q2,fun τ g e1 e2 e3=>by obtain⟨τ',g1,g2⟩:=q3 τ g e1 e2 e3;exact⟨τ',h2 i hp τ g _ g1,g2⟩⟩
theorem vS{e:Ex}{k:Bool->Mo}{t:Bool}{σ:PSt}{f:Nat}{r:PSt×Nat}(h:((bF e t).seq (k t)) σ f=.ok r):fF e k σ f=.ok r:=by
 obtain⟨σ1,f1,h1,h2⟩:=dV h;obtain⟨rfl,rfl,h3,h4⟩:=uR h1;rw[O2 h3,h4];exact h2
theorem R1{e:Ex}{k:Bool->Mo}{σ:PSt}{f:Nat}{r:PSt×Nat}(h:fF e k σ f=.ok r):∃t,((bF e t).seq (k t)) σ f=.ok r:=by
 obtain⟨σ',f'⟩:=r;obtain⟨g,rfl,h1,h2⟩:=yO h;exact⟨_,by rw[eT (x4 h1 rfl)];exact h2⟩
theorem Rv.ifs{n:Nat}{X X':Bool->Mo}(hX:∀t,Rv n 0 (X t) (X' t))(e e':Ex):Rv (n+1) 0 (fF e fun t=>(X t).seq (bF e' t)) (fF e' fun t=>(X' t).seq (bF e t)):=by
 refine Rv.of (P:=fun _=>True) (fun t=>(bF e t).seq ((X t).seq (bF e' t))) (fun t=>(bF e' t).seq ((X' t).seq (bF e t))) (fun t _=>?_) (fun σ f r h=>?_) fun t _ τ g r h=>vS (k:=fun t=>(X' t).seq (bF e t)) h
 ·have:=Rv.seq (Rv.assert (n+1) e t) (Rv.seq (hX t) (Rv.assert (n+1) e' t) (by omega)) (by omega)
  rw[Mo.seq_assoc]at this;exact this.mono (aH _) (by omega)
 ·obtain⟨t,h⟩:=R1 h;exact⟨t,trivial,h⟩
def iF(a b:Mo)(u v:Ex):Nat->Mo->Mo
 |0,E=>a.seq E
 |k+1,E=>a.seq ((bF u false).seq (b.seq ((bF v false).seq (iF a b u v k E))))
theorem uU(a b:Mo)(u v:Ex)(E:Mo):∀k,iF a b u v k ((bF u false).seq (b.seq ((bF v false).seq (a.seq E))))=iF a b u v (k+1) E
 |0=>rfl
 |k+1=>by rw[iF,uU a b u v E k];rfl
theorem Q9{a b:Mo}{entry test:Ex}:∀(m:Nat)(σ:PSt)(f:Nat)(r:PSt×Nat),iB a b entry test m σ f=.ok r->∃k,k<m∧iF a b test entry k (bF test true) σ f=.ok r
 |0,σ,f,r,h=>by cases h
 |m+1,σ,f,r,h=>by
  obtain⟨σ1,f1,h1,h2⟩:=dV h;obtain⟨t,h2⟩:=R1 h2;obtain⟨σ2,f2,h3,h4⟩:=dV h2;cases t with
  |true=>
   rw[if_pos rfl]at h4;refine⟨0,Nat.succ_pos _,?_⟩;rw[iF,eT h1,h3];exact h4
  |false=>
   rw[if_neg (by decide)]at h4;obtain⟨σ3,f3,h5,h6⟩:=dV h4;obtain⟨σ4,f4,h7,h8⟩:=dV h6;obtain⟨k,hk,h9⟩:=Q9 m σ4 f4 r h8;refine⟨k+1,by omega,?_⟩;rw[iF,eT h1,eT h3,eT h5,eT h7];exact h9
theorem DT{a b:Mo}{entry test:Ex}:∀(k m:Nat),k<m->∀(σ:PSt)(f:Nat)(r:PSt×Nat),iF a b test entry k (bF test true) σ f=.ok r->iB a b entry test m σ f=.ok r
 |_,0,h,_,_,_,_=>absurd h (Nat.not_lt_zero _)
 |0,m+1,_,σ,f,r,h=>by
  obtain⟨σ1,f1,h1,h2⟩:=dV h;rw[iB,eT h1];refine vS (t:=true) ?_;obtain⟨σ2,f2⟩:=r;rw[eT h2];rfl
 |k+1,m+1,hk,σ,f,r,h=>by
  obtain⟨σ1,f1,h1,h⟩:=dV h;obtain⟨σ2,f2,h2,h⟩:=dV h;obtain⟨σ3,f3,h3,h⟩:=dV h;obtain⟨σ4,f4,h4,h⟩:=dV h;rw[iB,eT h1];refine vS (t:=false) ?_;rw[eT h2,if_neg (by decide),eT h3,eT h4];exact DT k m (by omega) σ4 f4 r h
theorem L4{n:Nat}{A A' B B':Mo}(hA:Rv n 0 A A')(hB:Rv n 0 B B')(u v:Ex):∀(k:Nat)(X X':Mo),Rv (n+1) 1 X X'->Rv (n+1) 1 (X.seq (iF A B u v k (bF u true))) ((bF u true).seq (iF A' B' v u k X'))
 |0,X,X',h=>by
  have:=Rv.seq h (Rv.seq hA (Rv.assert (n+1) u true) (by omega)) (by omega);rw[Mo.seq_assoc]at this;exact this.mono (aH _) (by omega)
 |k+1,X,X',h=>by
  have h1:=Rv.seq h (Rv.seq hA (Rv.seq (Rv.assert (n+1) u false) (Rv.seq hB (Rv.assert (n+1) v false) (by omega)) (by omega)) (by omega)) (by omega);have h2:=L4 hA hB u v k _ _ (h1.mono (aH _) (by omega));simp only[Mo.seq_assoc]at h2;rw[uU]at h2;exact h2
theorem Rv.frm{n:Nat}{A A' B B':Mo}(hA:Rv n 0 A A')(hB:Rv n 0 B B')(e e':Ex)(m:Nat):Rv (n+1) 0 ((bF e true).seq (iB A B e e' m)) ((bF e' true).seq (iB A' B' e' e m)):=by
 refine Rv.of (P:=fun k=>k<m) (fun k=>(bF e true).seq (iF A B e' e k (bF e' true))) (fun k=>(bF e' true).seq (iF A' B' e e' k (bF e true))) (fun k _=>(L4 hA hB e' e k _ _ (Rv.assert (n+1) e true)).mono (aH _) (by omega)) (fun σ f r h=>?_) fun k hk τ g r h=>?_
 ·obtain⟨σ1,f1,h1,h2⟩:=dV h
  obtain⟨k,hk,h3⟩:=Q9 m σ1 f1 r h2;exact⟨k,hk,by rw[eT h1];exact h3⟩
 ·obtain⟨σ1,f1,h1,h2⟩:=dV h
  rw[eT h1];exact DT k m hk σ1 f1 r h2
theorem Rv.put{N:Nat}{a a' b b':Mo}(back:Bool)(ha:Rv N 0 a a')(hb:Rv N 0 b b'):Rv N 0 (put back a b) (put (!back) a' b'):=by
 cases back with
 |true=>exact Rv.seq hb ha (by omega)
 |false=>exact Rv.seq ha hb (by omega)
theorem sD{op:Int}(h:op=40∨op=41∨op=42∨op=44∨op=45∨op=46∨op=47∨op=48∨op=49):dH (dH op)=op:=by
 rcases h with rfl|rfl|rfl|rfl|rfl|rfl|rfl|rfl|rfl<;>decide
theorem pC{N:Nat}(G:Int->PSt->Rs){op:Int}(fY:dH (dH op)=op)(h:∀o,(o=op∨o=dH op)->Rv N 1 (eM (G o)) (eM (G (dH o))))(back:Bool):Rv N 0 (eM (G (if back then dH op else op))) (eM (G (if(!back)then dH op else op))):=by
 cases back with
 |true=>
  have:=h (dH op) (.inr rfl);rw[fY]at this;exact this.mono (aH _) (by omega)
 |false=>exact(h op (.inl rfl)).mono (aH _) (by omega)
theorem fX{procs:List Pr}(hq:∀p,p∈procs->p.body.rv){n:Nat}{inner:Bool->Sq->Mo}(hi:∀b s,s.rv->Rv n 0 (inner b s) (inner (!b) s))(back:Bool):∀s:Sq,s.rv->Rv (n+1) 0 (execS procs n inner back s) (execS procs n inner (!back) s)
 |.nil,_=>Rv.ok _
 |.upd op p e r,⟨⟨h1,h2,h3,h4⟩,hr⟩=>Rv.put back (pC (fun o=>lW o p e) (sD (by omega)) (fun o ho=>Rv.basic _ (fun σ σ' hi h=>QI hi (by unfold dH at ho;rcases h1 with rfl|rfl|rfl<;>simp at ho<;>omega) h2 h3 h4 h) fun ρ τ σ h=>QG h _ _ _) back) (fX hq hi back r hr)
 |.swp p q r,⟨⟨h1,h2,h3,h4,h5,h6⟩,hr⟩=>Rv.put back ((Rv.basic _ (fun σ σ' hi h=>PV hi h1 h2 h3 h4 h5 h6 h) fun ρ τ σ h=>PS h _ _).mono (aH _) (by omega)) (fX hq hi back r hr)
 |.stk op s p r,⟨⟨h1,h2,h3,h4⟩,hr⟩=>Rv.put back (pC (fun o=>kZ o s p) (sD (by omega)) (fun o ho=>Rv.basic _ (fun σ σ' hi h=>PR hi (by unfold dH at ho;rcases h1 with rfl|rfl<;>simp at ho<;>omega) h2 h3 h4 h) fun ρ τ σ h=>PQ h _ _ _) back) (fX hq hi back r hr)
 |.tap op p r,⟨⟨h1,h2,h3⟩,hr⟩=>Rv.put back (pC (fun o=>lA o p) (sD (by omega)) (fun o ho=>Rv.basic _ (fun σ σ' hi h=>PY hi (by unfold dH at ho;rcases h1 with rfl|rfl|rfl|rfl<;>simp at ho<;>omega) h2 h3 h) fun ρ τ σ h=>PX h _ _) back) (fX hq hi back r hr)
 |.cal op s ss r,⟨⟨h1,h2⟩,hr⟩=>by
  refine Rv.put back ?_ (fX hq hi back r hr);unfold p8;cases hf:procs.find? (fun p=>p.nm.toList==s.toList)with
  |none=>exact Rv.err _ _ _ _
  |some p=>
   have:=Rv.call (hi (back !=decide (op=51)) p.body (hq p (List.mem_of_find?_eq_some hf))) p.params h2;have e:(!(back !=decide (op=51)))=((!back) !=decide (op=51)):=by cases back<;>cases decide (op=51)<;>rfl
   rw[e]at this;exact this
 |.ifs e a b e' r,⟨⟨h1,h2⟩,hr⟩=>by
  refine Rv.put back ?_ (fX hq hi back r hr);have hab:∀t:Bool,(if t then a else b).rv:=fun t=>by cases t;exact h2;exact h1
  cases back with
  |true=>exact Rv.ifs (fun t=>hi true _ (hab t)) e' e
  |false=>exact Rv.ifs (fun t=>hi false _ (hab t)) e e'
 |.frm e a b e' r,⟨⟨h1,h2⟩,hr⟩=>by
  refine Rv.put back ?_ (fX hq hi back r hr);cases back with
  |true=>exact Rv.frm (hi true a h1) (hi true b h2) e' e n
  |false=>exact Rv.frm (hi false a h1) (hi false b h2) e e' n
 |.loc x e b e' r,⟨⟨h1,h2,h3,h4,h5⟩,hr⟩=>by
  refine Rv.put back ?_ (fX hq hi back r hr);cases back with
  |true=>exact Rv.loc (hi true b h5) h2 h1 h4
  |false=>exact Rv.loc (hi false b h5) h1 h2 h3
 |.lst x b r,⟨h1,hr⟩=>Rv.put back (Rv.lst (hi back b h1) x) (fX hq hi back r hr)
theorem M6{procs:List Pr}(hq:∀p,p∈procs->p.body.rv):∀(n:Nat)(back:Bool)(s:Sq),s.rv->Rv n 0 (execP procs n back s) (execP procs n (!back) s)
 |0,_,_,_=>Rv.err _ _ _ _
 |n+1,back,s,h=>fX hq (fun b s hs=>M6 hq n b s hs) back s h
def PSt.ini(p:Pg)(cells:List (List Int))(inp out:List Int):PSt:=⟨cells,⟨p.vars,List.range p.vars.length,0⟩,[],inp,out⟩
theorem jI{p:Pg}(hm:p.main.rv)(hq:∀q,q∈p.procs->q.body.rv){back:Bool}{cells:List (List Int)}{inp out:List Int}(hi:Inv (PSt.ini p cells inp out))(hlen:cells.length=p.vars.length){k f:Nat}{σ:PSt}(h:fA p back cells inp out k=.ok (σ,f)):
  f<=k∧Kp (PSt.ini p cells inp out) σ∧∀g,k-f<=g->g<=2000->∃τ,fA p (!back) σ.fin σ.inp σ.out g=.ok (τ,g-(k-f))∧τ.fin=cells∧τ.inp=inp∧τ.out=out:=by
 obtain⟨q1,q2,q3⟩:=M6 hq 2001 back p.main hm _ k σ f hi h;refine⟨by omega,q2,fun g e1 e2=>?_⟩;have hb:σ.base=⟨p.vars,List.range p.vars.length,0⟩:=q2.base;have hc:σ.calls= []:=q2.calls;have l6:p.vars.length<=σ.cells.length:=by have:=q2.size;rw[<-hlen];exact this
 have AD:σ.fin=(List.range p.vars.length).map fun i=>σ.cells.getD i []:=by unfold PSt.fin;rw[hb];simp
 have gN:∀c,fV σ c->c<p.vars.length:=fun c yK=>by
  rcases yK with yK|⟨f,hf,_⟩
  ·rw[hb]at yK;simpa using yK
  ·rw[hc]at hf;cases hf
 have ZD:Eqv (PSt.ini p σ.fin σ.inp σ.out) σ:=by
  refine⟨id,?_,?_,rfl,rfl,fun c hl=>?_,fun c d _ _ e=>e,?_⟩
  ·rw[hb];unfold PFr.ren PSt.ini;simp
  ·rw[hc];rfl
  ·have yK:=gN c hl
   show σ.fin[c]?=σ.cells[c]?;rw[AD];simp[List.getElem?_map,List.getElem?_range yK,eX,dR (show c<σ.cells.length by omega)]
  ·rw[PSt.cur_base hc,hb];simp
 obtain⟨τ,g1,ρ,g2⟩:=q3 _ g ZD e1 (by omega);refine⟨τ,g1,?_,g2.inp,g2.out⟩;have gX:τ.base=PFr.ren ρ ⟨p.vars,List.range p.vars.length,0⟩:=g2.base;unfold PSt.fin;rw[gX,List.take_of_length_le (by simp[PFr.ren])];simp only[PFr.ren];apply List.ext_getElem?;intro i;by_cases U7:i<p.vars.length
 ·have hl:fV (PSt.ini p cells inp out) i:=.inl (by show i∈List.range _;simpa using U7)
  have:=g2.cells i hl;have h2:i<cells.length:=by omega
  rw[dR (show i<(PSt.ini p cells inp out).cells.length from h2)]at this;simp[List.getElem?_map,List.getElem?_range U7,eX,this];rw[dR h2];rfl
 ·rw[List.getElem?_eq_none (by simp;omega),List.getElem?_eq_none (by omega)]
theorem XE{p:Pg}(hm:p.main.rv)(hq:∀q,q∈p.procs->q.body.rv){back:Bool}{cs cs':List (List Int)}{inp out inp' out':List Int}(hi:Inv (PSt.ini p cs inp out))(hlen:cs.length=p.vars.length)(U7:Inv (PSt.ini p cs' inp' out'))(ZK:cs'.length=p.vars.length){f f':Nat}{σ σ':PSt}(h:fA p back cs inp out 2000=.ok (σ,f))(h':fA p back cs' inp' out' 2000=.ok (σ',f'))(h1:σ.fin=σ'.fin)(h2:σ.inp=σ'.inp)(h3:σ.out=σ'.out):cs=cs'∧inp=inp'∧out=out':=by
 obtain⟨_,_,q⟩:=jI hm hq hi hlen h;obtain⟨_,_,q'⟩:=jI hm hq U7 ZK h';obtain⟨τ,a1,a2,a3,a4⟩:=q 2000 (by omega) (aH _);obtain⟨τ',b1,b2,b3,b4⟩:=q' 2000 (by omega) (aH _);rw[h1,h2,h3,b1]at a1;simp only[Except.ok.injEq,Prod.mk.injEq]at a1;obtain⟨rfl,_⟩:=a1;exact⟨a2.symm.trans b2,a3.symm.trans b3,a4.symm.trans b4⟩
end Bk
