/- Part of the proof. -/
import Derived.Test.YtakfdnnlhjhcfaaGreatDoorA2
set_option linter.unusedVariables false
set_option linter.unusedSimpArgs false
namespace Bk
open Go.RowKit (wrap64)
inductive Sq where
 |nil
 |upd (op:Int) (p e:Ex) (rest:Sq)
 |swp (p q:Ex) (rest:Sq)
 |stk (op:Int) (s:ByteArray) (p:Ex) (rest:Sq)
 |tap (op:Int) (p:Ex) (rest:Sq)
 |cal (op:Int) (s:ByteArray) (args:List ByteArray) (rest:Sq)
 |ifs (e:Ex) (a b:Sq) (e':Ex) (rest:Sq)
 |frm (e:Ex) (a b:Sq) (e':Ex) (rest:Sq)
 |loc (x:ByteArray) (e:Ex) (b:Sq) (e':Ex) (rest:Sq)
 |lst (x:ByteArray) (b:Sq) (rest:Sq)
structure Pr where
 nm:ByteArray
 params:List Vr
 body:Sq
structure Pg where
 vars:List Vr
 procs:List Pr
 main:Sq
structure PFr where
 vars:List Vr
 idx:List Nat
 locals:Nat
structure PSt where
 cells:List (List Int)
 base:PFr
 calls:List PFr
 inp:List Int
 out:List Int
def PSt.cur(σ:PSt):PFr:=σ.calls.getLastD σ.base
def PSt.setCur(σ:PSt)(f:PFr):PSt:=if σ.calls= []then{σ with base:=f}else{σ with calls:=σ.calls.set (σ.calls.length-1) f}
def bK(s:ByteArray):List Vr->Option Nat
 | []=>none
 |v::l=>match bK s l with
  |some i=>some (i+1)
  |none=>if v.nm.toList==s.toList then some 0 else none
def PSt.at_(σ:PSt)(s:ByteArray):Option Nat:=(bK s σ.cur.vars).map fun i=>σ.cur.idx.getD i 0
def PSt.look(σ:PSt)(s:ByteArray):Option (List Int):=(σ.at_ s).map fun c=>σ.cells.getD c []
def aX(look:ByteArray->Option (List Int)):Ex->Int×Int
 |.num v=>(v,0)
 |.var s=>match look s with
  |none=>(0,6)
  |some l=>if l.length=1 then(l.getD 0 0,0)else(0,7)
 |.top s=>match look s with
  |none=>(0,6)
  |some l=>if l.length=0 then(0,13)else(l.getLastD 0,0)
 |.size s=>match look s with
  |none=>(0,6)
  |some l=>(l.length,0)
 |.item s a=>match look s with
  |none=>(0,6)
  |some l=>if(aX look a).2≠0 then(0,(aX look a).2)else if(aX look a).1<0∨(l.length:Int)<=(aX look a).1 then(0,12)else(l.getD (aX look a).1.toNat 0,0)
 |.un op a=>if(aX look a).2≠0 then(0,(aX look a).2)else if op=6 then(wrap64 (-(aX look a).1),0)else(if(aX look a).1=0 then 1 else 0,0)
 |.bin op a b=>if(aX look a).2≠0 then(0,(aX look a).2)else if(aX look b).2≠0 then(0,(aX look b).2)else apply op (aX look a).1 (aX look b).1
def dT(vars:List Vr)(s:ByteArray)(k:Int):Int:=match (bK s vars).bind fun i=>vars[i]? with
 |none=>6
 |some v=>if v.k≠k then 7 else 0
def bN(vars:List Vr):Ex->Int
 |.num _=>0
 |.var s=>dT vars s 1
 |.top s=>dT vars s 3
 |.size s=>dT vars s 3
 |.item s a=>if dT vars s 2≠0 then dT vars s 2 else bN vars a
 |.un _ a=>bN vars a
 |.bin _ a b=>if bN vars a≠0 then bN vars a else bN vars b
def c9(look:ByteArray->Option (List Int)):Ex->Int×Int
 |.item _ a=>aX look a
 |_=>(0,0)
def PSt.read(σ:PSt)(s:ByteArray)(i:Nat):Int:=((σ.look s).getD []).getD i 0
def PSt.write(σ:PSt)(s:ByteArray)(i:Nat)(v:Int):PSt:=match σ.at_ s with
 |none=>σ
 |some c=>{σ with cells:=σ.cells.set c ((σ.cells.getD c []).set i v)}
def PSt.setCell(σ:PSt)(s:ByteArray)(l:List Int):PSt:=match σ.at_ s with
 |none=>σ
 |some c=>{σ with cells:=σ.cells.set c l}
def PSt.len(σ:PSt)(s:ByteArray):Nat:=((σ.look s).getD []).length
abbrev Rs:=Except Int PSt
def rS(a b:Int):Int:=if a≠0 then a else b
def eE(σ:PSt)(p:Ex)(right:Int×Int)(k:Nat->Int->Rs):Rs:=
 if(c9 σ.look p).2≠0 then .error (c9 σ.look p).2 else if right.2≠0 then .error right.2
 else if(c9 σ.look p).1<0∨(σ.len p.nam:Int)<=(c9 σ.look p).1 then .error 12 else k (c9 σ.look p).1.toNat right.1
def lW(op:Int)(p e:Ex)(σ:PSt):Rs:=
 if op=56 then .error 9 else if rS (bN σ.cur.vars p) (bN σ.cur.vars e)≠0 then .error (rS (bN σ.cur.vars p) (bN σ.cur.vars e))
 else eE σ p (aX σ.look e) fun i v=>.ok (σ.write p.nam i (if op=40 then wrap64 (σ.read p.nam i+v)else if op=41 then wrap64 (σ.read p.nam i-v)else lD (σ.read p.nam i) v))
def mF(p q:Ex)(σ:PSt):Rs:=
 if rS (bN σ.cur.vars p) (bN σ.cur.vars q)≠0 then .error (rS (bN σ.cur.vars p) (bN σ.cur.vars q))
 else eE σ p (c9 σ.look q) fun i j=>if j<0∨(σ.len q.nam:Int)<=j then .error 12
  else .ok ((σ.write p.nam i (σ.read q.nam j.toNat)).write q.nam j.toNat (σ.read p.nam i))
def kZ(op:Int)(s:ByteArray)(p:Ex)(σ:PSt):Rs:=
 if rS (dT σ.cur.vars s 3) (bN σ.cur.vars p)≠0 then .error (rS (dT σ.cur.vars s 3) (bN σ.cur.vars p))
 else eE σ p (0,0) fun i _=>
  if op=44 then(if 1000<=σ.len s then .error 5 else .ok ((σ.setCell s ((σ.look s).getD []++ [σ.read p.nam i])).write p.nam i 0))
  else if σ.len s=0 then .error 13 else if σ.read p.nam i≠0 then .error 14
  else .ok ((σ.write p.nam i (((σ.look s).getD []).getLastD 0)).setCell s ((σ.look s).getD []).dropLast)
def lA(op:Int)(p:Ex)(σ:PSt):Rs:=
 if bN σ.cur.vars p≠0 then .error (bN σ.cur.vars p)
 else eE σ p (0,0) fun i _=>
  if op=46 then(if σ.inp= []then .error 17 else if σ.read p.nam i≠0 then .error 14 else .ok ({σ with inp:=σ.inp.tail}.write p.nam i (σ.inp.headD 0)))
  else if op=47 then(if 4096<=σ.inp.length then .error 5 else .ok ({σ with inp:=σ.read p.nam i::σ.inp}.write p.nam i 0))
  else if op=48 then(if 4096<=σ.out.length then .error 5 else .ok ({σ with out:=σ.out++ [σ.read p.nam i]}.write p.nam i 0))
  else(if σ.out= []then .error 17 else if σ.read p.nam i≠0 then .error 14 else .ok ({σ with out:=σ.out.dropLast}.write p.nam i (σ.out.getLastD 0)))
def dH(op:Int):Int:=if op=40 then 41 else if op=41 then 40 else if op=44 then 45 else if op=45 then 44 else if op=46 then 47 else if op=47 then 46 else if op=48 then 49 else if op=49 then 48 else op
def cX(v:Vr)(items:List Int)(σ:PSt):Rs:=
 if(bK v.nm σ.cur.vars).isSome then .error 22
 else .ok ({σ with cells:=σ.cells++ [items]}.setCur ⟨σ.cur.vars++ [v],σ.cur.idx++ [σ.cells.length],σ.cur.locals+1⟩)
def bU(s:ByteArray)(v:Int)(σ:PSt):Rs:=
 match σ.cur.vars.getLast? with
 |none=>.error 6
 |some u=>if σ.cur.locals=0∨(u.nm.toList==s.toList)=false then .error 6
  else if u.k=1∧(σ.cells.getD (σ.cur.idx.getLastD 0) []).getD 0 0≠v∨u.k=3∧(σ.cells.getD (σ.cur.idx.getLastD 0) []).length≠0 then .error 16
  else .ok (σ.setCur ⟨σ.cur.vars.dropLast,σ.cur.idx.dropLast,σ.cur.locals-1⟩)
def bY(σ:PSt):List Vr->List ByteArray->Except Int (List Nat)
 | [],_=>.ok []
 |v::ps,s::ss=>match bK s σ.cur.vars with
  |none=>.error 6
  |some i=>if(σ.cur.vars.getD i ⟨s,0,0⟩).k≠v.k∨(σ.cur.vars.getD i ⟨s,0,0⟩).len≠v.len then .error 7
   else match bY σ ps ss with
    |.error e=>.error e
    |.ok l=>.ok (σ.cur.idx.getD i 0::l)
 |_::_,[]=>.error 7
def dB(ps:List Vr)(ss:List ByteArray)(σ:PSt):Rs:=
 if ps.length≠ss.length then .error 7 else match bY σ ps ss with
  |.error e=>.error e
  |.ok l=>if 100<=σ.calls.length then .error 19 else .ok {σ with calls:=σ.calls++ [⟨ps,l,0⟩]}
def dY(σ:PSt):Rs:=if σ.calls= []∨0<σ.cur.locals then .error 20 else .ok {σ with calls:=σ.calls.dropLast}
abbrev Mo:=PSt->Nat->Except Int (PSt×Nat)
def xM:Mo:=fun σ f=>.ok (σ,f)
def Mo.seq(a b:Mo):Mo:=fun σ f=>match a σ f with
 |.error e=>.error e
 |.ok r=>b r.1 r.2
def PO:Mo:=fun σ f=>match f with
 |0=>.error 18
 |f+1=>.ok (σ,f)
def liftM(g:PSt->Rs):Mo:=fun σ f=>match g σ with
 |.error e=>.error e
 |.ok σ'=>.ok (σ',f)
def b8(e:Ex)(k:Int->Mo):Mo:=fun σ f=>if(aX σ.look e).2≠0 then .error (aX σ.look e).2 else k (aX σ.look e).1 σ f
def fF(e:Ex)(k:Bool->Mo):Mo:=PO.seq (b8 e fun v=>k (decide (v≠0)))
def bF(e:Ex)(want:Bool):Mo:=fF e fun b=>if b=want then xM else fun _ _=>.error 15
def eM(g:PSt->Rs):Mo:=PO.seq (liftM g)
def iB(a b:Mo)(entry test:Ex):Nat->Mo
 |0=>fun _ _=>.error 18
 |n+1=>a.seq (fF test fun t=>if t then xM else b.seq ((bF entry false).seq (iB a b entry test n)))
def p8(procs:List Pr)(inner:Bool->Sq->Mo)(back:Bool)(s:ByteArray)(args:List ByteArray):Mo:=
 match procs.find? (fun p=>p.nm.toList==s.toList)with
 |none=>fun _ _=>.error 6
 |some p=>PO.seq ((liftM (dB p.params args)).seq ((inner back p.body).seq (PO.seq (liftM dY))))
def put(back:Bool)(a b:Mo):Mo:=if back then b.seq a else a.seq b
def execS(procs:List Pr)(n:Nat)(inner:Bool->Sq->Mo)(back:Bool):Sq->Mo
 |.nil=>xM
 |.upd op p e r=>put back (eM (lW (if back then dH op else op) p e)) (execS procs n inner back r)
 |.swp p q r=>put back (eM (mF p q)) (execS procs n inner back r)
 |.stk op s p r=>put back (eM (kZ (if back then dH op else op) s p)) (execS procs n inner back r)
 |.tap op p r=>put back (eM (lA (if back then dH op else op) p)) (execS procs n inner back r)
 |.cal op s ss r=>put back (p8 procs inner (back !=decide (op=51)) s ss) (execS procs n inner back r)
 |.ifs e a b e' r=>put back (fF (if back then e' else e) fun t=>(inner back (if t then a else b)).seq (bF (if back then e else e') t)) (execS procs n inner back r)
 |.frm e a b e' r=>put back ((bF (if back then e' else e) true).seq (iB (inner back a) (inner back b) (if back then e' else e) (if back then e else e') n)) (execS procs n inner back r)
 |.loc x e b e' r=>put back (PO.seq ((b8 (if back then e' else e) fun v=>liftM (cX ⟨x,1,0⟩ [v])).seq ((inner back b).seq (PO.seq (b8 (if back then e else e') fun v=>liftM (bU x v)))))) (execS procs n inner back r)
 |.lst x b r=>put back (PO.seq ((liftM (cX ⟨x,3,0⟩ [])).seq ((inner back b).seq (PO.seq (liftM (bU x 0)))))) (execS procs n inner back r)
def execP(procs:List Pr):Nat->Bool->Sq->Mo
 |0,_,_=>fun _ _=>.error 18
 |n+1,back,s=>execS procs n (execP procs n) back s
def fA(p:Pg)(back:Bool)(cells:List (List Int))(inp out:List Int)(k:Nat):Except Int (PSt×Nat):=
 execP p.procs 2001 back p.main ⟨cells,⟨p.vars,List.range p.vars.length,0⟩,[],inp,out⟩ k
def Fuels(N:Nat)(a:Mo):Prop:=∀σ f,f<N->(∀σ' f',a σ f=.ok (σ',f')->f'<=f∧∀g,g<N->(f-f'<=g->a σ g=.ok (σ',g-(f-f')))∧(g<f-f'->a σ g=.error 18))
theorem Fuels.mono{N M:Nat}{a:Mo}(h:Fuels N a)(hM:M<=N):Fuels M a:=fun σ f hf σ' f' he=>
 let ⟨h1,h2⟩:=h σ f (by omega) σ' f' he
 ⟨h1,fun g hg=>h2 g (by omega)⟩
theorem Fuels.ok(N:Nat):Fuels N xM:=fun σ f hf σ' f' h=>by
 simp only[xM,Except.ok.injEq,Prod.mk.injEq]at h;obtain⟨rfl,rfl⟩:=h;exact⟨aH _,fun g hg=>⟨fun _=>by simp[xM],fun h=>by omega⟩⟩
theorem Fuels.err(N:Nat)(e:Int):Fuels N fun _ _=>.error e:=fun σ f hf σ' f' h=>by cases h
theorem Fuels.seq{N:Nat}{a b:Mo}(ha:Fuels N a)(hb:Fuels N b):Fuels N (a.seq b):=fun σ f hf σ' f' h=>by
 unfold Mo.seq at h;cases h1:a σ f with
 |error e=>rw[h1]at h;cases h
 |ok r=>
  rw[h1]at h;obtain⟨σ1,f1⟩:=r;obtain⟨q1,q2⟩:=ha σ f hf σ1 f1 h1;obtain⟨q3,q4⟩:=hb σ1 f1 (by omega) σ' f' h;refine⟨by omega,fun g Gl=>⟨fun hg=>?_,fun hg=>?_⟩⟩
  ·unfold Mo.seq
   rw[(q2 g Gl).1 (by omega)];simp only;rw[(q4 _ (by omega)).1 (by omega)];congr 2;omega
  ·unfold Mo.seq
   by_cases hg1:f-f1<=g
   ·rw[(q2 g Gl).1 hg1]
    exact(q4 _ (by omega)).2 (by omega)
   ·rw[(q2 g Gl).2 (by omega)]
theorem Fuels.step{N:Nat}{b:Mo}(hb:Fuels N b):Fuels (N+1) (PO.seq b):=fun σ f hf σ' f' h=>by
 cases f with
 |zero=>cases h
 |succ f=>
  have h':b σ f=.ok (σ',f'):=h;obtain⟨q3,q4⟩:=hb σ f (by omega) σ' f' h';refine⟨by omega,fun g Gl=>?_⟩;cases g with
  |zero=>exact⟨fun hg=>by omega,fun _=>rfl⟩
  |succ g=>
   show(_->b σ g=_)∧(_->b σ g=_);refine⟨fun hg=>?_,fun hg=>(q4 g (by omega)).2 (by omega)⟩;rw[(q4 g (by omega)).1 (by omega)];congr 2;omega
theorem Fuels.stepS{N:Nat}{b:Mo}(hb:Fuels N b):Fuels N (PO.seq b):=(Fuels.step hb).mono (by omega)
theorem Fuels.lift(N:Nat)(g:PSt->Rs):Fuels N (liftM g):=fun σ f hf σ' f' h=>by
 unfold liftM at h;cases h1:g σ with
 |error e=>rw[h1]at h;cases h
 |ok s=>
  rw[h1]at h;simp only[Except.ok.injEq,Prod.mk.injEq]at h;obtain⟨rfl,rfl⟩:=h;refine⟨aH _,fun g' _=>⟨fun _=>by unfold liftM;rw[h1];simp,fun h=>by omega⟩⟩
theorem Fuels.value{N:Nat}(e:Ex){k:Int->Mo}(hk:∀v,Fuels N (k v)):Fuels N (b8 e k):=fun σ f hf σ' f' h=>by
 unfold b8 at h⊢;split at h
 ·cases h
 ·rename_i h0
  obtain⟨q1,q2⟩:=hk _ σ f hf σ' f' h;refine⟨q1,fun g Gl=>⟨fun hg=>?_,fun hg=>?_⟩⟩
  ·rw[if_neg h0];exact(q2 g Gl).1 hg
  ·rw[if_neg h0];exact(q2 g Gl).2 hg
theorem Fuels.holds{N:Nat}(e:Ex){k:Bool->Mo}(hk:∀v,Fuels N (k v)):Fuels (N+1) (fF e k):=Fuels.step (Fuels.value e fun _=>hk _)
theorem Fuels.assert(N:Nat)(e:Ex)(w:Bool):Fuels N (bF e w):=(Fuels.holds e fun b=>by
 by_cases h:b=w
 ·rw[if_pos h];exact Fuels.ok N
 ·rw[if_neg h];exact Fuels.err N 15).mono (by omega)
theorem Fuels.basic(N:Nat)(g:PSt->Rs):Fuels N (eM g):=Fuels.stepS (Fuels.lift N g)
theorem Fuels.loop{a b:Mo}(entry test:Ex):∀n,Fuels n a->Fuels n b->Fuels n (iB a b entry test n)
 |0,_,_=>fun σ f hf=>absurd hf (Nat.not_lt_zero _)
 |n+1,ha,hb=>ha.seq (Fuels.holds test fun t=>by
  cases t with
  |true=>exact Fuels.ok n
  |false=>exact(hb.mono (by omega)).seq ((Fuels.assert n entry false).seq (Fuels.loop entry test n (ha.mono (by omega)) (hb.mono (by omega)))))
theorem Mo.seq_assoc(a b c:Mo):(a.seq b).seq c=a.seq (b.seq c):=by
 funext σ f;unfold Mo.seq;cases a σ f with
 |error e=>rfl
 |ok r=>rfl
theorem Fuels.put{N:Nat}{a b:Mo}(back:Bool)(ha:Fuels N a)(hb:Fuels N b):Fuels N (put back a b):=by
 cases back with
 |true=>exact hb.seq ha
 |false=>exact ha.seq hb
theorem Fuels.execS(procs:List Pr)(n:Nat)(inner:Bool->Sq->Mo)(hi:∀b s,Fuels n (inner b s))(back:Bool):∀s,Fuels (n+1) (Bk.execS procs n inner back s)
 |.nil=>Fuels.ok _
 |.upd op p e r=>Fuels.put back (Fuels.basic _ _) (Fuels.execS procs n inner hi back r)
 |.swp p q r=>Fuels.put back (Fuels.basic _ _) (Fuels.execS procs n inner hi back r)
 |.stk op s p r=>Fuels.put back (Fuels.basic _ _) (Fuels.execS procs n inner hi back r)
 |.tap op p r=>Fuels.put back (Fuels.basic _ _) (Fuels.execS procs n inner hi back r)
 |.cal op s ss r=>by
  refine Fuels.put back ?_ (Fuels.execS procs n inner hi back r);unfold p8;split
  ·exact Fuels.err _ 6
  ·exact Fuels.step ((Fuels.lift n _).seq ((hi _ _).seq (Fuels.stepS (Fuels.lift n _))))
 |.ifs e a b e' r=>Fuels.put back (Fuels.holds _ fun t=>(hi _ _).seq (Fuels.assert n _ t)) (Fuels.execS procs n inner hi back r)
 |.frm e a b e' r=>by
  refine Fuels.put back ?_ (Fuels.execS procs n inner hi back r);unfold bF fF;rw[Mo.seq_assoc];refine Fuels.step (Fuels.seq (Fuels.value _ fun v=>?_) (Fuels.loop _ _ n (hi _ _) (hi _ _)));show Fuels n (if decide (v≠0)=true then xM else fun _ _=>.error 15);by_cases h:decide (v≠0)=true
  ·rw[if_pos h];exact Fuels.ok n
  ·rw[if_neg h];exact Fuels.err n 15
 |.loc x e b e' r=>Fuels.put back (Fuels.step ((Fuels.value _ fun v=>Fuels.lift n _).seq ((hi _ _).seq (Fuels.stepS (Fuels.value _ fun v=>Fuels.lift n _))))) (Fuels.execS procs n inner hi back r)
 |.lst x b r=>Fuels.put back (Fuels.step ((Fuels.lift n _).seq ((hi _ _).seq (Fuels.stepS (Fuels.lift n _))))) (Fuels.execS procs n inner hi back r)
theorem Fuels.execP(procs:List Pr):∀n back s,Fuels n (Bk.execP procs n back s)
 |0,_,_=>fun σ f hf=>absurd hf (Nat.not_lt_zero _)
 |n+1,back,s=>Fuels.execS procs n (Bk.execP procs n) (fun b s=>Fuels.execP procs n b s) back s
end Bk
namespace Bk
open Go.RowKit (wrap64)
structure PFr.Ok(kd:Nat->Int)(nc m:Nat)(f:PFr):Prop where
 len:f.idx.length=f.vars.length
 kind:∀(i:Nat)(v:Vr)(c:Nat),f.vars[i]?=some v->f.idx[i]?=some c->c<nc∧v.k=kd c
 loc:f.locals<=f.vars.length
 bd:f.vars.length<=m
structure PSt.Ok(kd:Nat->Int)(m:Nat)(σ:PSt):Prop where
 base:σ.base.Ok kd σ.cells.length m
 calls:∀f,f∈σ.calls->f.Ok kd σ.cells.length m
 one:∀(c:Nat)(l:List Int),σ.cells[c]?=some l->(kd c=1->l.length=1)∧l.length<=1000
 inp:σ.inp.length<=4096
 out:σ.out.length<=4096
 nc:σ.calls.length<=100
theorem PFr.Ok.mono{kd:Nat->Int}{nc nc' m m':Nat}{f:PFr}(h:f.Ok kd nc m)(hn:nc<=nc')(hm:m<=m'):f.Ok kd nc' m':=
 ⟨h.len,fun i v c h1 h2=>⟨dX (h.kind i v c h1 h2).1 hn,(h.kind i v c h1 h2).2⟩,h.loc,fC h.bd hm⟩
theorem PSt.Ok.mono{kd:Nat->Int}{m m':Nat}{σ:PSt}(h:σ.Ok kd m)(hm:m<=m'):σ.Ok kd m':=
 ⟨h.base.mono (aH _) hm,fun f hf=>(h.calls f hf).mono (aH _) hm,h.one,h.inp,h.out,h.nc⟩
theorem PSt.cur_base{σ:PSt}(h:σ.calls= []):σ.cur=σ.base:=by unfold PSt.cur;rw[h];rfl
theorem PSt.cur_call{σ:PSt}{f:PFr}(h:σ.calls[σ.calls.length-1]?=some f):σ.cur=f:=by
 unfold PSt.cur;rw[List.getLastD_eq_getLast?,List.getLast?_eq_getElem?,h];rfl
theorem PSt.Ok.cur{kd:Nat->Int}{m:Nat}{σ:PSt}(h:σ.Ok kd m):σ.cur.Ok kd σ.cells.length m:=by
 rcases Nat.eq_zero_or_pos σ.calls.length with h0|h0
 ·rw[PSt.cur_base (List.eq_nil_of_length_eq_zero h0)];exact h.base
 ·have he:σ.calls[σ.calls.length-1]?=some (σ.calls[σ.calls.length-1]'(by omega)):=dR (by omega)
  rw[PSt.cur_call he];exact h.calls _ (List.getElem_mem _)
theorem PSt.Ok.setCur{kd:Nat->Int}{m:Nat}{σ:PSt}(h:σ.Ok kd m){f:PFr}(hf:f.Ok kd σ.cells.length m):(σ.setCur f).Ok kd m:=by
 unfold PSt.setCur;split
 ·exact⟨hf,h.calls,h.one,h.inp,h.out,h.nc⟩
 ·refine⟨h.base,fun g hg=>?_,h.one,h.inp,h.out,by simpa using h.nc⟩
  rcases List.mem_or_eq_of_mem_set hg with hg|rfl
  ·exact h.calls g hg
  ·exact hf
theorem fE{s:ByteArray}:∀{l:List Vr}{i:Nat},bK s l=some i->∃v,l[i]?=some v∧(v.nm.toList==s.toList)=true
 | [],_,h=>by cases h
 |v::l,i,h=>by
  simp only[bK]at h;cases h1:bK s l with
  |none=>rw[h1]at h;simp only at h;split at h<;>simp at h;subst h;exact⟨v,rfl,by assumption⟩
  |some j=>rw[h1]at h;simp at h;subst h;simpa using fE h1
theorem oD{vars:List Vr}{s:ByteArray}{k:Int}(h:dT vars s k=0):∃i v,bK s vars=some i∧vars[i]?=some v∧v.k=k:=by
 unfold dT at h;cases h1:bK s vars with
 |none=>rw[h1]at h;simp at h
 |some i=>
  obtain⟨v,hv,_⟩:=fE h1;rw[h1]at h;simp only[Option.bind_some,hv]at h;refine⟨i,v,rfl,hv,?_⟩;by_cases hk:v.k=k
  ·exact hk
  ·rw[if_pos hk]at h;cases h
theorem PSt.Ok.find{kd:Nat->Int}{m:Nat}{σ:PSt}(h:σ.Ok kd m){s:ByteArray}{i:Nat}(hf:bK s σ.cur.vars=some i):∃v c l,σ.cur.vars[i]?=some v∧σ.cur.idx[i]?=some c∧σ.cells[c]?=some l∧v.k=kd c∧σ.at_ s=some c∧σ.look s=some l:=by
 obtain⟨v,hv,_⟩:=fE hf;have hl:=(lgS.1 hv).1;have hc:σ.cur.idx[i]?=some (σ.cur.idx[i]'(by rw[h.cur.len];exact hl)):=dR (by rw[h.cur.len];exact hl);obtain⟨h1,h2⟩:=h.cur.kind i v _ hv hc;have hcl:=dR h1;have nS:σ.at_ s=some (σ.cur.idx[i]'(by rw[h.cur.len];exact hl)):=by
  unfold PSt.at_;rw[hf];simp[eX,hc]
 exact⟨v,_,_,hv,hc,hcl,h2,nS,by unfold PSt.look;rw[nS];simp[eX,hcl]⟩
theorem PSt.Ok.use{kd:Nat->Int}{m:Nat}{σ:PSt}(h:σ.Ok kd m){s:ByteArray}{k:Int}(hu:dT σ.cur.vars s k=0):∃i c l,bK s σ.cur.vars=some i∧σ.cur.idx[i]?=some c∧σ.cells[c]?=some l∧kd c=k∧σ.at_ s=some c∧σ.look s=some l:=by
 obtain⟨i,v,hf,hv,hk⟩:=oD hu;obtain⟨v',c,l,OH,hc,hl,AH,h1,h2⟩:=h.find hf;rw[hv]at OH;injection OH with e;subst e;exact⟨i,c,l,hf,hc,hl,by rw[<-AH,hk],h1,h2⟩
theorem PSt.Ok.cell{kd:Nat->Int}{m:Nat}{σ:PSt}(h:σ.Ok kd m){c:Nat}{l:List Int}(h1:kd c=1->l.length=1)(h2:l.length<=1000):({σ with cells:=σ.cells.set c l}:PSt).Ok kd m:=by
 refine⟨by simpa using h.base,by simpa using h.calls,fun c' l' hc=>?_,h.inp,h.out,h.nc⟩;rw[List.getElem?_set]at hc;split at hc
 ·rename_i he
  subst he;split at hc
  ·injection hc with e;subst e;exact⟨h1,h2⟩
  ·cases hc
 ·exact h.one c' l' hc
theorem PSt.Ok.write{kd:Nat->Int}{m:Nat}{σ:PSt}(h:σ.Ok kd m)(s:ByteArray)(i:Nat)(v:Int):(σ.write s i v).Ok kd m:=by
 unfold PSt.write;cases hc:σ.at_ s with
 |none=>exact h
 |some c=>
  cases hl:σ.cells[c]? with
  |none=>simp only[eX,hl];rw[List.set_eq_of_length_le (by exact List.getElem?_eq_none_iff.1 hl)];exact h
  |some l=>
   simp only[eX,hl];exact h.cell (fun hk=>by simpa using(h.one c l hl).1 hk) (by simpa using(h.one c l hl).2)
theorem PSt.Ok.setCell{kd:Nat->Int}{m:Nat}{σ:PSt}(h:σ.Ok kd m){s:ByteArray}(hu:dT σ.cur.vars s 3=0){l:List Int}(hl:l.length<=1000):(σ.setCell s l).Ok kd m:=by
 obtain⟨i,c,l0,_,_,_,hk,ha,_⟩:=h.use hu;unfold PSt.setCell;rw[ha];exact h.cell (fun h1=>by rw[hk]at h1;cases h1) hl
theorem fR{σ σ':PSt}{p:Ex}{right:Int×Int}{k:Nat->Int->Rs}(h:eE σ p right k=.ok σ'):((c9 σ.look p).2=0∧right.2=0∧0<=(c9 σ.look p).1∧(c9 σ.look p).1<(σ.len p.nam:Int))∧k (c9 σ.look p).1.toNat right.1=.ok σ':=by
 unfold eE at h;split at h
 ·cases h
 split at h
 ·cases h
 split at h
 ·cases h
 ·exact⟨⟨by omega,by omega,by omega,by omega⟩,h⟩
theorem DZ{kd:Nat->Int}{m:Nat}{σ σ':PSt}(h:σ.Ok kd m){op:Int}{p e:Ex}(hr:lW op p e σ=.ok σ'):σ'.Ok kd m:=by
 unfold lW at hr;split at hr
 ·cases hr
 split at hr
 ·cases hr
 obtain⟨_,h2⟩:=fR hr;injection h2 with h2;subst h2;exact h.write _ _ _
theorem DX{kd:Nat->Int}{m:Nat}{σ σ':PSt}(h:σ.Ok kd m){p q:Ex}(hr:mF p q σ=.ok σ'):σ'.Ok kd m:=by
 unfold mF at hr;split at hr
 ·cases hr
 obtain⟨_,h2⟩:=fR hr;split at h2
 ·cases h2
 injection h2 with h2;subst h2;exact(h.write _ _ _).write _ _ _
theorem gB{a b:Int}(h:rS a b=0):a=0∧b=0:=by
 unfold rS at h;split at h<;>omega
theorem PSt.write_cur(σ:PSt)(s:ByteArray)(i:Nat)(v:Int):(σ.write s i v).cur=σ.cur:=by
 unfold PSt.write;split<;>rfl
theorem PSt.Ok.lookLen{kd:Nat->Int}{m:Nat}{σ:PSt}(h:σ.Ok kd m){s:ByteArray}{l:List Int}(hl:σ.look s=some l):l.length<=1000:=by
 unfold PSt.look at hl;cases ha:σ.at_ s with
 |none=>rw[ha]at hl;cases hl
 |some c=>
  rw[ha]at hl;simp only[Option.map_some,Option.some.injEq]at hl;subst hl;rw[eX];cases hc:σ.cells[c]? with
  |none=>simp
  |some l=>exact(h.one c l hc).2
theorem DW{kd:Nat->Int}{m:Nat}{σ σ':PSt}(h:σ.Ok kd m){op:Int}{s:ByteArray}{p:Ex}(hr:kZ op s p σ=.ok σ'):σ'.Ok kd m:=by
 unfold kZ at hr;split at hr
 ·cases hr
 rename_i h0;have hu:=(gB (by omega:rS (dT σ.cur.vars s 3) (bN σ.cur.vars p)=0)).1;obtain⟨_,h2⟩:=fR hr;have hlen:((σ.look s).getD []).length<=1000:=by
  cases hl:σ.look s with
  |none=>simp
  |some l=>exact h.lookLen hl
 split at h2
 ·split at h2
  ·cases h2
  injection h2 with h2;subst h2;refine(h.setCell hu ?_).write _ _ _;rename_i h3;unfold PSt.len at h3;simp;omega
 ·split at h2
  ·cases h2
  split at h2
  ·cases h2
  injection h2 with h2;subst h2;exact(h.write _ _ _).setCell (by rw[PSt.write_cur];exact hu) (by simp;omega)
theorem PSt.Ok.tapes{kd:Nat->Int}{m:Nat}{σ:PSt}(h:σ.Ok kd m){a b:List Int}(ha:a.length<=4096)(hb:b.length<=4096):({σ with inp:=a,out:=b}:PSt).Ok kd m:=⟨h.base,h.calls,h.one,ha,hb,h.nc⟩
theorem DY{kd:Nat->Int}{m:Nat}{σ σ':PSt}(h:σ.Ok kd m){op:Int}{p:Ex}(hr:lA op p σ=.ok σ'):σ'.Ok kd m:=by
 have hi:=h.inp;have ho:=h.out;unfold lA at hr;split at hr
 ·cases hr
 obtain⟨_,h2⟩:=fR hr;split at h2
 ·split at h2
  ·cases h2
  split at h2
  ·cases h2
  injection h2 with h2;subst h2;exact PSt.Ok.write (h.tapes (a:=σ.inp.tail) (b:=σ.out) (by simp;omega) ho) _ _ _
 split at h2
 ·split at h2
  ·cases h2
  injection h2 with h2;subst h2;exact PSt.Ok.write (h.tapes (a:=_::σ.inp) (b:=σ.out) (by simp;omega) ho) _ _ _
 split at h2
 ·split at h2
  ·cases h2
  injection h2 with h2;subst h2;exact PSt.Ok.write (h.tapes (a:=σ.inp) (b:=σ.out++ [_]) hi (by simp;omega)) _ _ _
 ·split at h2
  ·cases h2
  split at h2
  ·cases h2
  injection h2 with h2;subst h2;exact PSt.Ok.write (h.tapes (a:=σ.inp) (b:=σ.out.dropLast) hi (by simp;omega)) _ _ _
theorem qN{kd:Nat->Int}{m:Nat}{σ σ':PSt}(h:σ.Ok kd m){v:Vr}{l:List Int}(h1:v.k=1->l.length=1)(hl:l.length<=1000)(hr:cX v l σ=.ok σ'):σ'.Ok (fun c=>if c=σ.cells.length then v.k else kd c) (m+1):=by
 unfold cX at hr;split at hr
 ·cases hr
 injection hr with hr;subst hr;have hf:∀f:PFr,f.Ok kd σ.cells.length m->f.Ok (fun c=>if c=σ.cells.length then v.k else kd c) (σ.cells.length+1) (m+1):=fun f hf=>
  ⟨hf.len,fun i u c a b=>by obtain⟨q1,q2⟩:=hf.kind i u c a b;exact⟨by omega,by rw[if_neg (by omega)];exact q2⟩,hf.loc,by have:=hf.bd;omega⟩
 have h2:({σ with cells:=σ.cells++ [l]}:PSt).Ok (fun c=>if c=σ.cells.length then v.k else kd c) (m+1):=by
  refine⟨by simpa using hf _ h.base,fun f hm=>by simpa using hf f (h.calls f hm),fun c l' hc=>?_,h.inp,h.out,h.nc⟩;rw[List.getElem?_append]at hc;split at hc
  ·rename_i eI
   rw[if_neg (by omega)];exact h.one c l' hc
  ·rename_i mS
   have:c=σ.cells.length:=by
    have:=(lgS.1 hc).1;simp at this;omega
   subst this;simp at hc;subst hc;rw[if_pos rfl];exact⟨h1,hl⟩
 have hc:=h.cur;refine h2.setCur ⟨by simp[hc.len],fun i u c a b=>?_,by have:=hc.loc;simp;omega,by have:=hc.bd;simp;omega⟩;rw[List.getElem?_append]at a b;rw[hc.len]at b;simp only[List.length_append,List.length_cons,List.length_nil];split at a
 ·rename_i eI
  rw[if_pos eI]at b;obtain⟨q1,q2⟩:=hc.kind i u c a b;exact⟨by omega,by rw[if_neg (by omega)];exact q2⟩
 ·rename_i eI
  rw[if_neg eI]at b;obtain hi:i=σ.cur.vars.length:=by have:=(lgS.1 a).1;simp at this;omega
  subst hi;simp at a b;subst a;subst b;exact⟨by omega,by rw[if_pos rfl]⟩
theorem nQ{kd:Nat->Int}{m:Nat}{σ σ':PSt}(h:σ.Ok kd m){s:ByteArray}{v:Int}(hr:bU s v σ=.ok σ'):σ'.Ok kd m:=by
 unfold bU at hr;split at hr
 ·cases hr
 split at hr
 ·cases hr
 split at hr
 ·cases hr
 injection hr with hr;subst hr;have hc:=h.cur;refine h.setCur ⟨by simp[hc.len],fun i u c a b=>?_,by have:=hc.loc;simp;omega,by have:=hc.bd;simp;omega⟩;rw[List.getElem?_dropLast]at a b;split at a
 ·split at b
  ·exact hc.kind i u c a b
  ·cases b
 ·cases a
theorem uN{kd:Nat->Int}{m:Nat}{σ:PSt}(h:σ.Ok kd m):∀(ps:List Vr)(ss:List ByteArray)(l:List Nat),bY σ ps ss=.ok l->l.length=ps.length∧∀(i:Nat)(v:Vr)(c:Nat),ps[i]?=some v->l[i]?=some c->c<σ.cells.length∧v.k=kd c
 | [],_,l,hr=>by simp[bY]at hr;subst hr;exact⟨rfl,fun i v c a b=>by simp at a⟩
 |v::ps,[],l,hr=>by cases hr
 |v::ps,s::ss,l,hr=>by
  unfold bY at hr;split at hr
  ·cases hr
  rename_i i hi;split at hr
  ·cases hr
  rename_i hk;split at hr
  ·cases hr
  rename_i l' oS;injection hr with hr;subst hr;obtain⟨q1,q2⟩:=uN h ps ss l' oS;obtain⟨u,c,lc,hu,hc,hcl,AH,_⟩:=h.find hi;refine⟨by simp[q1],fun j u' c' a b=>?_⟩;cases j with
  |zero=>
   simp at a b;subst a;rw[hc]at b;simp at b;subst b;rw[eX,hu]at hk;simp at hk;exact⟨(lgS.1 hcl).1,by rw[<-hk.1];exact AH⟩
  |succ j=>exact q2 j u' c' (by simpa using a) (by simpa using b)
theorem rR{kd:Nat->Int}{m:Nat}{σ σ':PSt}(h:σ.Ok kd m){ps:List Vr}{ss:List ByteArray}(hps:ps.length<=m)(hr:dB ps ss σ=.ok σ'):σ'.Ok kd m:=by
 unfold dB at hr;split at hr
 ·cases hr
 split at hr
 ·cases hr
 rename_i l hl;split at hr
 ·cases hr
 injection hr with hr;subst hr;obtain⟨q1,q2⟩:=uN h ps ss l hl;refine⟨h.base,fun f hf=>?_,h.one,h.inp,h.out,by simp;omega⟩;rcases List.mem_append.1 hf with hf|hf
 ·exact h.calls f hf
 ·simp at hf;subst hf
  exact⟨q1,q2,fI _,hps⟩
theorem sF{kd:Nat->Int}{m:Nat}{σ σ':PSt}(h:σ.Ok kd m)(hr:dY σ=.ok σ'):σ'.Ok kd m:=by
 unfold dY at hr;split at hr
 ·cases hr
 injection hr with hr;subst hr;exact⟨h.base,fun f hf=>h.calls f ((List.dropLast_sublist _).subset hf),h.one,h.inp,h.out,by have:=h.nc;simp;omega⟩
end Bk
