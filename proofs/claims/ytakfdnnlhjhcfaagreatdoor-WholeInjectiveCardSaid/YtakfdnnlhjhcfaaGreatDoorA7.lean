/- Part of the proof. -/
import Derived.Test.YtakfdnnlhjhcfaaGreatDoorA6
set_option linter.unusedVariables false
set_option linter.unusedSimpArgs false
namespace Bk
open Go.RowKit (wrap64)
theorem PV{σ σ':PSt}(hi:Inv σ){p q:Ex}(fM:p.isPl)(hql:q.isPl)(hpp:p.ih p.nam=false)(hpq:p.ih q.nam=false)(hqp:q.ih p.nam=false)(hqq:q.ih q.nam=false)(hr:mF p q σ=.ok σ'):Kp σ σ'∧mF p q σ'=.ok σ:=by
 have hok:∃kd m,σ'.Ok kd m:=by obtain⟨kd,m,ho⟩:=hi.ok;exact⟨_,_,DX ho hr⟩
 unfold mF at hr;split at hr
 ·cases hr
 rename_i h0;have h0:=Decidable.not_not.1 h0;obtain⟨f1,f2⟩:=gB h0;obtain⟨⟨p1,p2,p3,p4⟩,hk⟩:=fR hr;split at hk
 ·cases hk
 rename_i hj;injection hk with hk;obtain⟨kp,_,hu⟩:=Ex.pl_use fM f1;obtain⟨c,l,ha,_⟩:=hi.use hu;obtain⟨kq,_,hv⟩:=Ex.pl_use hql f2;obtain⟨d,l',hb,_⟩:=hi.use hv;rw[ha.len]at p4;rw[hb.len]at hj;obtain⟨i,hI⟩:∃i,(c9 σ.look p).1.toNat=i:=⟨_,rfl⟩;obtain⟨j,hJ⟩:∃j,(c9 σ.look q).1.toNat=j:=⟨_,rfl⟩;have mT:i<l.length:=by omega
 have AG:j<l'.length:=by omega
 obtain⟨a,hA⟩:∃a,l.getD i 0=a:=⟨_,rfl⟩;obtain⟨b,hB⟩:∃b,l'.getD j 0=b:=⟨_,rfl⟩;have mV:I64 a:=hA▸i9 (ha.rng hi) i;have hrb:I64 b:=hB▸i9 (hb.rng hi) j;have key:∃cs m m',σ'=σ.upd cs σ.inp σ.out∧cs.length=σ.cells.length∧(∀x,x∈cs->∀v,v∈x->I64 v)∧(∀n,n≠c->n≠d->cs[n]?=σ.cells[n]?)∧cs[c]?=some m∧cs[d]?=some m'∧m.length=l.length∧m'.length=l'.length∧m.getD i 0=b∧m'.getD j 0=a∧(((σ.upd cs σ.inp σ.out).write p.nam i a).write q.nam j b)=σ:=by
  rw[ha.write,ha.read,hI,hb.read,hJ,hA,hB]at hk;by_cases qE:c=d
  ·subst qE
   have hll:l=l':=by have:=ha.cell.symm.trans hb.cell;injection this
   subst hll;have gX:=hb.upd (cs:=σ.cells.set c (l.set i b)) (l':=l.set i b) (by simp[ha.lt]) σ.inp σ.out;rw[gX.write]at hk;have hcs:((σ.cells.set c (l.set i b)).set c ((l.set i b).set j a))=σ.cells.set c ((l.set i b).set j a):=List.set_set ..;refine⟨σ.cells.set c ((l.set i b).set j a),(l.set i b).set j a,(l.set i b).set j a,?_,by simp,lV hi.rc (jH (jH (ha.rng hi) i hrb) j mV) c,fun n h _=>by rw[List.getElem?_set_ne (Ne.symm h)],by simp[ha.lt],by simp[ha.lt],by simp,by simp,?_,by rw[jA (by simpa using AG)],?_⟩
   ·rw[<-hk,<-hcs];rfl
   ·by_cases yM:j=i
    ·subst yM;rw[jA (by simpa using AG),<-hA,<-hB]
    ·rw[eX,List.getElem?_set_ne yM];simp[mT]
   ·have h1:=ha.upd (cs:=σ.cells.set c ((l.set i b).set j a)) (l':=(l.set i b).set j a) (by simp[ha.lt]) σ.inp σ.out
    rw[h1.write];have h2:=hb.upd (cs:=(σ.cells.set c ((l.set i b).set j a)).set c (((l.set i b).set j a).set i a)) (l':=((l.set i b).set j a).set i a) (by simp[ha.lt]) σ.inp σ.out;show((σ.upd ((σ.cells.set c ((l.set i b).set j a)).set c (((l.set i b).set j a).set i a)) σ.inp σ.out).write q.nam j b)=σ;rw[h2.write];refine(PSt.upd_own σ ?_);show((σ.cells.set c ((l.set i b).set j a)).set c (((l.set i b).set j a).set i a)).set c ((((l.set i b).set j a).set i a).set j b)=σ.cells;rw[List.set_set,List.set_set];have hl:(((l.set i b).set j a).set i a).set j b=l:=by
     apply List.ext_getElem?;intro n;simp only[List.getElem?_set,List.length_set];rw[eX]at hA hB;by_cases h1:j=n
     ·subst h1;simp[AG]at hB⊢;rw[<-hB]
     ·by_cases h2:i=n
      ·subst h2;simp[h1,mT]at hA⊢;rw[<-hA]
      ·simp[h1,h2]
    rw[hl];obtain⟨h3,h4⟩:=lgS.1 ha.cell;rw[<-h4,List.set_getElem_self h3]
  ·have gX:=hb.upd (cs:=σ.cells.set c (l.set i b)) (l':=l') (by rw[List.getElem?_set_ne qE];exact hb.cell) σ.inp σ.out
   rw[gX.write]at hk;refine⟨(σ.cells.set c (l.set i b)).set d (l'.set j a),l.set i b,l'.set j a,hk.symm,by simp,lV (lV hi.rc (jH (ha.rng hi) i hrb) c) (jH (hb.rng hi) j mV) d,fun n h h'=>by rw[List.getElem?_set_ne (Ne.symm h'),List.getElem?_set_ne (Ne.symm h)],by rw[List.getElem?_set_ne (Ne.symm qE)];simp[ha.lt],by simp[hb.lt],by simp,by simp,jA mT _,jA AG _,?_⟩;have h1:=ha.upd (cs:=(σ.cells.set c (l.set i b)).set d (l'.set j a)) (l':=l.set i b) (by rw[List.getElem?_set_ne (Ne.symm qE)];simp[ha.lt]) σ.inp σ.out;rw[h1.write];have h2:=hb.upd (cs:=((σ.cells.set c (l.set i b)).set d (l'.set j a)).set c ((l.set i b).set i a)) (l':=l'.set j a) (by rw[List.getElem?_set_ne qE];simp[hb.lt]) σ.inp σ.out;show((σ.upd (((σ.cells.set c (l.set i b)).set d (l'.set j a)).set c ((l.set i b).set i a)) σ.inp σ.out).write q.nam j b)=σ;rw[h2.write];refine(PSt.upd_own σ ?_);show((((σ.cells.set c (l.set i b)).set d (l'.set j a)).set c ((l.set i b).set i a)).set d ((l'.set j a).set j b))=σ.cells;rw[<-hA,<-hB,sK mT,sK AG];apply List.ext_getElem?;intro n;simp only[List.getElem?_set,List.length_set];by_cases h1:d=n
   ·subst h1;simp[hb.lt,ha.cell,hb.cell];rw[(lgS.1 hb.cell).2]
   ·by_cases h2:c=n
    ·subst h2;simp[h1,ha.lt];rw[(lgS.1 ha.cell).2]
    ·simp[h1,h2]
 obtain⟨cs,m,m',rfl,k1,k2,k3,k4,k5,k6,k7,k8,k9,WH⟩:=key;refine⟨Kp.upd hi hok k1 k2 hi.ri hi.ro,?_⟩;have hl1:=gG (look:=σ.look) (look':=(σ.upd cs σ.inp σ.out).look) p fun t ht=>hi.look ha.at_ hb.at_ (oT hpp ht) (oT hpq ht) k3 _ _
 have hl2:=gG (look:=σ.look) (look':=(σ.upd cs σ.inp σ.out).look) q fun t ht=>hi.look ha.at_ hb.at_ (oT hqp ht) (oT hqq ht) k3 _ _
 have wR:=ha.upd k4 σ.inp σ.out;have gX:=hb.upd k5 σ.inp σ.out;unfold mF;rw[if_neg (by exact fun h=>h h0),oA (by rw[hl1];exact p1) (by rw[hl2];exact p2) (by rw[hl1];exact p3) (by rw[hl1,wR.len,k6];exact p4),hl1,hl2,if_neg (by rw[gX.len,k7];exact hj),hI,hJ,gX.read,wR.read,k8,k9];exact congrArg _ WH
theorem XK{vars:List Vr}{s t:ByteArray}{k k':Int}(h:dT vars s k=0)(h':dT vars t k'=0)(hk:k≠k'):(t.toList==s.toList)=false:=by
 cases hn:(t.toList==s.toList)with
 |false=>rfl
 |true=>
  have e:t.toList=s.toList:=by simpa using hn
  have hf:∀l:List Vr,bK t l=bK s l:=by
   intro l
   induction l with
   |nil=>rfl
   |cons v l ih=>simp only[bK,ih,e]
  obtain⟨i,v,h1,h2,h3⟩:=oD h;obtain⟨j,u,g1,g2,g3⟩:=oD h';rw[hf,h1]at g1;injection g1 with g1;subst g1;rw[h2]at g2;injection g2 with g2;subst g2;omega
theorem oQ(l:List Int)(a:Int):(l++ [a]).getLastD 0=a:=by simp[List.getLastD_eq_getLast?]
theorem oP{l:List Int}(h:l.length≠0):l.dropLast++ [l.getLastD 0]=l:=by
 cases l with
 |nil=>exact absurd rfl h
 |cons a l=>
  rw[List.getLastD_eq_getLast?,List.getLast?_eq_some_getLast (List.cons_ne_nil a l),Option.getD_some,List.dropLast_concat_getLast]
theorem lN{l:List Int}(h:∀v,v∈l->I64 v):I64 (l.getLastD 0):=by
 rw[List.getLastD_eq_getLast?];cases hl:l.getLast? with
 |none=>exact I64.zero
 |some v=>exact h v (List.mem_of_getLast? hl)
theorem PR{σ σ':PSt}(hi:Inv σ){op:Int}{s:ByteArray}{p:Ex}(fY:op=44∨op=45)(fM:p.isPl)(hp:p.ih p.nam=false)(hs:p.ih s=false)(hr:kZ op s p σ=.ok σ'):Kp σ σ'∧kZ (dH op) s p σ'=.ok σ:=by
 have hok:∃kd m,σ'.Ok kd m:=by obtain⟨kd,m,ho⟩:=hi.ok;exact⟨_,_,DW ho hr⟩
 unfold kZ at hr;split at hr
 ·cases hr
 rename_i h0;have h0:=Decidable.not_not.1 h0;obtain⟨f1,f2⟩:=gB h0;obtain⟨⟨p1,p2,p3,p4⟩,hk⟩:=fR hr;obtain⟨k,DJ,hu⟩:=Ex.pl_use fM f2;obtain⟨c,l,ha,hll⟩:=hi.use hu;obtain⟨d,l',hb,aA7⟩:=hi.use f1;have dG:=XK hu f1 (by omega);have qE:c≠d:=fun x=>by subst x;rw[hi.name ha.at_ hb.at_]at dG;cases dG
 rw[ha.len]at p4;obtain⟨i,hI⟩:∃i,(c9 σ.look p).1.toNat=i:=⟨_,rfl⟩;have mT:i<l.length:=by omega
 rw[hb.len,hI,ha.read,hb.look,Option.getD_some]at hk;have main:∀l2 x,(∀v,v∈l2->I64 v)->I64 x->(∃kd m,(σ.upd ((σ.cells.set d l2).set c (l.set i x)) σ.inp σ.out).Ok kd m)->
   Kp σ (σ.upd ((σ.cells.set d l2).set c (l.set i x)) σ.inp σ.out)∧∀op',kZ op' s p (σ.upd ((σ.cells.set d l2).set c (l.set i x)) σ.inp σ.out)=
    if op'=44 then(if 1000<=l2.length then .error 5 else .ok (σ.upd ((σ.cells.set d (l2++ [x])).set c (l.set i 0)) σ.inp σ.out))
    else if l2.length=0 then .error 13 else if x≠0 then .error 14 else .ok (σ.upd ((σ.cells.set d l2.dropLast).set c (l.set i (l2.getLastD 0))) σ.inp σ.out):=by
  intro l2 x hl2 hx hok;refine⟨Kp.upd hi hok (by simp) (lV (lV hi.rc hl2 d) (jH (ha.rng hi) i hx) c) hi.ri hi.ro,fun op'=>?_⟩;have hcs:∀n,n≠c->n≠d->((σ.cells.set d l2).set c (l.set i x))[n]?=σ.cells[n]?:=fun n h h'=>by rw[List.getElem?_set_ne (Ne.symm h),List.getElem?_set_ne (Ne.symm h')]
  have hl1:=gG (look:=σ.look) (look':=(σ.upd ((σ.cells.set d l2).set c (l.set i x)) σ.inp σ.out).look) p fun t ht=>hi.look ha.at_ hb.at_ (oT hp ht) (oT hs ht) hcs _ _
  have wR:=ha.upd (cs:=(σ.cells.set d l2).set c (l.set i x)) (l':=l.set i x) (by simp[ha.lt]) σ.inp σ.out;have gX:=hb.upd (cs:=(σ.cells.set d l2).set c (l.set i x)) (l':=l2) (by rw[List.getElem?_set_ne qE];simp[hb.lt]) σ.inp σ.out;unfold kZ;rw[if_neg (by exact fun h=>h h0),oA (by rw[hl1];exact p1) rfl (by rw[hl1];exact p3) (by rw[hl1,wR.len];simpa using p4),hl1,hI,gX.len,wR.read,jA mT,gX.look,Option.getD_some];congr 1
  ·congr 2
   rw[gX.setCell];have h3:=wR.upd (cs:=((σ.cells.set d l2).set c (l.set i x)).set d (l2++ [x])) (l':=l.set i x) (by rw[List.getElem?_set_ne (Ne.symm qE)];simp[ha.lt]) σ.inp σ.out;refine(h3.write i 0).trans ?_;show σ.upd ((((σ.cells.set d l2).set c (l.set i x)).set d (l2++ [x])).set c ((l.set i x).set i 0)) σ.inp σ.out=_;congr 1;rw[List.set_set (l:=l),List.set_comm _ _ qE,List.set_set,List.set_set]
  ·congr 3
   rw[wR.write];have h3:=gX.upd (cs:=((σ.cells.set d l2).set c (l.set i x)).set c ((l.set i x).set i (l2.getLastD 0))) (l':=l2) (by rw[List.getElem?_set_ne qE,List.getElem?_set_ne qE];simp[hb.lt]) σ.inp σ.out;refine(h3.setCell l2.dropLast).trans ?_;show σ.upd ((((σ.cells.set d l2).set c (l.set i x)).set c ((l.set i x).set i (l2.getLastD 0))).set d l2.dropLast) σ.inp σ.out=_;congr 1;rw[List.set_set (l:=l),List.set_set,List.set_comm _ _ qE,List.set_set]
 have own:(σ.cells.set d l').set c (l.set i (l.getD i 0))=σ.cells:=by
  rw[eX,dR mT,Option.getD_some,List.set_getElem_self mT];obtain⟨h1,h2⟩:=lgS.1 hb.cell;obtain⟨h3,h4⟩:=lgS.1 ha.cell;have e:σ.cells.set d l'=σ.cells:=by rw[<-h2,List.set_getElem_self h1]
  rw[e,<-h4,List.set_getElem_self h3]
 split at hk
 ·rename_i h44
  subst h44;split at hk
  ·cases hk
  rename_i eI;injection hk with hk;rw[hb.setCell]at hk;have h3:=ha.upd (cs:=σ.cells.set d (l'++ [l.getD i 0])) (l':=l) (by rw[List.getElem?_set_ne (Ne.symm qE)];exact ha.cell) σ.inp σ.out;rw[h3.write]at hk;have tB:σ.upd ((σ.cells.set d (l'++ [l.getD i 0])).set c (l.set i 0)) σ.inp σ.out=σ':=hk;subst tB;obtain⟨m1,m2⟩:=main (l'++ [l.getD i 0]) 0 (fun v hv=>by rcases List.mem_append.1 hv with h|h;exact hb.rng hi v h;simp at h;subst h;exact i9 (ha.rng hi) i) I64.zero hok;refine⟨m1,(m2 45).trans ?_⟩;rw[if_neg (by decide),if_neg (by simp),if_neg (by simp),oQ,List.dropLast_concat];exact congrArg _ (PSt.upd_own σ own)
 ·rename_i h44
  obtain rfl:op=45:=by omega
  split at hk
  ·cases hk
  rename_i hlen;split at hk
  ·cases hk
  rename_i hz;have hz:=Decidable.not_not.1 hz;injection hk with hk;rw[ha.write]at hk;have h3:=hb.upd (cs:=σ.cells.set c (l.set i (l'.getLastD 0))) (l':=l') (by rw[List.getElem?_set_ne qE];exact hb.cell) σ.inp σ.out;rw[h3.setCell]at hk;have tB:σ.upd ((σ.cells.set c (l.set i (l'.getLastD 0))).set d l'.dropLast) σ.inp σ.out=σ':=hk;rw[List.set_comm _ _ qE]at tB;subst tB;obtain⟨m1,m2⟩:=main l'.dropLast (l'.getLastD 0) (fun v hv=>hb.rng hi v ((List.dropLast_sublist _).subset hv)) (lN (hb.rng hi)) hok;refine⟨m1,(m2 44).trans ?_⟩;rw[if_pos rfl,if_neg (by simp;omega),oP hlen];rw[hz]at own;exact congrArg _ (PSt.upd_own σ own)
theorem PY{σ σ':PSt}(hi:Inv σ){op:Int}{p:Ex}(fY:op=46∨op=47∨op=48∨op=49)(fM:p.isPl)(hp:p.ih p.nam=false)(hr:lA op p σ=.ok σ'):Kp σ σ'∧lA (dH op) p σ'=.ok σ:=by
 have hok:∃kd m,σ'.Ok kd m:=by obtain⟨kd,m,ho⟩:=hi.ok;exact⟨_,_,DY ho hr⟩
 have xG:σ.inp.length<=4096∧σ.out.length<=4096:=by obtain⟨kd,m,ho⟩:=hi.ok;exact⟨ho.inp,ho.out⟩
 unfold lA at hr;split at hr
 ·cases hr
 rename_i h0;have h0:=Decidable.not_not.1 h0;obtain⟨⟨p1,p2,p3,p4⟩,hk⟩:=fR hr;obtain⟨k,DJ,hu⟩:=Ex.pl_use fM h0;obtain⟨c,l,ha,hll⟩:=hi.use hu;rw[ha.len]at p4;obtain⟨i,hI⟩:∃i,(c9 σ.look p).1.toNat=i:=⟨_,rfl⟩;have mT:i<l.length:=by omega
 rw[hI,ha.read]at hk;have har:=i9 (ha.rng hi) i;have hw:∀a b x,({σ with inp:=a,out:=b}:PSt).write p.nam i x=σ.upd (σ.cells.set c (l.set i x)) a b:=fun a b x=>by
  have h1:At {σ with inp:=a,out:=b} p.nam c l:=⟨ha.at_,ha.cell⟩;exact h1.write i x
 have main:∀a b x,(∀v,v∈a->I64 v)->(∀v,v∈b->I64 v)->I64 x->(∃kd m,(σ.upd (σ.cells.set c (l.set i x)) a b).Ok kd m)->
   Kp σ (σ.upd (σ.cells.set c (l.set i x)) a b)∧∀op',lA op' p (σ.upd (σ.cells.set c (l.set i x)) a b)=
    if op'=46 then(if a= []then .error 17 else if x≠0 then .error 14 else .ok (σ.upd (σ.cells.set c (l.set i (a.headD 0))) a.tail b))
    else if op'=47 then(if 4096<=a.length then .error 5 else .ok (σ.upd (σ.cells.set c (l.set i 0)) (x::a) b))
    else if op'=48 then(if 4096<=b.length then .error 5 else .ok (σ.upd (σ.cells.set c (l.set i 0)) a (b++ [x])))
    else(if b= []then .error 17 else if x≠0 then .error 14 else .ok (σ.upd (σ.cells.set c (l.set i (b.getLastD 0))) a b.dropLast)):=by
  intro a b x h1 h2 hx hok;refine⟨Kp.upd hi hok (by simp) (lV hi.rc (jH (ha.rng hi) i hx) c) h1 h2,fun op'=>?_⟩;have hcs:∀n,n≠c->n≠c->(σ.cells.set c (l.set i x))[n]?=σ.cells[n]?:=fun n h _=>by rw[List.getElem?_set_ne (Ne.symm h)]
  have hl1:=gG (look:=σ.look) (look':=(σ.upd (σ.cells.set c (l.set i x)) a b).look) p fun t ht=>hi.look ha.at_ ha.at_ (oT hp ht) (oT hp ht) hcs _ _
  have wR:=ha.upd (cs:=σ.cells.set c (l.set i x)) (l':=l.set i x) (by simp[ha.lt]) a b;have Vf:∀a' b' y,({σ.upd (σ.cells.set c (l.set i x)) a b with inp:=a',out:=b'}:PSt).write p.nam i y=σ.upd (σ.cells.set c (l.set i y)) a' b':=fun a' b' y=>by
   have h1:At {σ.upd (σ.cells.set c (l.set i x)) a b with inp:=a',out:=b'} p.nam c (l.set i x):=⟨wR.at_,wR.cell⟩;refine(h1.write i y).trans ?_;show σ.upd ((σ.cells.set c (l.set i x)).set c ((l.set i x).set i y)) a' b'=_;rw[List.set_set,List.set_set]
  unfold lA;rw[if_neg (by exact fun h=>h h0),oA (by rw[hl1];exact p1) rfl (by rw[hl1];exact p3) (by rw[hl1,wR.len];simpa using p4),hl1,hI,wR.read,jA mT];have e1:=Vf a.tail b (a.headD 0);have e2:=Vf (x::a) b 0;have e3:=Vf a (b++ [x]) 0;have e4:=Vf a b.dropLast (b.getLastD 0);rw[<-e1,<-e2,<-e3,<-e4];rfl
 have own:∀y,y=l.getD i 0->σ.upd (σ.cells.set c (l.set i y)) σ.inp σ.out=σ:=fun y hy=>by
  refine PSt.upd_own σ ?_;rw[hy,eX,dR mT,Option.getD_some,List.set_getElem_self mT];obtain⟨h3,h4⟩:=lgS.1 ha.cell;rw[<-h4,List.set_getElem_self h3]
 split at hk
 ·rename_i h
  subst h;split at hk
  ·cases hk
  rename_i dG;split at hk
  ·cases hk
  rename_i hz;have hz:=Decidable.not_not.1 hz;injection hk with hk;have tB:σ.upd (σ.cells.set c (l.set i (σ.inp.headD 0))) σ.inp.tail σ.out=σ':=(hw _ _ _).symm.trans hk;subst tB;obtain⟨v,r,hvr⟩:∃v r,σ.inp=v::r:=by cases h:σ.inp with|nil=>exact absurd h dG|cons v r=>exact⟨v,r,rfl⟩
  have hv:I64 (σ.inp.headD 0):=by rw[hvr];exact hi.ri v (by rw[hvr];exact List.mem_cons_self ..)
  obtain⟨m1,m2⟩:=main _ _ _ (fun v hv=>hi.ri v (List.mem_of_mem_tail hv)) hi.ro hv hok;refine⟨m1,(m2 47).trans ?_⟩;rw[if_neg (by decide),if_pos rfl,if_neg (by rw[hvr]at xG⊢;simp at xG⊢;omega)];have:σ.inp.headD 0::σ.inp.tail=σ.inp:=by rw[hvr];rfl
  rw[this];exact congrArg _ (own 0 hz.symm)
 split at hk
 ·rename_i h
  subst h;split at hk
  ·cases hk
  rename_i dG;injection hk with hk;have tB:σ.upd (σ.cells.set c (l.set i 0)) (l.getD i 0::σ.inp) σ.out=σ':=(hw _ _ _).symm.trans hk;subst tB;obtain⟨m1,m2⟩:=main _ _ _ (fun v hv=>by rcases List.mem_cons.1 hv with rfl|h;exact har;exact hi.ri v h) hi.ro I64.zero hok;refine⟨m1,(m2 46).trans ?_⟩;rw[if_pos rfl,if_neg (by simp),if_neg (by simp)];exact congrArg _ (own _ rfl)
 split at hk
 ·rename_i h
  subst h;split at hk
  ·cases hk
  rename_i dG;injection hk with hk;have tB:σ.upd (σ.cells.set c (l.set i 0)) σ.inp (σ.out++ [l.getD i 0])=σ':=(hw _ _ _).symm.trans hk;subst tB;obtain⟨m1,m2⟩:=main _ _ _ hi.ri (fun v hv=>by rcases List.mem_append.1 hv with h|h;exact hi.ro v h;simp at h;subst h;exact har) I64.zero hok;refine⟨m1,(m2 49).trans ?_⟩;rw[if_neg (by decide),if_neg (by decide),if_neg (by decide),if_neg (by simp),if_neg (by simp),oQ,List.dropLast_concat];exact congrArg _ (own _ rfl)
 ·obtain rfl:op=49:=by omega
  split at hk
  ·cases hk
  rename_i dG;split at hk
  ·cases hk
  rename_i hz;have hz:=Decidable.not_not.1 hz;injection hk with hk;have tB:σ.upd (σ.cells.set c (l.set i (σ.out.getLastD 0))) σ.inp σ.out.dropLast=σ':=(hw _ _ _).symm.trans hk;subst tB;have hlen:σ.out.length≠0:=fun h=>dG (List.eq_nil_of_length_eq_zero h)
  obtain⟨m1,m2⟩:=main _ _ _ hi.ri (fun v hv=>hi.ro v ((List.dropLast_sublist _).subset hv)) (lN hi.ro) hok;refine⟨m1,(m2 48).trans ?_⟩;rw[if_neg (by decide),if_neg (by decide),if_pos rfl,if_neg (by simp;omega),oP hlen];exact congrArg _ (own 0 hz.symm)
end Bk
namespace Bk
open Go.RowKit (wrap64)
def PFr.ren(ρ:Nat->Nat)(f:PFr):PFr:=⟨f.vars,f.idx.map ρ,f.locals⟩
def fV(σ:PSt)(c:Nat):Prop:=c∈σ.base.idx∨∃f,f∈σ.calls∧c∈f.idx
structure Sim(ρ:Nat->Nat)(τ σ:PSt):Prop where
 base:τ.base=σ.base.ren ρ
 calls:τ.calls=σ.calls.map (PFr.ren ρ)
 inp:τ.inp=σ.inp
 out:τ.out=σ.out
 cells:∀c,fV σ c->τ.cells[ρ c]?=σ.cells[c]?
 inj:∀c d,fV σ c->fV σ d->ρ c=ρ d->c=d
 len:σ.cur.idx.length=σ.cur.vars.length
section
variable{ρ:Nat->Nat}{τ σ:PSt}
theorem CX(hb:τ.base=σ.base.ren ρ)(hc:τ.calls=σ.calls.map (PFr.ren ρ)):τ.cur=σ.cur.ren ρ:=by
 unfold PSt.cur;rw[hb,hc,List.getLastD_eq_getLast?,List.getLastD_eq_getLast?,List.getLast?_map];cases σ.calls.getLast?<;>rfl
theorem Sim.cur(h:Sim ρ τ σ):τ.cur=σ.cur.ren ρ:=CX h.base h.calls
theorem Sim.vars(h:Sim ρ τ σ):τ.cur.vars=σ.cur.vars:=by rw[h.cur];rfl
theorem kT{c:Nat}(h:c∈σ.cur.idx):fV σ c:=by
 unfold PSt.cur at h;rw[List.getLastD_eq_getLast?]at h;cases hl:σ.calls.getLast? with
 |none=>rw[hl]at h;exact .inl h
 |some f=>rw[hl]at h;exact .inr ⟨f,List.mem_of_getLast? hl,h⟩
theorem KQ{s:ByteArray}{i:Nat}(h:bK s σ.cur.vars=some i):i<σ.cur.vars.length:=by
 obtain⟨v,hv,_⟩:=fE h;exact(lgS.1 hv).1
theorem pZ(hl:σ.cur.idx.length=σ.cur.vars.length){s:ByteArray}{c:Nat}(h:σ.at_ s=some c):fV σ c:=by
 unfold PSt.at_ at h;cases h1:bK s σ.cur.vars with
 |none=>rw[h1]at h;cases h
 |some i=>
  rw[h1]at h;have hi:=KQ h1;simp[eX,dR (show i<σ.cur.idx.length by omega)]at h;subst h;exact kT (List.getElem_mem _)
theorem Sim.at_(h:Sim ρ τ σ)(s:ByteArray):τ.at_ s=(σ.at_ s).map ρ:=by
 unfold PSt.at_;rw[h.vars];cases h1:bK s σ.cur.vars with
 |none=>rfl
 |some i=>
  have hi:=KQ h1;have hl:=h.len;rw[h.cur];have:i<σ.cur.idx.length:=by omega
  simp[PFr.ren,eX,this]
theorem Sim.look(h:Sim ρ τ σ):τ.look=σ.look:=by
 funext s;unfold PSt.look;rw[h.at_];cases h1:σ.at_ s with
 |none=>rfl
 |some c=>simp only[Option.map_some,eX,h.cells c (pZ h.len h1)]
theorem Sim.slen(h:Sim ρ τ σ)(s:ByteArray):τ.len s=σ.len s:=by unfold PSt.len;rw[h.look]
theorem Sim.read(h:Sim ρ τ σ)(s:ByteArray)(i:Nat):τ.read s i=σ.read s i:=by unfold PSt.read;rw[h.look]
theorem Sim.put(h:Sim ρ τ σ){c:Nat}(hc:fV σ c)(l a b:List Int):Sim ρ (τ.upd (τ.cells.set (ρ c) l) a b) (σ.upd (σ.cells.set c l) a b):=by
 refine⟨h.base,h.calls,rfl,rfl,fun d hd=>?_,h.inj,h.len⟩;show(τ.cells.set (ρ c) l)[ρ d]?=(σ.cells.set c l)[d]?;have hd':fV σ d:=hd;by_cases e:c=d
 ·subst e
  have h1:=h.cells c hc;rw[List.getElem?_set_self',List.getElem?_set_self',h1]
 ·rw[List.getElem?_set_ne e,List.getElem?_set_ne (fun x=>e (h.inj c d hc hd' x)),h.cells d hd']
theorem Sim.tapes(h:Sim ρ τ σ)(a b:List Int):Sim ρ {τ with inp:=a,out:=b} {σ with inp:=a,out:=b}:=⟨h.base,h.calls,rfl,rfl,h.cells,h.inj,h.len⟩
theorem Sim.write(h:Sim ρ τ σ)(s:ByteArray)(i:Nat)(v:Int):Sim ρ (τ.write s i v) (σ.write s i v):=by
 unfold PSt.write;rw[h.at_];cases h1:σ.at_ s with
 |none=>exact h
 |some c=>
  have hc:=pZ h.len h1;have:=h.put hc ((σ.cells.getD c []).set i v) σ.inp σ.out;simp only[Option.map_some,eX,h.cells c hc];simp only[eX]at this;have e:τ.upd (τ.cells.set (ρ c) ((σ.cells[c]?.getD []).set i v)) σ.inp σ.out={τ with cells:=τ.cells.set (ρ c) ((σ.cells[c]?.getD []).set i v)}:=by rw[<-h.inp,<-h.out];rfl
  rw[e]at this;exact this
theorem Sim.setCell(h:Sim ρ τ σ)(s:ByteArray)(l:List Int):Sim ρ (τ.setCell s l) (σ.setCell s l):=by
 unfold PSt.setCell;rw[h.at_];cases h1:σ.at_ s with
 |none=>exact h
 |some c=>
  have hc:=pZ h.len h1;have:=h.put hc l σ.inp σ.out;have e:τ.upd (τ.cells.set (ρ c) l) σ.inp σ.out={τ with cells:=τ.cells.set (ρ c) l}:=by rw[<-h.inp,<-h.out];rfl
  rw[e]at this;exact this
def RelS(ρ:Nat->Nat)(a b:Rs):Prop:=match a,b with
 |.ok τ,.ok σ=>Sim ρ τ σ
 |.error e,.error e'=>e=e'
 |_,_=>False
theorem RelS.ok{a b:Rs}(h:RelS ρ a b){σ':PSt}(hb:b=.ok σ'):∃τ',a=.ok τ'∧Sim ρ τ' σ':=by
 subst hb;cases a with
 |error e=>exact h.elim
 |ok τ'=>exact⟨τ',rfl,h⟩
theorem RelS.ite{c:Prop} [Decidable c]{a b a' b':Rs}(h1:c->RelS ρ a a')(h2:¬c->RelS ρ b b'):RelS ρ (if c then a else b) (if c then a' else b'):=by
 by_cases h:c
 ·rw[if_pos h,if_pos h];exact h1 h
 ·rw[if_neg h,if_neg h];exact h2 h
theorem RelS.err(e:Int):RelS ρ (.error e) (.error e):=rfl
theorem lU(h:Sim ρ τ σ){p:Ex}{r:Int×Int}{k k':Nat->Int->Rs}(hk:∀i v,RelS ρ (k i v) (k' i v)):RelS ρ (eE τ p r k) (eE σ p r k'):=by
 unfold eE;rw[h.look,h.slen];exact RelS.ite (fun _=>RelS.err _) fun _=>RelS.ite (fun _=>RelS.err _) fun _=>RelS.ite (fun _=>RelS.err _) fun _=>hk _ _
theorem QG(h:Sim ρ τ σ)(op:Int)(p e:Ex):RelS ρ (lW op p e τ) (lW op p e σ):=by
 unfold lW;rw[h.vars,h.look];refine RelS.ite (fun _=>RelS.err _) fun _=>RelS.ite (fun _=>RelS.err _) fun _=>lU h fun i v=>?_
 rw[h.read];exact h.write _ _ _
theorem PS(h:Sim ρ τ σ)(p q:Ex):RelS ρ (mF p q τ) (mF p q σ):=by
 unfold mF;rw[h.vars,h.look];refine RelS.ite (fun _=>RelS.err _) fun _=>lU h fun i v=>?_
 rw[h.read,h.read,h.slen];exact RelS.ite (fun _=>RelS.err _) fun _=>(h.write _ _ _).write _ _ _
theorem PQ(h:Sim ρ τ σ)(op:Int)(s:ByteArray)(p:Ex):RelS ρ (kZ op s p τ) (kZ op s p σ):=by
 unfold kZ;rw[h.vars,h.look];refine RelS.ite (fun _=>RelS.err _) fun _=>lU h fun i v=>?_
 rw[h.read,h.slen];exact RelS.ite (fun _=>RelS.ite (fun _=>RelS.err _) fun _=>(h.setCell _ _).write _ _ _) fun _=>RelS.ite (fun _=>RelS.err _) fun _=>RelS.ite (fun _=>RelS.err _) fun _=>(h.write _ _ _).setCell _ _
theorem PX(h:Sim ρ τ σ)(op:Int)(p:Ex):RelS ρ (lA op p τ) (lA op p σ):=by
 have t:=fun(a b:List Int)(i:Nat)(v:Int)=>(h.tapes a b).write p.nam i v
 unfold lA;rw[h.vars];refine RelS.ite (fun _=>RelS.err _) fun _=>lU h fun i v=>?_
 rw[h.read,h.inp,h.out];exact RelS.ite (fun _=>RelS.ite (fun _=>RelS.err _) fun _=>RelS.ite (fun _=>RelS.err _) fun _=>t _ _ _ _) fun _=>RelS.ite (fun _=>RelS.ite (fun _=>RelS.err _) fun _=>t _ _ _ _) fun _=>RelS.ite (fun _=>RelS.ite (fun _=>RelS.err _) fun _=>t _ _ _ _) fun _=>RelS.ite (fun _=>RelS.err _) fun _=>RelS.ite (fun _=>RelS.err _) fun _=>t _ _ _ _
end
def Eqv(τ σ:PSt):Prop:=∃ρ,Sim ρ τ σ
theorem Eqv.look{τ σ:PSt}(h:Eqv τ σ):τ.look=σ.look:=h.elim fun _ h=>h.look
def Rv(N k:Nat)(a b:Mo):Prop:=∀σ f σ' f',Inv σ->a σ f=.ok (σ',f')->f'+k<=f∧Kp σ σ'∧∀τ g,Eqv τ σ'->f-f'<=g->g<N->∃τ',b τ g=.ok (τ',g-(f-f'))∧Eqv τ' σ
theorem Rv.mono{N M k j:Nat}{a b:Mo}(h:Rv N k a b)(hM:M<=N)(hj:j<=k):Rv M j a b:=fun σ f σ' f' hi ha=>
 let ⟨h1,h2,h3⟩:=h σ f σ' f' hi ha
 ⟨by omega,h2,fun τ g q1 q2 q3=>h3 τ g q1 q2 (by omega)⟩
theorem Rv.ok(N:Nat):Rv N 0 xM xM:=fun σ f σ' f' hi h=>by
 simp only[xM,Except.ok.injEq,Prod.mk.injEq]at h;obtain⟨rfl,rfl⟩:=h;exact⟨aH _,Kp.refl hi,fun τ g q1 q2 q3=>⟨τ,by simp[xM],q1⟩⟩
theorem Rv.err(N k:Nat)(x:Int)(b:Mo):Rv N k (fun _ _=>.error x) b:=fun σ f σ' f' hi h=>by cases h
theorem Rv.seq{N M k j:Nat}{a a' b b':Mo}(ha:Rv N k a a')(hb:Rv M j b b')(hN:M<=N+j):Rv M (k+j) (a.seq b) (b'.seq a'):=fun σ f σ' f' hi h=>by
 unfold Mo.seq at h;cases h1:a σ f with
 |error e=>rw[h1]at h;cases h
 |ok r=>
  rw[h1]at h;obtain⟨σ1,f1⟩:=r;obtain⟨q1,q2,q3⟩:=ha σ f σ1 f1 hi h1;obtain⟨q4,q5,q6⟩:=hb σ1 f1 σ' f' q2.inv h;refine⟨by omega,q2.trans q5,fun τ g k1 k2 k3=>?_⟩;obtain⟨τ1,h2,h3⟩:=q6 τ g k1 (by omega) k3;obtain⟨τ2,h4,h5⟩:=q3 τ1 (g-(f1-f')) h3 (by omega) (by omega);refine⟨τ2,?_,h5⟩;unfold Mo.seq;rw[h2];simp only;rw[h4];congr 2;omega
theorem FE{g:PSt->Rs}{σ σ':PSt}{f f':Nat}(h:eM g σ f=.ok (σ',f')):f=f'+1∧g σ=.ok σ':=by
 cases f with
 |zero=>cases h
 |succ f=>
  have h':liftM g σ f=.ok (σ',f'):=h;unfold liftM at h';cases h1:g σ with
  |error e=>rw[h1]at h';cases h'
  |ok s=>rw[h1]at h';simp only[Except.ok.injEq,Prod.mk.injEq]at h';exact⟨by omega,by rw[h'.1]⟩
theorem KT{g:PSt->Rs}{σ σ':PSt}{f:Nat}(h:g σ=.ok σ')(hf:1<=f):eM g σ f=.ok (σ',f-1):=by
 cases f with
 |zero=>omega
 |succ f=>show liftM g σ f=_;unfold liftM;rw[h];rfl
theorem Rv.basic(N:Nat){g g':PSt->Rs}(hg:∀σ σ',Inv σ->g σ=.ok σ'->Kp σ σ'∧g' σ'=.ok σ)(hs:∀ρ τ σ,Sim ρ τ σ->RelS ρ (g' τ) (g' σ)):Rv N 1 (eM g) (eM g'):=fun σ f σ' f' hi h=>by
 obtain⟨rfl,h1⟩:=FE h;obtain⟨h2,h3⟩:=hg σ σ' hi h1;refine⟨aH _,h2,fun τ g⟨ρ,hρ⟩ q2 _=>?_⟩;obtain⟨τ',h4,h5⟩:=(hs ρ τ σ' hρ).ok h3;exact⟨τ',by rw[KT h4 (by omega)];congr 2;omega,ρ,h5⟩
theorem yO{e:Ex}{k:Bool->Mo}{σ σ':PSt}{f f':Nat}(h:fF e k σ f=.ok (σ',f')):∃g,f=g+1∧(aX σ.look e).2=0∧k (decide ((aX σ.look e).1≠0)) σ g=.ok (σ',f'):=by
 cases f with
 |zero=>cases h
 |succ f=>
  refine⟨f,rfl,?_⟩;have h':b8 e (fun v=>k (decide (v≠0))) σ f=.ok (σ',f'):=h;unfold b8 at h';split at h'
  ·cases h'
  ·exact⟨by omega,h'⟩
theorem O2{e:Ex}{k:Bool->Mo}{σ:PSt}{f:Nat}(h:(aX σ.look e).2=0):fF e k σ (f+1)=k (decide ((aX σ.look e).1≠0)) σ f:=by
 show b8 e (fun v=>k (decide (v≠0))) σ f=_;unfold b8;rw[if_neg (by omega)]
theorem uR{e:Ex}{t:Bool}{σ σ':PSt}{f f':Nat}(h:bF e t σ f=.ok (σ',f')):f=f'+1∧σ'=σ∧(aX σ.look e).2=0∧decide ((aX σ.look e).1≠0)=t:=by
 obtain⟨g,rfl,h1,h2⟩:=yO h;split at h2
 ·rename_i h3
  simp only[xM,Except.ok.injEq,Prod.mk.injEq]at h2;obtain⟨rfl,rfl⟩:=h2;exact⟨rfl,rfl,h1,h3⟩
 ·cases h2
theorem x4{e:Ex}{t:Bool}{σ:PSt}{f:Nat}(h1:(aX σ.look e).2=0)(h2:decide ((aX σ.look e).1≠0)=t):bF e t σ (f+1)=.ok (σ,f):=by
 unfold bF;rw[O2 h1,if_pos h2];rfl
theorem Rv.assert(N:Nat)(e:Ex)(t:Bool):Rv N 1 (bF e t) (bF e t):=fun σ f σ' f' hi h=>by
 obtain⟨rfl,rfl,h1,h2⟩:=uR h;refine⟨aH _,Kp.refl hi,fun τ g q1 q2 _=>⟨τ,?_,q1⟩⟩;obtain⟨g,rfl⟩:∃g',g=g'+1:=⟨g-1,by omega⟩;rw[x4 (by rw[q1.look];exact h1) (by rw[q1.look];exact h2)];congr 2;omega
end Bk
namespace Bk
open Go.RowKit (wrap64)
section
variable{ρ:Nat->Nat}{τ σ:PSt}
theorem gT(σ:PSt)(f:PFr):(σ.setCur f).cur=f:=by
 unfold PSt.setCur;split
 ·rename_i h;unfold PSt.cur;simp[h]
 ·rename_i h
  have:0<σ.calls.length:=List.length_pos_iff.2 h;unfold PSt.cur;simp[List.getLastD_eq_getLast?,List.getLast?_eq_getElem?,List.getElem?_set,show σ.calls.length-1<σ.calls.length by omega]
theorem wK(σ:PSt)(f g:PFr):(σ.setCur f).setCur g=σ.setCur g:=by
 by_cases h:σ.calls= []
 ·simp[PSt.setCur,h]
 ·simp[PSt.setCur,h]
theorem wI(σ:PSt):σ.setCur σ.cur=σ:=by
 by_cases h:σ.calls= []
 ·unfold PSt.setCur
  rw[if_pos h,PSt.cur_base h]
 ·have hp:0<σ.calls.length:=List.length_pos_iff.2 h
  have e:σ.cur=σ.calls[σ.calls.length-1]:=PSt.cur_call (dR (by omega));unfold PSt.setCur;rw[if_neg h,e,List.set_getElem_self]
theorem dW(σ:PSt)(f:PFr):(σ.setCur f).cells=σ.cells∧(σ.setCur f).inp=σ.inp∧(σ.setCur f).out=σ.out:=by
 unfold PSt.setCur;split<;>exact⟨rfl,rfl,rfl⟩
theorem s5{f:PFr}{c:Nat}(h:fV (σ.setCur f) c):c∈f.idx∨fV σ c:=by
 unfold PSt.setCur at h;split at h
 ·rcases h with h|h
  ·exact .inl h
  ·exact .inr (.inr h)
 ·rcases h with h|⟨g,hg,h⟩
  ·exact .inr (.inl h)
  ·rcases List.mem_or_eq_of_mem_set hg with hg|rfl
   ·exact .inr (.inr ⟨g,hg,h⟩)
   ·exact .inl h
theorem DS{kd:Nat->Int}{m:Nat}(h:σ.Ok kd m){c:Nat}(hc:fV σ c):c<σ.cells.length:=by
 have key:∀f:PFr,f.Ok kd σ.cells.length m->c∈f.idx->c<σ.cells.length:=fun f hf hm=>by
  obtain⟨i,hi,he⟩:=List.mem_iff_getElem.1 hm;have h1:f.idx[i]?=some c:=by rw[dR hi,he]
  have h2:i<f.vars.length:=by rw[<-hf.len];exact hi
  exact(hf.kind i _ c (dR h2) h1).1
 rcases hc with hc|⟨f,hf,hc⟩
 ·exact key _ h.base hc
 ·exact key _ (h.calls f hf) hc
theorem Inv.live(h:Inv σ){c:Nat}(hc:fV σ c):c<σ.cells.length:=by obtain⟨kd,m,ho⟩:=h.ok;exact DS ho hc
theorem Inv.len(h:Inv σ):σ.cur.idx.length=σ.cur.vars.length:=by obtain⟨kd,m,ho⟩:=h.ok;exact ho.cur.len
theorem y5{ρ':Nat->Nat}{f:PFr}(h:∀c,c∈f.idx->ρ c=ρ' c):f.ren ρ=f.ren ρ':=by
 unfold PFr.ren;rw[List.map_congr_left h]
theorem wJ(hb:τ.base=σ.base.ren ρ)(hc:τ.calls=σ.calls.map (PFr.ren ρ))(f:PFr):(τ.setCur (f.ren ρ)).base=(σ.setCur f).base.ren ρ∧(τ.setCur (f.ren ρ)).calls=(σ.setCur f).calls.map (PFr.ren ρ):=by
 unfold PSt.setCur;by_cases h:σ.calls= []
 ·have h':τ.calls= []:=by rw[hc,h];rfl
  rw[if_pos h,if_pos h'];exact⟨rfl,hc⟩
 ·have h':τ.calls≠ []:=by rw[hc];simpa using h
  rw[if_neg h,if_neg h'];refine⟨hb,?_⟩;show τ.calls.set (τ.calls.length-1) (f.ren ρ)=(σ.calls.set (σ.calls.length-1) f).map (PFr.ren ρ);rw[hc,List.map_set,List.length_map]
theorem PJ(h:Sim ρ τ σ){u:Vr}{n:Nat}{l:List Int}(hn:∀c,fV σ c->c<n)(hl:σ.cells[n]?=some l)(hf:bK u.nm σ.cur.vars=none):∃τ',cX u l τ=.ok τ'∧Eqv τ' (σ.setCur ⟨σ.cur.vars++ [u],σ.cur.idx++ [n],σ.cur.locals+1⟩):=by
 have hnl:=(lgS.1 hl).1;let ρ':Nat->Nat:=fun c=>if c=n then τ.cells.length else ρ c
 have hr:∀c,fV σ c->ρ c=ρ' c:=fun c hc=>by have:=hn c hc;exact(if_neg (by omega)).symm
 have C5:ρ' n=τ.cells.length:=if_pos rfl;have xG:∀c,fV σ c->ρ c<τ.cells.length:=fun c hc=>by
  have h1:=h.cells c hc;rw[dR (show c<σ.cells.length by have:=hn c hc;omega)]at h1;exact(lgS.1 h1).1
 refine⟨_,by unfold cX;rw[h.vars,hf];rfl,ρ',?_⟩;have hb:τ.base=σ.base.ren ρ':=by rw[h.base];exact y5 fun c hc=>hr c (.inl hc)
 have hc:τ.calls=σ.calls.map (PFr.ren ρ'):=by rw[h.calls];exact List.map_congr_left fun f hf=>y5 fun c hc=>hr c (.inr ⟨f,hf,hc⟩)
 have gD:(⟨σ.cur.vars++ [u],τ.cur.idx++ [τ.cells.length],τ.cur.locals+1⟩:PFr)=PFr.ren ρ' ⟨σ.cur.vars++ [u],σ.cur.idx++ [n],σ.cur.locals+1⟩:=by
  have e:=CX hb hc;rw[e];simp only[PFr.ren,List.map_append,List.map_cons,List.map_nil,C5]
 rw[gD];obtain⟨s1,s2⟩:=wJ (τ:={τ with cells:=τ.cells++ [l]}) (σ:=σ) hb hc ⟨σ.cur.vars++ [u],σ.cur.idx++ [n],σ.cur.locals+1⟩;obtain⟨c1,c2,c3⟩:=dW {τ with cells:=τ.cells++ [l]} (PFr.ren ρ' ⟨σ.cur.vars++ [u],σ.cur.idx++ [n],σ.cur.locals+1⟩);obtain⟨d1,d2,d3⟩:=dW σ ⟨σ.cur.vars++ [u],σ.cur.idx++ [n],σ.cur.locals+1⟩;have gN:∀c,fV (σ.setCur ⟨σ.cur.vars++ [u],σ.cur.idx++ [n],σ.cur.locals+1⟩) c->c=n∨fV σ c:=fun c hc=>by
  rcases s5 hc with hc|hc
  ·rcases List.mem_append.1 hc with hc|hc
   ·exact .inr (kT hc)
   ·simp at hc;exact .inl hc
  ·exact .inr hc
 refine⟨s1,s2,by rw[c2,d2];exact h.inp,by rw[c3,d3];exact h.out,fun c hc=>?_,fun c d hc hd e=>?_,by rw[gT];simp[h.len]⟩
 ·rw[c1,d1]
  rcases gN c hc with rfl|hc
  ·rw[C5,hl];simp
  ·rw[<-hr c hc,List.getElem?_append_left (xG c hc)];exact h.cells c hc
 ·rcases gN c hc with h1|h1
  ·rcases gN d hd with h2|h2
   ·rw[h1,h2]
   ·rw[h1,C5,<-hr d h2]at e;have:=xG d h2;omega
  ·rcases gN d hd with h2|h2
   ·rw[h2,C5,<-hr c h1]at e;have:=xG c h1;omega
   ·rw[<-hr c h1,<-hr d h2]at e;exact h.inj c d h1 h2 e
theorem GX(h:Sim ρ τ σ){u:Vr}{vs:List Vr}{is:List Nat}{n m:Nat}{l:List Int}{v:Int}(hc:σ.cur=⟨vs++ [u],is++ [n],m+1⟩)(hl:σ.cells[n]?=some l)(h1:u.k=1->l.getD 0 0=v)(h3:u.k=3->l= []):∃τ',bU u.nm v τ=.ok τ'∧Sim ρ τ' (σ.setCur ⟨vs,is,m⟩):=by
 have vR:τ.cur=⟨vs++ [u],is.map ρ++ [ρ n],m+1⟩:=by rw[h.cur,hc];simp[PFr.ren]
 have Jj:fV σ n:=kT (by rw[hc];simp);have hcl:τ.cells[ρ n]?=some l:=(h.cells n Jj).trans hl;have hlen:is.length=vs.length:=by have:=h.len;rw[hc]at this;simpa using this
 have NK:τ.cells.getD (ρ n) []=l:=by rw[eX,hcl];rfl
 refine⟨τ.setCur (PFr.ren ρ ⟨vs,is,m⟩),?_,?_⟩
 ·unfold bU
  rw[vR];simp only[List.getLast?_append,List.getLast?_singleton,Option.some_or,List.getLastD_concat,List.dropLast_concat,NK];rw[if_neg (by simp),if_neg ?_]
  ·rfl
  ·rintro(⟨a,b⟩|⟨a,b⟩)
   ·exact b (h1 a)
   ·rw[h3 a]at b;exact b rfl
 ·obtain⟨s1,s2⟩:=wJ h.base h.calls ⟨vs,is,m⟩
  obtain⟨c1,c2,c3⟩:=dW τ (PFr.ren ρ ⟨vs,is,m⟩);obtain⟨d1,d2,d3⟩:=dW σ ⟨vs,is,m⟩;have gN:∀c,fV (σ.setCur ⟨vs,is,m⟩) c->fV σ c:=fun c hx=>by
   rcases s5 hx with hx|hx
   ·exact kT (by rw[hc];simp at hx⊢;exact .inl hx)
   ·exact hx
  refine⟨s1,s2,by rw[c2,d2];exact h.inp,by rw[c3,d3];exact h.out,fun c hx=>?_,fun c d hx hy e=>h.inj c d (gN c hx) (gN d hy) e,by rw[gT];exact hlen⟩;rw[c1,d1];exact h.cells c (gN c hx)
theorem wD(hi:Inv σ){u:Vr}{l:List Int}(h1:u.k=1->l.length=1)(hll:l.length<=1000)(hl:∀v,v∈l->I64 v){σ':PSt}(h:cX u l σ=.ok σ'):Inv σ'∧bK u.nm σ.cur.vars=none∧σ'=({σ with cells:=σ.cells++ [l]}:PSt).setCur ⟨σ.cur.vars++ [u],σ.cur.idx++ [σ.cells.length],σ.cur.locals+1⟩:=by
 have hok:∃kd m,σ'.Ok kd m:=by obtain⟨kd,m,ho⟩:=hi.ok;exact⟨_,_,qN ho h1 hll h⟩
 unfold cX at h;split at h
 ·cases h
 rename_i hf;injection h with h;subst h;obtain⟨c1,c2,c3⟩:=dW ({σ with cells:=σ.cells++ [l]}:PSt) ⟨σ.cur.vars++ [u],σ.cur.idx++ [σ.cells.length],σ.cur.locals+1⟩;refine⟨⟨hok,?_,?_,by rw[c2];exact hi.ri,by rw[c3];exact hi.ro⟩,by simpa using hf,rfl⟩
 ·rw[gT]
  show(σ.cur.idx++ [σ.cells.length]).Nodup;rw[List.nodup_append];refine⟨hi.nd,by simp,fun a ha b hb=>?_⟩;simp at hb;subst hb;have:=hi.live (kT ha);omega
 ·rw[c1]
  intro x hx v hv;rcases List.mem_append.1 hx with hx|hx
  ·exact hi.rc x hx v hv
  ·simp at hx;subst hx;exact hl v hv
theorem FQ(hi:Inv σ){u:Vr}{vs:List Vr}{is:List Nat}{n m:Nat}{v:Int}(hc:σ.cur=⟨vs++ [u],is++ [n],m+1⟩){σ':PSt}(h:bU u.nm v σ=.ok σ'):Inv σ'∧σ'=σ.setCur ⟨vs,is,m⟩∧∃l,σ.cells[n]?=some l∧(u.k=1->l= [v])∧(u.k=3->l= []):=by
 have hok:∃kd m,σ'.Ok kd m:=by obtain⟨kd,m,ho⟩:=hi.ok;exact⟨_,_,nQ ho h⟩
 obtain⟨l,hl,hl1⟩:∃l,σ.cells[n]?=some l∧(u.k=1->l.length=1):=by
  obtain⟨kd,m',ho⟩:=hi.ok;have Jj:fV σ n:=kT (by rw[hc];simp);have hn:=DS ho Jj;refine⟨_,dR hn,fun hk=>?_⟩;have hlen:=hi.len;rw[hc]at hlen;have hlen:is.length=vs.length:=by simpa using hlen
  have:=(ho.cur.kind vs.length u n (by rw[hc];simp) (by rw[hc];simp[<-hlen])).2;exact(ho.one n _ (dR hn)).1 (by omega)
 have oS:σ.cells.getD n []=l:=by rw[eX,hl];rfl
 unfold bU at h;rw[hc]at h;simp only[List.getLast?_append,List.getLast?_singleton,Option.some_or,List.getLastD_concat,List.dropLast_concat,oS]at h;split at h
 ·cases h
 split at h
 ·cases h
 rename_i h2;injection h with h;have h:σ.setCur ⟨vs,is,m⟩=σ':=h;subst h;obtain⟨d1,d2,d3⟩:=dW σ ⟨vs,is,m⟩;refine⟨⟨hok,?_,by rw[d1];exact hi.rc,by rw[d2];exact hi.ri,by rw[d3];exact hi.ro⟩,rfl,l,hl,fun hk=>?_,fun hk=>?_⟩
 ·rw[gT]
  have:=hi.nd;rw[hc]at this;exact(List.nodup_append.1 this).1
 ·have h4:=hl1 hk
  match l,h4 with
  | [a],_=>
   have:¬(a≠v):=fun x=>h2 (.inl ⟨hk,x⟩)
   rw[Decidable.not_not.1 this]
 ·by_cases h5:l.length=0
  ·exact List.eq_nil_of_length_eq_zero h5
  ·exact absurd (.inr ⟨hk,h5⟩) h2
theorem Q8(hi:Inv σ){u:Vr}{n m:Nat}{vs:List Vr}{is:List Nat}(hc:σ.cur=⟨vs++ [u],is++ [n],m+1⟩){t:ByteArray}(ht:(t.toList==u.nm.toList)=false):(σ.setCur ⟨vs,is,m⟩).look t=σ.look t:=by
 have hlen:=hi.len;rw[hc]at hlen;have hlen:is.length=vs.length:=by simpa using hlen
 have hf:∀l:List Vr,bK t (l++ [u])=bK t l:=by
  intro l;have ht':(u.nm.toList==t.toList)=false:=by
   cases h:(u.nm.toList==t.toList)with
   |false=>rfl
   |true=>
    have:u.nm.toList=t.toList:=by simpa using h
    rw[this]at ht;simp at ht
  induction l with
  |nil=>simp[bK,ht']
  |cons v l ih=>simp only[List.cons_append,bK,ih]
 unfold PSt.look PSt.at_;rw[gT,(dW _ _).1,hc,hf];cases h:bK t vs with
 |none=>rfl
 |some i=>
  obtain⟨v,hv,_⟩:=fE h;have:=(lgS.1 hv).1;simp[eX,List.getElem?_append_left (show i<is.length by omega)]
end
theorem R9{σ0 σ1 σ2 σ3:PSt}{u:Vr}{l:List Int}{v':Int}(hi:Inv σ0)(hk:u.k=1∧l.length=1∨u.k=3∧l= [])(hl:∀v,v∈l->I64 v)(h1:cX u l σ0=.ok σ1)(h2:Kp σ1 σ2)(h3:bU u.nm v' σ2=.ok σ3):
  Kp σ0 σ3∧(∀t,(t.toList==u.nm.toList)=false->σ2.look t=σ3.look t∧σ1.look t=σ0.look t)∧(∀τ,Eqv τ σ3->∃τ',cX u (if u.k=1 then [v']else []) τ=.ok τ'∧Eqv τ' σ2)∧∀τ,Eqv τ σ1->∃τ',bU u.nm (l.getD 0 0) τ=.ok τ'∧Eqv τ' σ0:=by
 obtain⟨Uu,hf,e1⟩:=wD hi (fun h=>by omega) (by rcases hk with⟨_,h⟩|⟨_,h⟩;omega;simp[h]) hl h1;have rX:σ1.cur=⟨σ0.cur.vars++ [u],σ0.cur.idx++ [σ0.cells.length],σ0.cur.locals+1⟩:=by rw[e1,gT]
 have rY:=h2.cur.trans rX;obtain⟨Gn,e3,l',oS,k1,k3⟩:=FQ h2.inv rY h3;have c1:σ1.cells=σ0.cells++ [l]:=by rw[e1];exact(dW _ _).1
 have own1:σ1.setCur σ0.cur={σ0 with cells:=σ0.cells++ [l]}:=by rw[e1,wK];exact wI {σ0 with cells:=σ0.cells++ [l]}
 have own3:σ3={σ2 with base:=σ0.base,calls:=σ0.calls}:=by
  have ha:σ2.base=σ1.base∧σ2.calls=σ1.calls:=⟨h2.base,h2.calls⟩;rw[e3];have hb:(σ2.setCur σ0.cur)={σ2 with base:=(σ1.setCur σ0.cur).base,calls:=(σ1.setCur σ0.cur).calls}:=by
   unfold PSt.setCur;rw[ha.2];split
   ·rfl
   ·rw[ha.1]
  show σ2.setCur σ0.cur=_;rw[hb,own1]
 have aT:σ3.base=σ0.base∧σ3.calls=σ0.calls:=by rw[own3];exact⟨rfl,rfl⟩
 have Jd:σ3.cur=σ0.cur:=by unfold PSt.cur;rw[aT.1,aT.2]
 have cl3:σ3.cells=σ2.cells:=by rw[e3];exact(dW _ _).1
 have live3:∀c,fV σ3 c↔fV σ0 c:=fun c=>by unfold fV;rw[aT.1,aT.2]
 have e2:σ2=σ3.setCur ⟨σ3.cur.vars++ [u],σ3.cur.idx++ [σ0.cells.length],σ3.cur.locals+1⟩:=by
  rw[Jd,e3,wK,<-rY,wI]
 refine⟨⟨Gn,aT.1,aT.2,by rw[cl3];have:=h2.size;rw[c1]at this;simp at this;omega⟩,fun t ht=>⟨by rw[e3];exact(Q8 h2.inv rY ht).symm,?_⟩,fun τ⟨ρ,hρ⟩=>?_,fun τ⟨ρ,hρ⟩=>?_⟩
 ·have:=Q8 Uu rX ht
  rw[own1]at this;rw[<-this];unfold PSt.look;show(σ0.at_ t).map _=(σ0.at_ t).map _;cases ha:σ0.at_ t with
  |none=>rfl
  |some c=>
   have hc:=hi.live (pZ hi.len ha);simp[eX,List.getElem?_append_left hc]
 ·have hif:(if u.k=1 then [v']else [])=l':=by
   rcases hk with⟨hk,_⟩|⟨hk,_⟩
   ·rw[if_pos hk,k1 hk]
   ·rw[if_neg (by omega),k3 hk]
  rw[hif];have:=PJ hρ (n:=σ0.cells.length) (l:=l') (u:=u) (fun c hc=>hi.live ((live3 c).1 hc)) (by rw[cl3];exact oS) (by rw[Jd];exact hf);rw[<-e2]at this;exact this
 ·obtain⟨τ',g1,g2⟩:=GX hρ (v:=l.getD 0 0) (l:=l) rX (by rw[c1];simp) (fun _=>rfl) (fun h=>by rcases hk with⟨h',_⟩|⟨_,h'⟩;omega;exact h')
  refine⟨τ',g1,ρ,?_⟩;rw[show(⟨σ0.cur.vars,σ0.cur.idx,σ0.cur.locals⟩:PFr)=σ0.cur from rfl,own1]at g2;exact⟨g2.base,g2.calls,g2.inp,g2.out,fun c hc=>by rw[g2.cells c hc];exact List.getElem?_append_left (hi.live hc),g2.inj,hi.len⟩
end Bk
