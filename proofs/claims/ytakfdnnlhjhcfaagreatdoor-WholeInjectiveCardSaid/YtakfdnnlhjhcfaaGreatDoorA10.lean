/- Part of the proof. -/
import Derived.Deep.RegionLawGrows
import Derived.IntWalk
import Derived.Test.YtakfdnnlhjhcfaaGreatDoorA9
set_option linter.unusedVariables false
set_option linter.unusedSimpArgs false
set_option maxHeartbeats 17592186043904
namespace Bk
open Go Go.RowKit
theorem qP{w:World}{base:Nat}{e:TypeId}{size n g cp:Nat}{xs:List Value}(h:w.ownsRow base e size (.slice (some ⟨g,0,none⟩) n cp) n xs)(j:Nat)(u:Value):(w.setCell ⟨g,j,none⟩ u).ownsRow base e size (.slice (some ⟨g,0,none⟩) n cp) n (xs.set j u):=by
 refine⟨by rw[List.length_set];exact h.1,.inr ?_⟩;rcases h.2 with⟨e1,_⟩|⟨g',cap',cur,e1,hg,hh,h3,h4,h5,h6⟩
 ·simp at e1
 ·injection e1 with e1 _ e2
  injection e1 with e1;injection e1 with e1 _ _;subst e1;subst e2;refine⟨g,cp,cur.setIfInBounds j u,rfl,hg,(show Blk w g e cur from hh).set_ j u,h3,h4,by simpa using h5,?_⟩;rw[<-h6];simp[List.take_set]
theorem nZ{w:World}{base:Nat}{e:TypeId}{size n g cp:Nat}{xs:List Value}(h:w.ownsRow base e size (.slice (some ⟨g,0,none⟩) n cp) n xs):∃cur,Blk w g e cur∧∀(j:Nat)(u:Value),xs[j]?=some u->cur[j]?=some u:=by
 rcases h.2 with⟨e1,_⟩|⟨g',cap',cur,e1,hg,hh,h3,h4,h5,h6⟩
 ·simp at e1
 ·injection e1 with e1 _ e2
  injection e1 with e1;injection e1 with e1 _ _;subst e1;subst e2;refine⟨cur,hh,fun j u hu=>?_⟩;rw[<-h6,List.getElem?_take]at hu;split at hu
  ·simpa using hu
  ·cases hu
theorem nY{w:World}{base:Nat}{e:TypeId}{size n g cp:Nat}{xs:List Value}(h:w.ownsRow base e size (.slice (some ⟨g,0,none⟩) n cp) n xs){m:Nat}(hm:m<=n):w.ownsRow base e size (.slice (some ⟨g,0,none⟩) m cp) m (xs.take (m*size)):=by
 have QY:m*size<=n*size:=Nat.mul_le_mul_right _ hm;refine⟨by rw[List.length_take,h.1];omega,.inr ?_⟩;rcases h.2 with⟨e1,_⟩|⟨g',cap',cur,e1,hg,hh,h3,h4,h5,h6⟩
 ·simp at e1
 ·injection e1 with e1 _ e2
  injection e1 with e1;injection e1 with e1 _ _;subst e1;subst e2;refine⟨g,cp,cur,rfl,hg,hh,by omega,h4,h5,?_⟩;rw[<-h6,List.take_take,Nat.min_eq_left QY]
theorem yG:∀{xs:List (Value×Value)}{fs:List PFr}{i:Nat}{x x':Value×Value}{f f':PFr},xs[i]?=some x->fs[i]?=some f->(((eU xs fs).set (i*3) x'.1).set (i*3+1) x'.2).set (i*3+2) (.int .i64 f'.locals)=eU (xs.set i x') (fs.set i f')
 | [],_,i,_,_,_,_,h,_=>by simp at h
 |_::_,[],i,_,_,_,_,_,h=>by simp at h
 |y::xs,g::fs,0,x,x',f,f',h1,h2=>by simp[eU]
 |y::xs,g::fs,i+1,x,x',f,f',h1,h2=>by
  have:=yG (xs:=xs) (fs:=fs) (i:=i) (x':=x') (f':=f') (by simpa using h1) (by simpa using h2);rw[show(i+1)*3=i*3+1+1+1 by omega];simpa[eU]using this
theorem yE:∀{xs:List (Value×Value)}{fs:List PFr}(x:Value×Value)(f:PFr),xs.length=fs.length->eU (xs++ [x]) (fs++ [f])=eU xs fs++ [x.1,x.2,.int .i64 f.locals]
 | [],[],_,_,_=>rfl
 | [],_::_,_,_,h=>by simp at h
 |_::_,[],_,_,h=>by simp at h
 |y::xs,g::fs,x,f,h=>by
  have:=yE (xs:=xs) (fs:=fs) x f (by simpa using h);simp only[List.cons_append,eU,this]
theorem vN:∀(n:Nat){xs:List (Value×Value)}{fs:List PFr},xs.length=fs.length->(eU xs fs).take (n*3)=eU (xs.take n) (fs.take n)
 |0,_,_,_=>by simp[eU]
 |n+1,[],[],_=>by simp[eU]
 |n+1,[],_::_,h=>by simp at h
 |n+1,_::_,[],h=>by simp at h
 |n+1,x::xs,f::fs,h=>by
  have:=vN n (xs:=xs) (fs:=fs) (by simpa using h);rw[show(n+1)*3=n*3+1+1+1 by omega];simp only[eU,List.take_succ_cons,this]
def Sv.fb(S:Sv)(σ:PSt):Nat:=if σ.calls= []then S.st else S.cv.ownBlock.getD 0
def PSt.fo(σ:PSt):Nat:=(σ.calls.length-1)*3
def Sv.fx(S:Sv)(σ:PSt):Value×Value:=if σ.calls= []then(S.bv,S.bc)else S.fv.getD (σ.calls.length-1) (.nilFunc,.nilFunc)
theorem PSt.setCur_nil{σ:PSt}(h:σ.calls= [])(f:PFr):σ.setCur f={σ with base:=f}:=by unfold PSt.setCur;rw[if_pos h]
theorem PSt.setCur_some{σ:PSt}(h:σ.calls≠ [])(f:PFr):σ.setCur f={σ with calls:=σ.calls.set (σ.calls.length-1) f}:=by unfold PSt.setCur;rw[if_neg h]
end Bk
namespace Go.Proofs.YtakfdnnlhjhcfaaGreatDoor
open Go.RowKit Bk
section
variable{w w':World}{B:Nat}{S:Sv}{σ:PSt}
theorem SOn.calls_some(h:SOn w B S σ)(hn:σ.calls≠ []):∃g cp x f,S.cv=.slice (some ⟨g,0,none⟩) σ.calls.length cp∧S.fv[σ.calls.length-1]?=some x∧σ.calls[σ.calls.length-1]?=some f∧0<σ.calls.length:=by
 have h0:0<σ.calls.length:=List.length_pos_iff.2 hn;obtain⟨g,cp,e,_⟩:=d6 h.calls h0;exact⟨g,cp,_,_,e,dR (by rw[h.flen];omega),dR (by omega),h0⟩
theorem SOn.cur(h:SOn w B S σ):FrAt w B S σ.calls.length (S.fx σ).1 (S.fx σ).2 σ.cur∧(w.cell? ⟨S.fb σ,σ.fo,none⟩=some (S.fx σ).1∧w.cell? ⟨S.fb σ,σ.fo+1,none⟩=some (S.fx σ).2∧w.cell? ⟨S.fb σ,σ.fo+2,none⟩=some (.int .i64 σ.cur.locals))∧(∀o,w.frozen? ⟨S.fb σ,o,none⟩=false)∧(S.ro (S.fb σ)=.store∨S.ro (S.fb σ)=.calls)∧S.fb σ<w.heap.size:=by
 by_cases hn:σ.calls= []
 ·unfold Sv.fb Sv.fx PSt.fo
  rw[PSt.cur_base hn,if_pos hn,if_pos hn,hn];exact⟨h.base,⟨h.top.cell 0,h.top.cell 1,h.top.cell 2⟩,h.top.frozen,.inl h.rst,h.top.lt⟩
 ·obtain⟨g,cp,x,f,e,hx,hf,h0⟩:=h.calls_some hn
  have hc:=h.calls;rw[e]at hc;obtain⟨cur,hb,vR⟩:=nZ hc;obtain⟨q0,q1,q2⟩:=yF hx hf;unfold Sv.fb Sv.fx PSt.fo;rw[PSt.cur_call hf,if_neg hn,if_neg hn,eX,hx,e];have hF:=h.frames _ x f hx hf;rw[show σ.calls.length-1+1=σ.calls.length by omega]at hF;refine⟨hF,⟨(hb.cell _).trans (vR _ _ q0),(hb.cell _).trans (vR _ _ q1),(hb.cell _).trans (vR _ _ q2)⟩,hb.frozen,.inr (h.rcv g (by rw[e];rfl)),hb.lt⟩
theorem SOn.fbBlk(h:SOn w B S σ):∃t cs,Blk w (S.fb σ) t cs∧cs[σ.fo]?=some (S.fx σ).1∧cs[σ.fo+1]?=some (S.fx σ).2∧cs[σ.fo+2]?=some (.int .i64 σ.cur.locals):=by
 obtain⟨_,⟨h0,h1,h2⟩,_,_,_⟩:=h.cur;obtain⟨t,cs,hb⟩:∃t cs,Blk w (S.fb σ) t cs:=by
  by_cases hn:σ.calls= []
  ·exact⟨_,_,by rw[show S.fb σ=S.st by unfold Sv.fb;rw[if_pos hn]];exact h.top⟩
  ·obtain⟨g,cp,x,f,e,hx,hf,h0⟩:=h.calls_some hn
   have hc:=h.calls;rw[e]at hc;obtain⟨cur,hb,_⟩:=nZ hc;exact⟨_,cur,by rw[show S.fb σ=g by unfold Sv.fb;rw[if_neg hn,e];rfl];exact hb⟩
 exact⟨t,cs,hb,(hb.cell _).symm.trans h0,(hb.cell _).symm.trans h1,(hb.cell _).symm.trans h2⟩
theorem SOn.setFr(h:SOn w B S σ){v c:Value}{f':PFr}(hF:Fr (fun k=>S.ro k=.vars σ.calls.length∨S.ro k=.refs σ.calls.length∨k=S.fb σ) w w')
  (C4:∀t cs,Blk w (S.fb σ) t cs->Blk w' (S.fb σ) t (((cs.setIfInBounds σ.fo v).setIfInBounds (σ.fo+1) c).setIfInBounds (σ.fo+2) (.int .i64 f'.locals)))
  (ov:w'.ownsRow B 72 3 v f'.vars.length (aU f'.vars)) (oc:w'.ownsRow B 125 1 c f'.idx.length (S.ptrs f'.idx))
  (rv:∀k,v.ownBlock=some k->S.ro k=.vars σ.calls.length∨w.heap.size<=k) (rc:∀k,c.ownBlock=some k->S.ro k=.refs σ.calls.length∨w.heap.size<=k) (dG:∀k,v.ownBlock=some k->c.ownBlock=some k->False):
  ∃S',SOn w' B S' (σ.setCur f')∧S.Ext S' w∧Fr S.O w w'∧S'.cb=S.cb∧S'.fb (σ.setCur f')=S.fb σ∧(σ.setCur f').fo=σ.fo∧S'.fx (σ.setCur f')=(v,c):=by
 obtain⟨vR,_,_,hrb,f8⟩:=h.cur;let Js:Nat->KG:=fun k=>if w.heap.size<=k∧v.ownBlock=some k then .vars σ.calls.length else if w.heap.size<=k∧c.ownBlock=some k then .refs σ.calls.length else S.ro k
 have hr:∀k,k<w.heap.size->Js k=S.ro k:=fun k hk=>by show(if _ then _ else if _ then _ else _)=_;rw[if_neg (by omega),if_neg (by omega)]
 have AS:∀k,v.ownBlock=some k->Js k=.vars σ.calls.length:=fun k hk=>by
  show(if _ then _ else if _ then _ else _)=_;by_cases h1:w.heap.size<=k
  ·rw[if_pos ⟨h1,hk⟩]
  ·rw[if_neg (by omega),if_neg (by omega)];exact(rv k hk).resolve_right h1
 have rY:∀k,c.ownBlock=some k->Js k=.refs σ.calls.length:=fun k hk=>by
  show(if _ then _ else if _ then _ else _)=_;rw[if_neg (fun h=>dG k h.2 hk)];by_cases h1:w.heap.size<=k
  ·rw[if_pos ⟨h1,hk⟩]
  ·rw[if_neg (by omega)];exact(rc k hk).resolve_right h1
 have aAk:∀k,(S.ro k≠ .store∧S.ro k≠ .calls)->k≠S.fb σ:=fun k hk e=>by subst e;rcases hrb with h|h;exact hk.1 h;exact hk.2 h
 have nO:∀k r,S.ro k=r->r≠ .store->r≠ .calls->r≠ .vars σ.calls.length->r≠ .refs σ.calls.length->¬(S.ro k=.vars σ.calls.length∨S.ro k=.refs σ.calls.length∨k=S.fb σ):=fun k r h1 h2 h3 h4 h5 h6=>by
  rcases h6 with h6|h6|h6
  ·exact h4 (h1▸h6)
  ·exact h5 (h1▸h6)
  ·exact aAk k ⟨h1▸h2,h1▸h3⟩ h6
 have hO:Fr S.O w w':=hF.mono fun k hk=>by
  show S.ro k≠ .none;rcases hk with h1|h1|h1
  ·rw[h1];simp
  ·rw[h1];simp
  ·rw[h1];rcases hrb with h|h<;>rw[h]<;>simp
 have Uz:∀k,Js k≠ .none->B<=k∧k<w'.heap.size:=fun k hk=>by
  change (if w.heap.size<=k∧v.ownBlock=some k then KG.vars σ.calls.length else if w.heap.size<=k∧c.ownBlock=some k then .refs σ.calls.length else S.ro k)≠ .none at hk;by_cases h1:w.heap.size<=k∧v.ownBlock=some k
  ·exact bH ov h1.2
  ·rw[if_neg h1]at hk
   by_cases h2:w.heap.size<=k∧c.ownBlock=some k
   ·exact bH oc h2.2
   ·rw[if_neg h2]at hk
    exact⟨(h.new k hk).1,dX (h.new k hk).2 hF.size⟩
 by_cases hn:σ.calls= []
 ·have hfb:S.fb σ=S.st:=by unfold Sv.fb;rw[if_pos hn]
  have iP:σ.fo=0:=by unfold PSt.fo;rw[hn];rfl
  have hd:σ.calls.length=0:=by rw[hn];rfl
  have VX:Blk w' S.st 123 #[v,c,.int .i64 f'.locals,S.cv,.pointer (some ⟨S.tb,0,none⟩)]:=by
   have:=C4 _ _ (by rw[hfb];exact h.top);rw[hfb,iP]at this;simpa using this
  rw[PSt.setCur_nil hn];refine⟨{S with bv:=v,bc:=c,ro:=Js},⟨VX,⟨ov,oc,fun k hk=>by rw[<-hd];exact AS k hk,fun k hk=>by rw[<-hd];exact rY k hk⟩,bL h.calls hF fun k hk=>?_,h.flen,fun i x f h1 h2=>by rw[hn]at h2;simp at h2,hF.blk h.tape (nO _ _ h.rtb (by simp) (by simp) (by simp) (by simp)),bL h.inp hF fun k hk=>nO k _ (h.rvi k hk) (by simp) (by simp) (by simp) (by simp),bL h.out hF fun k hk=>nO k _ (h.rvo k hk) (by simp) (by simp) (by simp) (by simp),fun j m hj=>(h.cells j m hj).keep hF (fun k hk hr=>?_) hr rfl rfl,(hr _ h.top.lt).trans h.rst,(hr _ h.tape.lt).trans h.rtb,Sv.has_ext h.rcv (fun k hk=>bT h.calls hk) hr,Sv.has_ext h.rvi (fun k hk=>bT h.inp hk) hr,Sv.has_ext h.rvo (fun k hk=>bT h.out hk) hr,Uz⟩,⟨rfl,hr⟩,hO,rfl,?_,rfl,?_⟩
  ·rintro(h1|h1|h1)
   ·rw[h.rcv k hk]at h1;cases h1
   ·rw[h.rcv k hk]at h1;cases h1
   ·rw[hfb]at h1;subst h1;have:=h.rcv _ hk;rw[h.rst]at this;cases this
  ·rcases hr with hr|hr<;>exact nO k _ hr (by simp) (by simp) (by simp) (by simp)
  ·unfold Sv.fb;simp[hn]
  ·unfold Sv.fx;simp[hn]
 ·obtain⟨g,cp,x,f,e,hx,Qg,h0⟩:=h.calls_some hn
  have hfb:S.fb σ=g:=by unfold Sv.fb;rw[if_neg hn,e];rfl
  have d9:=h.calls;rw[e]at d9;have Rp:w'.ownsRow B 120 3 S.cv σ.calls.length (eU (S.fv.set (σ.calls.length-1) (v,c)) (σ.calls.set (σ.calls.length-1) f')):=by
   obtain⟨cur,hb,_⟩:=nZ d9;have e2:=C4 _ _ (by rw[hfb];exact hb);rw[hfb]at e2;have e1:=((hb.set_ σ.fo v).set_ (σ.fo+1) c).set_ (σ.fo+2) (.int .i64 f'.locals);rw[e,<-yG hx Qg];refine iQ (qP (qP (qP d9 σ.fo v) (σ.fo+1) c) (σ.fo+2) (.int .i64 f'.locals)) fun g' _ Qh=>?_
   injection Qh with Qh;subst Qh;exact e2.trans e1.symm
  rw[PSt.setCur_some hn];have hlen:(σ.calls.set (σ.calls.length-1) f').length=σ.calls.length:=List.length_set;have Qy:σ.calls.set (σ.calls.length-1) f'≠ []:=fun h9=>by rw[h9]at hlen;simp at hlen;omega
  refine⟨{S with fv:=S.fv.set (σ.calls.length-1) (v,c),ro:=Js},⟨hF.blk h.top ?_,h.base.keep hF (fun k hk hr=>?_) hr (fun _ _=>rfl),by rw[hlen];exact Rp,by simp[h.flen],fun i y f1 h1 h2=>?_,hF.blk h.tape (nO _ _ h.rtb (by simp) (by simp) (by simp) (by simp)),bL h.inp hF fun k hk=>nO k _ (h.rvi k hk) (by simp) (by simp) (by simp) (by simp),bL h.out hF fun k hk=>nO k _ (h.rvo k hk) (by simp) (by simp) (by simp) (by simp),fun j m hj=>(h.cells j m hj).keep hF (fun k hk hr=>?_) hr rfl rfl,(hr _ h.top.lt).trans h.rst,(hr _ h.tape.lt).trans h.rtb,Sv.has_ext h.rcv (fun k hk=>bT h.calls hk) hr,Sv.has_ext h.rvi (fun k hk=>bT h.inp hk) hr,Sv.has_ext h.rvo (fun k hk=>bT h.out hk) hr,Uz⟩,⟨rfl,hr⟩,hO,rfl,?_,?_,?_⟩
  ·rintro(h1|h1|h1)
   ·rw[h.rst]at h1;cases h1
   ·rw[h.rst]at h1;cases h1
   ·rw[hfb]at h1;have:=h.rcv g (by rw[e];rfl);rw[<-h1,h.rst]at this;cases this
  ·rcases hr with hr|hr<;>exact nO k _ hr (by simp) (by simp) (by simp<;>omega) (by simp<;>omega)
  ·by_cases hi:i=σ.calls.length-1
   ·subst hi
    rw[List.getElem?_set_self (by rw[h.flen];omega)]at h1;rw[List.getElem?_set_self (by omega)]at h2;injection h1 with h1;injection h2 with h2;subst h1;subst h2;rw[show σ.calls.length-1+1=σ.calls.length by omega];exact⟨ov,oc,AS,rY⟩
   ·rw[List.getElem?_set_ne (fun e=>hi e.symm)]at h1 h2
    have mT:i<σ.calls.length:=(lgS.1 h2).1;refine(h.frames i y f1 h1 h2).keep hF (fun k hk hr=>?_) hr (fun _ _=>rfl);rcases hr with hr|hr<;>exact nO k _ hr (by simp) (by simp) (by simp<;>omega) (by simp<;>omega)
  ·rcases hr with hr|hr<;>exact nO k _ hr (by simp) (by simp) (by simp) (by simp)
  ·unfold Sv.fb;simp[hn]
  ·unfold PSt.fo;rw[hlen]
  ·unfold Sv.fx;simp only[List.set_eq_nil_iff,hn,if_false];rw[hlen,eX,List.getElem?_set_self (by rw[h.flen];omega)];rfl
theorem SOn.addCell(h:SOn w B S σ)(hI:∀f,f=σ.base∨f∈σ.calls->∀i,i∈f.idx->i<σ.cells.length)(hb:Below w.heap.size w w'){g:Nat}{v:Value}{l:List Int}(hg:w.heap.size<=g)(hB:B<=w.heap.size)(f8:Blk w' g 127 #[v])(ho:w'.ownsRow w.heap.size 3 1 v l.length (aC l))(dG:v.ownBlock≠some g):
  ∃S',SOn w' B S' {σ with cells:=σ.cells++ [l]}∧S.Ext S' w∧S'.cb σ.cells.length=g∧S'.fb {σ with cells:=σ.cells++ [l]}=S.fb σ∧S'.fx {σ with cells:=σ.cells++ [l]}=S.fx σ:=by
 let S':Sv:={S with cb:=fun j=>if j=σ.cells.length then g else S.cb j,iv:=fun j=>if j=σ.cells.length then v else S.iv j,ro:=fun k=>if k=g then .cell σ.cells.length else if w.heap.size<=k∧v.ownBlock=some k then .items σ.cells.length else S.ro k};have hr:∀k,k<w.heap.size->S'.ro k=S.ro k:=fun k hk=>by show(if _ then _ else if _ then _ else _)=_;rw[if_neg (by omega),if_neg (by omega)]
 have hf:Fr (fun _=>False) w w':=(Fr.of hb).mono fun _ h=>h
 have hc:∀f,f=σ.base∨f∈σ.calls->∀i,i∈f.idx->S'.cb i=S.cb i:=fun f hf' i hi=>if_neg (by have:=hI f hf' i hi;omega)
 refine⟨S',⟨h.top.next hb,h.base.keep hf (fun _ _ _ h=>h) hr (hc _ (.inl rfl)),aZ h.calls hb (aH _),h.flen,fun i x f h1 h2=>(h.frames i x f h1 h2).keep hf (fun _ _ _ h=>h) hr (hc _ (.inr (List.mem_of_getElem? h2))),h.tape.next hb,aZ h.inp hb (aH _),aZ h.out hb (aH _),fun j m hj=>?_,(hr _ h.top.lt).trans h.rst,(hr _ h.tape.lt).trans h.rtb,Sv.has_ext h.rcv (fun k hk=>bT h.calls hk) hr,Sv.has_ext h.rvi (fun k hk=>bT h.inp hk) hr,Sv.has_ext h.rvo (fun k hk=>bT h.out hk) hr,fun k hk=>?_⟩,⟨rfl,hr⟩,if_pos rfl,rfl,rfl⟩
 ·by_cases e9:j=σ.cells.length
  ·subst e9
   simp at hj;subst hj;refine⟨by show Blk w' (if _=_ then g else _) _ #[if _=_ then v else _];rw[if_pos rfl,if_pos rfl];exact f8,by show w'.ownsRow B _ 1 (if _=_ then v else _) _ _;rw[if_pos rfl];exact dZ ho hB,?_,?_⟩
   ·show S'.ro (if _=_ then g else _)=_
    rw[if_pos rfl];exact if_pos rfl
   ·show S'.has (if _=_ then v else _) _
    rw[if_pos rfl];intro k hk;show(if k=g then KG.cell σ.cells.length else if w.heap.size<=k∧v.ownBlock=some k then .items σ.cells.length else S.ro k)=_;rw[if_neg (fun e:k=g=>dG (e▸hk)),if_pos ⟨(bH ho hk).1,hk⟩]
  ·have ZJ:σ.cells[j]?=some m:=by
    rw[List.getElem?_append]at hj;split at hj
    ·exact hj
    ·have:=(lgS.1 hj).1;simp at this;omega
   exact(h.cells j m ZJ).keep hf (fun _ _ _ h=>h) hr (if_neg e9) (if_neg e9)
 ·change (if k=g then KG.cell σ.cells.length else if w.heap.size<=k∧v.ownBlock=some k then .items σ.cells.length else S.ro k)≠ .none at hk
  by_cases h1:k=g
  ·subst h1;exact⟨fC hB hg,f8.lt⟩
  ·rw[if_neg h1]at hk
   by_cases h2:w.heap.size<=k∧v.ownBlock=some k
   ·have:=bH ho h2.2;omega
   ·rw[if_neg h2]at hk
    exact⟨(h.new k hk).1,dX (h.new k hk).2 hb.size⟩
theorem SOn.push(h:SOn w B S σ)(hf:Fr (fun k=>S.ro k=.calls∨k=S.st) w w')(hB:B<=w.heap.size){v c cv:Value}{f:PFr}(hv:w'.ownsRow w.heap.size 72 3 v f.vars.length (aU f.vars))(hc:w'.ownsRow w.heap.size 125 1 c f.idx.length (S.ptrs f.idx))
  (ht:Blk w' S.st 123 #[S.bv,S.bc,.int .i64 σ.base.locals,cv,.pointer (some ⟨S.tb,0,none⟩)]) (ho:w'.ownsRow B 120 3 cv (σ.calls.length+1) (eU S.fv σ.calls++ [v,c,.int .i64 f.locals])) (rcv:∀k,cv.ownBlock=some k->S.ro k=.calls∨w.heap.size<=k)
  (DP:∀k,v.ownBlock=some k->c.ownBlock=some k->False) (hvr:∀k,cv.ownBlock=some k->v.ownBlock=some k∨c.ownBlock=some k->False):
  ∃S',SOn w' B S' {σ with calls:=σ.calls++ [f]}∧S.Ext S' w:=by
 let S':Sv:={S with cv:=cv,fv:=S.fv++ [(v,c)],ro:=fun k=>if w.heap.size<=k∧v.ownBlock=some k then .vars (σ.calls.length+1)else if w.heap.size<=k∧c.ownBlock=some k then .refs (σ.calls.length+1)else if w.heap.size<=k∧cv.ownBlock=some k then .calls else S.ro k};have hr:∀k,k<w.heap.size->S'.ro k=S.ro k:=fun k hk=>by show(if _ then _ else if _ then _ else if _ then _ else _)=_;rw[if_neg (by omega),if_neg (by omega),if_neg (by omega)]
 have nO:∀k r,S.ro k=r->r≠ .calls->r≠ .store->¬(S.ro k=.calls∨k=S.st):=fun k r h1 h2 h3 h4=>by
  rcases h4 with h4|h4
  ·exact h2 (h1▸h4)
  ·subst h4;rw[h.rst]at h1;exact h3 h1.symm
 refine⟨S',⟨ht,h.base.keep hf (fun k hk hr=>?_) hr (fun _ _=>rfl),?_,by simp[S',h.flen],fun i x f1 h1 h2=>?_,hf.blk h.tape (nO _ _ h.rtb (by simp) (by simp)),bL h.inp hf fun k hk=>nO k _ (h.rvi k hk) (by simp) (by simp),bL h.out hf fun k hk=>nO k _ (h.rvo k hk) (by simp) (by simp),fun j m hj=>(h.cells j m hj).keep hf (fun k hk hr=>?_) hr rfl rfl,(hr _ h.top.lt).trans h.rst,(hr _ h.tape.lt).trans h.rtb,fun k hk=>?_,Sv.has_ext h.rvi (fun k hk=>bT h.inp hk) hr,Sv.has_ext h.rvo (fun k hk=>bT h.out hk) hr,fun k hk=>?_⟩,rfl,hr⟩
 ·rcases hr with hr|hr<;>exact nO k _ hr (by simp) (by simp)
 ·show w'.ownsRow B _ 3 cv (σ.calls++ [f]).length (eU (S.fv++ [(v,c)]) (σ.calls++ [f]))
  rw[yE _ _ h.flen,List.length_append];exact ho
 ·by_cases hi:i<σ.calls.length
  ·rw[List.getElem?_append_left (by rw[h.flen];exact hi)]at h1
   rw[List.getElem?_append_left hi]at h2;refine(h.frames i x f1 h1 h2).keep hf (fun k hk hr=>?_) hr (fun _ _=>rfl);rcases hr with hr|hr<;>exact nO k _ hr (by simp) (by simp)
  ·obtain rfl:i=σ.calls.length:=by have:=(lgS.1 h2).1;simp at this;omega
   simp at h2;have yI:x=(v,c):=by
    have:(S.fv++ [(v,c)])[S.fv.length]?=some x:=by rw[h.flen];exact h1
    simp at this;exact this.symm
   subst h2;subst yI;refine⟨dZ hv hB,dZ hc hB,fun k hk=>?_,fun k hk=>?_⟩
   ·exact if_pos ⟨(bH hv hk).1,hk⟩
   ·show(if _ then _ else if _ then _ else _)=_
    rw[if_neg (fun h=>DP k h.2 hk),if_pos ⟨(bH hc hk).1,hk⟩]
 ·rcases hr with hr|hr<;>exact nO k _ hr (by simp) (by simp)
 ·show(if _ then _ else if _ then _ else if _ then _ else _)=_
  rw[if_neg (fun h=>hvr k hk (.inl h.2)),if_neg (fun h=>hvr k hk (.inr h.2))];by_cases h1:w.heap.size<=k
  ·rw[if_pos ⟨h1,hk⟩]
  ·rw[if_neg (by omega)];exact(rcv k hk).resolve_right h1
 ·change (if w.heap.size<=k∧v.ownBlock=some k then KG.vars (σ.calls.length+1)else if w.heap.size<=k∧c.ownBlock=some k then .refs (σ.calls.length+1)else if w.heap.size<=k∧cv.ownBlock=some k then .calls else S.ro k)≠ .none at hk
  by_cases h1:w.heap.size<=k∧v.ownBlock=some k
  ·have:=bH hv h1.2;omega
  ·rw[if_neg h1]at hk
   by_cases h2:w.heap.size<=k∧c.ownBlock=some k
   ·have:=bH hc h2.2;omega
   ·rw[if_neg h2]at hk
    by_cases h3:w.heap.size<=k∧cv.ownBlock=some k
    ·exact bH ho h3.2
    ·rw[if_neg h3]at hk
     exact⟨(h.new k hk).1,dX (h.new k hk).2 hf.size⟩
theorem SOn.pop(h:SOn w B S σ)(hn:σ.calls≠ [])(hf:Fr (fun k=>k=S.st) w w'){g cp:Nat}(he:S.cv=.slice (some ⟨g,0,none⟩) σ.calls.length cp)
  (ht:Blk w' S.st 123 #[S.bv,S.bc,.int .i64 σ.base.locals,.slice (some ⟨g,0,none⟩) (σ.calls.length-1) cp,.pointer (some ⟨S.tb,0,none⟩)]):
  ∃S',SOn w' B S' {σ with calls:=σ.calls.dropLast}∧S.Ext S' w:=by
 have nO:∀k r,S.ro k=r->r≠ .store->¬k=S.st:=fun k r h1 h3 h4=>by subst h4;rw[h.rst]at h1;exact h3 h1.symm
 have d9:=bL h.calls hf fun k hk=>nO k _ (h.rcv k hk) (by simp)
 rw[he]at d9;have hcut:=nY d9 (m:=σ.calls.length-1) (by omega);rw[vN _ h.flen]at hcut;have Py:σ.calls.dropLast=σ.calls.take (σ.calls.length-1):=List.dropLast_eq_take;refine⟨{S with cv:=.slice (some ⟨g,0,none⟩) (σ.calls.length-1) cp,fv:=S.fv.take (σ.calls.length-1)},⟨ht,h.base.keep hf (fun k hk hr=>?_) (fun _ _=>rfl) (fun _ _=>rfl),?_,?_,fun i x f1 h1 h2=>?_,hf.blk h.tape (nO _ _ h.rtb (by simp)),bL h.inp hf fun k hk=>nO k _ (h.rvi k hk) (by simp),bL h.out hf fun k hk=>nO k _ (h.rvo k hk) (by simp),fun j m hj=>(h.cells j m hj).keep hf (fun k hk hr=>?_) (fun _ _=>rfl) rfl rfl,h.rst,h.rtb,fun k hk=>h.rcv k (by rw[he];exact hk),h.rvi,h.rvo,fun k hk=>⟨(h.new k hk).1,dX (h.new k hk).2 hf.size⟩⟩,rfl,fun _ _=>rfl⟩
 ·rcases hr with hr|hr<;>exact nO k _ hr (by simp)
 ·show w'.ownsRow B _ 3 _ σ.calls.dropLast.length (eU _ σ.calls.dropLast)
  rw[Py,List.length_take,Nat.min_eq_left (by omega)];exact hcut
 ·simp[h.flen]
 ·change (S.fv.take (σ.calls.length-1))[i]?=some x at h1
  change σ.calls.dropLast[i]?=some f1 at h2;rw[Py]at h2;rw[List.getElem?_take]at h1 h2;split at h1
  ·rename_i hi
   rw[if_pos hi]at h2;refine(h.frames i x f1 h1 h2).keep hf (fun k hk hr=>?_) (fun _ _=>rfl) (fun _ _=>rfl);rcases hr with hr|hr<;>exact nO k _ hr (by simp)
  ·cases h1
 ·rcases hr with hr|hr<;>exact nO k _ hr (by simp)
end
set_option maxRecDepth 100000
set_option maxHeartbeats 4000000
theorem BR{w:World}{st cp:Nat}{A:Option Addr}{bv bc l tb:Value}(h:Blk w st 123 #[bv,bc,l,.slice A 0 cp,tb]):Calls Tryz.prog 130 #[.pointer (some ⟨st,0,none⟩)] w fun e w'=>e=.returned (.pointer (some ⟨st,0,none⟩))∧w'=w:=by
 obtain⟨z_,T_,F_⟩:=h.open_;clear h;go_enter Tryz.func130,Tryz.ntmps130;go_wp2_with fail;go_ret;exact⟨rfl,rfl⟩
theorem BS{w:World}{st g n cp:Nat}{bv bc l tb:Value}(h:Blk w st 123 #[bv,bc,l,.slice (some ⟨g,0,none⟩) (n+1) cp,tb])(hn:n<=1000):Calls Tryz.prog 130 #[.pointer (some ⟨st,0,none⟩)] w fun e w'=>e=.returned (.pointer (some ⟨g,n*3,none⟩))∧w'=w:=by
 obtain⟨z_,T_,F_⟩:=h.open_;clear h;have hw:wrap64 (n:Int)=(n:Int):=by unfold wrap64;omega
 go_enter Tryz.func130,Tryz.ntmps130;go_wp2_with fail;go_ret;refine⟨?_,rfl⟩;simp[hw]
theorem gQ{w:World}{B:Nat}{S:Sv}{σ:PSt}(h:SOn w B S σ)(hn:σ.calls.length<=100):Calls Tryz.prog 130 #[.pointer (some ⟨S.st,0,none⟩)] w fun e w'=>e=.returned (.pointer (some ⟨S.fb σ,σ.fo,none⟩))∧w'=w:=by
 have ht:=h.top;by_cases h0:σ.calls= []
 ·obtain⟨A,cp,e⟩:=aI h.calls
  rw[h0]at e;rw[show S.fb σ=S.st by unfold Sv.fb;rw[if_pos h0],show σ.fo=0 by unfold PSt.fo;rw[h0];rfl];rw[e]at ht;exact BR ht
 ·obtain⟨g,cp,x,f,e,_,_,h1⟩:=h.calls_some h0
  rw[show S.fb σ=g by unfold Sv.fb;rw[if_neg h0,e];rfl,show σ.fo=(σ.calls.length-1)*3 from rfl];rw[e,show σ.calls.length=σ.calls.length-1+1 by omega]at ht;exact BS ht (by omega)
def i7(s:ByteArray)(vs:List Vr):Int:=match bK s vs with
 |none=> -1
 |some i=>(i:Int)
theorem Hp{w:World}{b o nv cv:Nat}{V:Option Addr}{vs:List Vr}(hc:w.cell? ⟨b,o,none⟩=some (.slice V nv cv)){B:Nat}(hv:VsAt w B V vs)(hnv:vs.length=nv)(d8:nv<=17592186043904)(name:ByteArray):Calls Tryz.prog 131 #[.pointer (some ⟨b,o,none⟩),.string name] w fun e w'=>e=.returned (.int .i64 (i7 name vs))∧w'=w:=by
 have HV:=aA hv;have oG:=aA hnv;have IP:Hid (∀(i:Nat)(v:Vr),vs[i]?=some v->(v.nm.toList==name.toList)=true->(∀(j:Nat)(u:Vr),i<j->vs[j]?=some u->(u.nm.toList==name.toList)=false)->i7 name vs=(i:Int)):=aA fun i v h1 h2 h3=>by unfold i7;rw[vK h1 h2 h3]
 have G6:Hid ((∀(j:Nat)(u:Vr),vs[j]?=some u->(u.nm.toList==name.toList)=false)->i7 name vs= -1):=aA fun h=>by unfold i7;rw[lM h]
 obtain⟨r,hr⟩:∃r,i7 name vs=r:=⟨_,rfl⟩;rw[hr]at IP G6⊢;clear hv hnv hr;go_enter Tryz.func131,Tryz.ntmps131;go_wp2_with fail
 go_loopw [5] (fun v5 wr=>∃j:Nat,j<=nv∧v5=.int .i64 ((j:Int)-1)∧(∀i u,j<=i->vs[i]?=some u->(u.nm.toList==name.toList)=false)∧wr=w) (fun v _=>(intOf v+1).toNat)
 case atStart=>exact⟨nv,aH _,by first|rfl|go_num,fun i u hi hu=>absurd (lgS.1 hu).1 (by have:=oG.out;omega),rfl⟩
 case round=>
  obtain⟨j,hj,rfl,jC,rfl⟩:=hrel;have W9:=aA jC;clear jC;rcases Nat.eq_zero_or_pos j with Qn|Qn
  ·subst Qn
   obtain rfl:=G6.out fun j u hu=>W9.out j u (fI _) hu
   go_wp2_with fail;go_ret;exact⟨rfl,rfl⟩
  ·obtain⟨i,rfl⟩:∃i,j=i+1:=⟨j-1,by omega⟩
   have e1:(((i+1:Nat):Int)-1)=(i:Int):=by omega
   rw[e1];obtain⟨v,hvj⟩:∃v,vs[i]?=some v:=⟨_,dR (by have:=oG.out;omega)⟩;obtain⟨g,o',eY,cR,c0,c1,c2⟩:=HV.out i v hvj;subst eY;have It:=aA hvj;obtain⟨nm,k,len⟩:=v;dsimp only at c0 c1 c2;have j0:(0:Int)<=(i:Int):=by omega
   have j1:(i:Int)<(nv:Int):=by omega
   clear c1 c2 hvj e1;obtain⟨q,hq⟩:∃q,(nm.toList==name.toList)=q:=⟨_,rfl⟩;have HQ:=aA hq;cases q
   ·go_wp2_with fail
    exact⟨⟨i,(by omega),by first|rfl|go_num,(fun a u ha hu=>by rcases Nat.eq_or_lt_of_le ha with h|h;(subst h;rw[It.out]at hu;injection hu with hu;subst hu;exact HQ.out);exact W9.out a u h hu),(by trivial)⟩,(by simp[intOf];try omega)⟩
   ·obtain rfl:=IP.out i _ It.out HQ.out fun a u ha hu=>W9.out a u ha hu
    go_wp2_with fail;go_ret;exact⟨rfl,rfl⟩
theorem BQ{w:World}{base n cp:Nat}{A:Option Addr}{vs:List Vr}(h:w.ownsRow base 72 3 (.slice A n cp) n (aU vs))(hn:vs.length=n):VsAt w w.heap.size A vs:=fun i v hi=>by
 have hl:=(lgS.1 hi).1;obtain⟨g,cap,e,h1,h2,_,_,h3⟩:=d6 h (by omega);injection e with e;obtain⟨q0,q1,q2⟩:=fS vs i v hi;exact⟨g,0,e,h2,by rw[Nat.zero_add];exact h3 _ _ q0,by rw[Nat.zero_add];exact h3 _ _ q1,by rw[Nat.zero_add];exact h3 _ _ q2⟩
theorem zT{w:World}{B:Nat}{S:Sv}{σ:PSt}(h:SOn w B S σ)(hn:σ.cur.vars.length<=17592186043904)(name:ByteArray):Calls Tryz.prog 131 #[.pointer (some ⟨S.fb σ,σ.fo,none⟩),.string name] w fun e w'=>e=.returned (.int .i64 (i7 name σ.cur.vars))∧w'=w:=by
 obtain⟨hf,⟨h0,_,_⟩,_⟩:=h.cur;have hv:=hf.vars;obtain⟨A,cp,e⟩:=aI hv;rw[e]at hv h0;exact Hp h0 (BQ hv rfl) rfl hn name
def KC(w:World)(l:Option (List Int))(e:Ending):Prop:=match l with
 |none=>∃A n c,e=.returned (.tuple #[.slice A n c,.bool false])
 |some l=>∃v,e=.returned (.tuple #[v,.bool true])∧Sl w (fun k=>k<w.heap.size) 1 v l.length (aC l)
def LookN(w:World)(l:Option (List Int))(e:Ending):Prop:=match l with
 |none=>e=.returned (.tuple #[.slice none 0 0,.bool false])
 |some l=>∃v,e=.returned (.tuple #[v,.bool true])∧Sl w (fun k=>k<w.heap.size) 1 v l.length (aC l)
theorem LookN.x{w:World}{l:Option (List Int)}{e:Ending}(h:LookN w l e):KC w l e:=by
 cases l with
 |none=>exact⟨_,_,_,h⟩
 |some l=>exact h
theorem GU{w:World}{st b o:Nat}{s:ByteArray}(hc:Calls Tryz.prog 130 #[.pointer (some ⟨st,0,none⟩)] w fun e w'=>e=.returned (.pointer (some ⟨b,o,none⟩))∧w'=w)(hf:Calls Tryz.prog 131 #[.pointer (some ⟨b,o,none⟩),.string s] w fun e w'=>e=.returned (.int .i64 (-1))∧w'=w):
  Calls Tryz.prog 158 #[.pointer (some ⟨st,0,none⟩),.string s] w fun e w'=>e=.returned (.tuple #[.slice none 0 0,.bool false])∧w'=w:=by
 have HC:=aA hc;have HF:=aA hf;clear hc hf;go_enter Tryz.func158,Tryz.ntmps158;go_wp2_with fail;refine HC.out.mono ?_;rintro e w1 ⟨rfl,rfl⟩;go_wp2_with fail;refine HF.out.mono ?_;rintro e w2 ⟨rfl,rfl⟩;go_wp2_with fail;refine bodyPost_ret_by (results_tmp2 rfl _ _ _) rfl ?_;exact⟨rfl,rfl⟩
theorem GV{w:World}{st b o i g p nc cc:Nat}{v:Value}{s:ByteArray}(hc:Calls Tryz.prog 130 #[.pointer (some ⟨st,0,none⟩)] w fun e w'=>e=.returned (.pointer (some ⟨b,o,none⟩))∧w'=w)(hf:Calls Tryz.prog 131 #[.pointer (some ⟨b,o,none⟩),.string s] w fun e w'=>e=.returned (.int .i64 i)∧w'=w)
  (h1:w.cell? ⟨b,o+1,none⟩=some (.slice (some ⟨g,0,none⟩) nc cc)) (hi:i<nc) (h2:w.cell? ⟨g,i,none⟩=some (.pointer (some ⟨p,0,none⟩))) (h3:w.cell? ⟨p,0,none⟩=some v):
  Calls Tryz.prog 158 #[.pointer (some ⟨st,0,none⟩),.string s] w fun e w'=>e=.returned (.tuple #[v,.bool true])∧w'=w:=by
 have HC:=aA hc;have HF:=aA hf;clear hc hf;have j0:(0:Int)<=(i:Int):=by omega
 have j1:(i:Int)<(nc:Int):=by omega
 go_enter Tryz.func158,Tryz.ntmps158;go_wp2_with fail;refine HC.out.mono ?_;rintro e w1 ⟨rfl,rfl⟩;go_wp2_with fail;refine HF.out.mono ?_;rintro e w2 ⟨rfl,rfl⟩;go_wp2_with fail;refine bodyPost_ret_by (results_tmp2 rfl _ _ _) rfl ?_;exact⟨rfl,rfl⟩
theorem i8{s:ByteArray}{vs:List Vr}{i:Nat}(h:bK s vs=some i):i7 s vs=(i:Int):=by unfold i7;rw[h]
theorem pB{s:ByteArray}{vs:List Vr}(h:bK s vs=none):i7 s vs= -1:=by unfold i7;rw[h]
theorem PSt.look_none{σ:PSt}{s:ByteArray}(h:bK s σ.cur.vars=none):σ.look s=none:=by unfold PSt.look PSt.at_;rw[h];rfl
theorem SOn.refs{w:World}{B:Nat}{S:Sv}{σ:PSt}(h:SOn w B S σ){i c:Nat}(hc:σ.cur.idx[i]?=some c):∃g cc,w.cell? ⟨S.fb σ,σ.fo+1,none⟩=some (.slice (some ⟨g,0,none⟩) σ.cur.idx.length cc)∧i<σ.cur.idx.length∧w.cell? ⟨g,i,none⟩=some (.pointer (some ⟨S.cb c,0,none⟩)):=by
 obtain⟨hf,⟨_,h1,_⟩,_⟩:=h.cur;have hi:i<σ.cur.idx.length:=(lgS.1 hc).1;have hr:=hf.refs;obtain⟨g,cap,e,_,_,_,_,h3⟩:=d6 hr (by omega);rw[e]at h1;exact⟨g,cap,h1,hi,h3 i _ (by unfold Sv.ptrs;rw[List.getElem?_map,hc];rfl)⟩
theorem CellAt.sl{w:World}{B:Nat}{S:Sv}{i:Nat}{l:List Int}(h:CellAt w B S i l):Sl w (fun k=>k<w.heap.size) 1 (S.iv i) l.length (aC l):=(Sl.of_own h.own).mono fun k hk=>hk.2
theorem J3{w:World}{B:Nat}{S:Sv}{σ:PSt}{kd:Nat->Int}{m:Nat}(h:SOn w B S σ)(ho:σ.Ok kd m)(hm:m<=10000)(s:ByteArray):Calls Tryz.prog 158 #[.pointer (some ⟨S.st,0,none⟩),.string s] w fun e w'=>LookN w' (σ.look s) e∧w'=w:=by
 have hC:=gQ h ho.nc;have hF:=zT h (by have:=ho.cur.bd;omega) s;cases hs:bK s σ.cur.vars with
 |none=>
  rw[pB hs]at hF;rw[PSt.look_none hs];refine(GU hC hF).mono ?_;rintro e w' ⟨rfl,rfl⟩;exact⟨rfl,rfl⟩
 |some i=>
  rw[i8 hs]at hF;obtain⟨v,c,l,_,hc,hl,_,_,hlk⟩:=ho.find hs;rw[hlk];obtain⟨g,cc,h1,hi,h2⟩:=h.refs hc;have bM:=h.cells c l hl;refine(GV hC hF h1 hi h2 (bM.blk.cell 0)).mono ?_;rintro e w' ⟨rfl,rfl⟩;exact⟨⟨_,rfl,bM.sl⟩,rfl⟩
theorem OY{P:Program}{f:FuncId}{args:Array Value}{w:World}{n:Nat}{v:Value}
  (h:Calls P f args (w.drewN n) fun e w'=>e=.returned v∧w.drewN n=w'):Calls P f args (w.drewN n) fun e w''=>e=.returned v∧∃m,w''=w.drewN m:=
 h.mono fun _ _⟨he,hm⟩=>⟨he,n,hm.symm⟩
theorem Ho{w:World}{st b o i g p nc cc:Nat}{s:ByteArray}(hc:Calls Tryz.prog 130 #[.pointer (some ⟨st,0,none⟩)] w fun e w'=>e=.returned (.pointer (some ⟨b,o,none⟩))∧w'=w)(hf:∀n,Calls Tryz.prog 131 #[.pointer (some ⟨b,o,none⟩),.string s] (w.drewN n) fun e w'=>e=.returned (.int .i64 i)∧w.drewN n=w')
  (h1:w.cell? ⟨b,o+1,none⟩=some (.slice (some ⟨g,0,none⟩) nc cc)) (hi:i<nc) (h2:w.cell? ⟨g,i,none⟩=some (.pointer (some ⟨p,0,none⟩))) (hb:b<w.heap.size) (hg:g<w.heap.size):
  Calls Tryz.prog 159 #[.pointer (some ⟨st,0,none⟩),.string s] w fun e w'=>e=.returned (.pointer (some ⟨p,0,none⟩))∧Below w.heap.size w w':=by
 have HC:=aA hc;have HF:=aA hf;clear hc hf;have j0:(0:Int)<=(i:Int):=by omega
 have j1:(i:Int)<(nc:Int):=by omega
 go_enter Tryz.func159,Tryz.ntmps159;go_wp2_with fail;refine HC.out.mono ?_;rintro e w1 ⟨rfl,rfl⟩;go_wp2_with fail;go_quiet ((go_at_call 131;exact OY (HF.out _)));go_wp2_with fail;go_ret;exact⟨rfl,Bk.drewN_ (aM _ _) _⟩
theorem rO{w:World}{B:Nat}{S:Sv}{σ:PSt}{kd:Nat->Int}{m:Nat}(h:SOn w B S σ)(ho:σ.Ok kd m)(hm:m<=10000){s:ByteArray}{i c:Nat}(hs:bK s σ.cur.vars=some i)(hc:σ.cur.idx[i]?=some c):Calls Tryz.prog 159 #[.pointer (some ⟨S.st,0,none⟩),.string s] w fun e w'=>e=.returned (.pointer (some ⟨S.cb c,0,none⟩))∧Below w.heap.size w w':=by
 obtain⟨g,cc,h1,hi,h2⟩:=h.refs hc;obtain⟨_,_,_,_,hfb⟩:=h.cur;have hg:g<w.heap.size:=block_lt_of_cell h2;refine Ho (gQ h ho.nc) (fun n=>?_) h1 hi h2 hfb hg;have hF:=zT (h.next (w':=w.drewN n) (Bk.drewN_ (aM _ _) n)) (by have:=ho.cur.bd;omega) s;rw[i8 hs]at hF;exact hF.mono fun e w' h=>⟨h.1,h.2.symm⟩
theorem Dv{w:World}{B:Nat}{S:Sv}{σ:PSt}{kd:Nat->Int}{m:Nat}(h:SOn w B S σ)(ho:σ.Ok kd m)(hm:m<=10000)(s:ByteArray):Calls Tryz.prog 154 #[.pointer (some ⟨S.st,0,none⟩),.string s] w fun e w'=>KC w' (σ.look s) e∧Below w.heap.size w w':=by
 have HL:=aA (J3 h ho hm s);have HM:Hid (∀l,σ.look s=some l->l.length<=1000):=aA fun l hl=>ho.lookLen hl
 generalize σ.look s=lk at *;clear h ho;have GL:∀W:World,Sl W (fun k=>k<W.heap.size) 1 (.slice none 0 0) ([]:List Int).length (aC []):=fun W=>Sl.nil
 go_enter Tryz.func154,Tryz.ntmps154;go_wp2_with fail;refine HL.out.mono ?_;rintro e w1 ⟨he,rfl⟩;cases lk with
 |none=>
  obtain rfl:=he;have HN:=aA (GL w1);clear GL;go_wp2_with fail;refine(eR HN.out (by decide)).mono ?_;rintro e w2 ⟨v2,rfl,hv,hb⟩;obtain⟨A2,c2,rfl⟩:=aI hv;have HB:=aA hb;clear hv hb;go_wp2_with fail;refine bodyPost_ret_by (results_tmp2 rfl _ _ _) rfl ?_;exact⟨⟨_,_,_,rfl⟩,HB.out⟩
 |some l=>
  obtain⟨v,rfl,hs⟩:=he;have HS:=aA hs;have Ux:=HM.out l rfl;clear hs GL;go_wp2_with fail;refine(eR HS.out (by omega)).mono ?_;rintro e w2 ⟨v2,rfl,hv,hb⟩;have HV:=aA hv;have HB:=aA hb;clear hv hb;go_wp2_with fail;refine bodyPost_ret_by (results_tmp2 rfl _ _ _) rfl ?_;exact⟨⟨v2,rfl,(Sl.of_own HV.out).mono fun k hk=>hk.2⟩,HB.out⟩
theorem fO(b:Bool)(w:World):
  Calls Tryz.prog 204 #[.bool b] w fun e w'=>e=.returned (.int .i64 (if b then 1 else 0))∧w=w':=by
 cases b<;>(go_enter Tryz.func204,Tryz.ntmps204;go_wp2_with fail;go_ret;exact⟨rfl,rfl⟩)
theorem J2(op x y:Int)(fY:op=11∨op=12)(w:World):
  Calls Tryz.prog 205 #[.int .u8 op,.int .i64 x,.int .i64 y] w fun e w'=>e=.returned (.tuple #[.int .i64 (apply op x y).1,.int .i64 (apply op x y).2])∧w=w':=by
 by_cases hy:y=0
 ·subst hy
  rcases fY with rfl|rfl
  all_goals
   go_enter Tryz.func205,Tryz.ntmps205;go_wp2_with fail
   go_ret2
   exact⟨rfl,rfl⟩
 ·have h0:(y==0)=false:=by simpa using hy
  rcases fY with rfl|rfl
  ·go_enter Tryz.func205,Tryz.ntmps205
   go_wp2_with fail
   go_ret2
   exact⟨by simp[apply,hy],rfl⟩
  ·go_enter Tryz.func205,Tryz.ntmps205
   go_wp2_with fail
   go_ret2
   exact⟨by simp[apply,hy],rfl⟩
theorem CQ(op x y:Int)(w:World):
  Calls Tryz.prog 190 #[.int .u8 op,.int .i64 x,.int .i64 y] w fun e w'=>e=.returned (.tuple #[.int .i64 (apply op x y).1,.int .i64 (apply op x y).2])∧w=w':=by
 by_cases fY:8<=op∧op<=23
 ·obtain e|e|e|e|e|e|e|e|e|e|e|e|e|e|e|e:op=8∨op=9∨op=10∨op=11∨op=12∨op=13∨op=14∨op=15∨op=16∨op=17∨op=18∨op=19∨op=20∨op=21∨op=22∨op=23:=by omega
  all_goals subst e
  ·go_enter Tryz.func190,Tryz.ntmps190
   go_wp2_with fail
   all_goals go_ret2
   all_goals exact⟨by first|(simp[apply];done)|(simp[apply];omega)|(simp_all[apply];done)|(simp_all[apply];omega),rfl⟩
  ·go_enter Tryz.func190,Tryz.ntmps190
   go_wp2_with fail
   all_goals go_ret2
   all_goals exact⟨by first|(simp[apply];done)|(simp[apply];omega)|(simp_all[apply];done)|(simp_all[apply];omega),rfl⟩
  ·go_enter Tryz.func190,Tryz.ntmps190
   go_wp2_with fail
   all_goals go_ret2
   all_goals exact⟨by first|(simp[apply];done)|(simp[apply];omega)|(simp_all[apply];done)|(simp_all[apply];omega),rfl⟩
  ·go_enter Tryz.func190,Tryz.ntmps190
   go_wp2_with (go_at_call 205;((with_reducible refine(J2 _ _ _ (by decide) _).mono ?_);rintro e w' ⟨rfl,rfl⟩))
   go_ret2
   exact⟨rfl,rfl⟩
  ·go_enter Tryz.func190,Tryz.ntmps190
   go_wp2_with (go_at_call 205;((with_reducible refine(J2 _ _ _ (by decide) _).mono ?_);rintro e w' ⟨rfl,rfl⟩))
   go_ret2
   exact⟨rfl,rfl⟩
  ·go_enter Tryz.func190,Tryz.ntmps190
   go_wp2_with fail
   all_goals go_ret2
   all_goals exact⟨by first|(simp[apply];done)|(simp[apply];omega)|(simp_all[apply];done)|(simp_all[apply];omega),rfl⟩
  ·go_enter Tryz.func190,Tryz.ntmps190
   go_wp2_with fail
   all_goals go_ret2
   all_goals exact⟨by first|(simp[apply];done)|(simp[apply];omega)|(simp_all[apply];done)|(simp_all[apply];omega),rfl⟩
  ·go_enter Tryz.func190,Tryz.ntmps190
   go_wp2_with fail
   all_goals go_ret2
   all_goals exact⟨by first|(simp[apply];done)|(simp[apply];omega)|(simp_all[apply];done)|(simp_all[apply];omega),rfl⟩
  ·go_enter Tryz.func190,Tryz.ntmps190
   go_wp2_with (go_at_call 204;((with_reducible refine(fO _ _).mono ?_);rintro e w' ⟨rfl,rfl⟩))
   all_goals go_ret2
   all_goals exact⟨by first|(simp[apply];done)|(simp[apply];omega)|(simp_all[apply];done)|(simp_all[apply];omega),rfl⟩
  ·go_enter Tryz.func190,Tryz.ntmps190
   go_wp2_with (go_at_call 204;((with_reducible refine(fO _ _).mono ?_);rintro e w' ⟨rfl,rfl⟩))
   all_goals go_ret2
   all_goals exact⟨by first|(simp[apply];done)|(simp[apply];omega)|(simp_all[apply];done)|(simp_all[apply];omega),rfl⟩
  ·go_enter Tryz.func190,Tryz.ntmps190
   go_wp2_with (go_at_call 204;((with_reducible refine(fO _ _).mono ?_);rintro e w' ⟨rfl,rfl⟩))
   all_goals go_ret2
   all_goals exact⟨by first|(simp[apply];done)|(simp[apply];omega)|(simp_all[apply];done)|(simp_all[apply];omega),rfl⟩
  ·go_enter Tryz.func190,Tryz.ntmps190
   go_wp2_with (go_at_call 204;((with_reducible refine(fO _ _).mono ?_);rintro e w' ⟨rfl,rfl⟩))
   all_goals go_ret2
   all_goals exact⟨by first|(simp[apply];done)|(simp[apply];omega)|(simp_all[apply];done)|(simp_all[apply];omega),rfl⟩
  ·go_enter Tryz.func190,Tryz.ntmps190
   go_wp2_with (go_at_call 204;((with_reducible refine(fO _ _).mono ?_);rintro e w' ⟨rfl,rfl⟩))
   all_goals go_ret2
   all_goals exact⟨by first|(simp[apply];done)|(simp[apply];omega)|(simp_all[apply];done)|(simp_all[apply];omega),rfl⟩
  ·go_enter Tryz.func190,Tryz.ntmps190
   go_wp2_with (go_at_call 204;((with_reducible refine(fO _ _).mono ?_);rintro e w' ⟨rfl,rfl⟩))
   all_goals go_ret2
   all_goals exact⟨by first|(simp[apply];done)|(simp[apply];omega)|(simp_all[apply];done)|(simp_all[apply];omega),rfl⟩
  ·by_cases hx:x=0<;>by_cases hy:y=0
   all_goals
    go_enter Tryz.func190,Tryz.ntmps190;go_wp2_with (go_at_call 204;((with_reducible refine(fO _ _).mono ?_);rintro e w' ⟨rfl,rfl⟩))
    go_ret2
    exact⟨by simp[apply,hx,hy],rfl⟩
  ·by_cases hx:x=0<;>by_cases hy:y=0
   all_goals
    go_enter Tryz.func190,Tryz.ntmps190;go_wp2_with (go_at_call 204;((with_reducible refine(fO _ _).mono ?_);rintro e w' ⟨rfl,rfl⟩))
    go_ret2
    exact⟨by simp[apply,hx,hy],rfl⟩
 ·have ha:apply op x y=(0,7):=by
   unfold apply
   repeat (first|rw[if_neg (by omega)])
  rw[ha];by_cases h8:op<8
  ·go_enter Tryz.func190,Tryz.ntmps190
   go_wp2_with fail
   go_ret2
   exact⟨rfl,rfl⟩
  ·have Pa:23<op:=by omega
   clear fY;go_enter Tryz.func190,Tryz.ntmps190;go_wp2_with fail
   go_ret2
   exact⟨rfl,rfl⟩
end Go.Proofs.YtakfdnnlhjhcfaaGreatDoor
