/- Part of the proof. -/
import Derived.RangeFuncIn
import Derived.RangeFuncRecord
import Derived.RangeFuncSeq
import Derived.OrdersIn
import Derived.ControlIn
import Derived.Test.YtakfdnnlhjhcfaaGreatDoorA29
import Derived.Test.YtakfdnnlhjhcfaaGreatDoorA31
set_option linter.unusedVariables false
set_option linter.unusedSimpArgs false
set_option maxRecDepth 100000
set_option maxHeartbeats 8000000
namespace Go.Proofs.YtakfdnnlhjhcfaaGreatDoor
open Go.RowKit Bk
section
variable{w w':World}{B:Nat}
theorem ResP.form{cs:List (List Int)}{inp out:List Int}{fuel lo:Nat}{q:Except Int (PSt×Nat)}{v:Value}(h:ResP cs inp out fuel q v lo w):∃A1 m1 c1 A2 m2 c2 A3 m3 c3 a b,v=.agg #[.slice A1 m1 c1,.slice A2 m2 c2,.slice A3 m3 c3,.int .i64 a,.int .i64 b]:=by
 have key:∀{uC uI uO:Value}{D:Nat->Prop}{cs:List (List Int)}{inp out:List Int},SW w D uC uI uO cs inp out->∃A1 m1 c1 A2 m2 c2 A3 m3 c3,uC=.slice A1 m1 c1∧uI=.slice A2 m2 c2∧uO=.slice A3 m3 c3:=fun iM=>by
  obtain⟨sv,⟨A1,c1,e1,_⟩,_⟩:=iM.row;obtain⟨A2,c2,e2,_⟩:=iM.inp;obtain⟨A3,c3,e3,_⟩:=iM.out;exact⟨A1,_,c1,A2,_,c2,A3,_,c3,e1,e2,e3⟩
 cases q with
 |error x=>
  obtain⟨uC,uI,uO,rfl,iM⟩:=h;obtain⟨A1,m1,c1,A2,m2,c2,A3,m3,c3,rfl,rfl,rfl⟩:=key iM;exact⟨_,_,_,_,_,_,_,_,_,_,_,rfl⟩
 |ok p=>
  obtain⟨uC,uI,uO,rfl,iM⟩:=h;obtain⟨A1,m1,c1,A2,m2,c2,A3,m3,c3,rfl,rfl,rfl⟩:=key iM;exact⟨_,_,_,_,_,_,_,_,_,_,_,rfl⟩
theorem ResP.fr{cs:List (List Int)}{inp out:List Int}{fuel lo lo':Nat}{q:Except Int (PSt×Nat)}{v:Value}(h:ResP cs inp out fuel q v lo w){O:Nat->Prop}(hf:Fr O w w')(hO:∀k,O k->k<lo∨w.heap.size<=k)(Qt:lo'<=lo):ResP cs inp out fuel q v lo' w':=by
 have key:∀{uC uI uO:Value}{cs:List (List Int)}{inp out:List Int},SW w (fun k=>lo<=k∧k<w.heap.size) uC uI uO cs inp out->SW w' (fun k=>lo'<=k∧k<w'.heap.size) uC uI uO cs inp out:=fun iM=>iM.map (fun b o hb=>hf.cell hb.2 (fun h=>by rcases hO b h with h1|h1<;>have:=hb.1<;>have:=hb.2<;>omega) o) fun k hk=>⟨fC Qt hk.1,dX hk.2 hf.size⟩
 cases q with
 |error x=>
  obtain⟨uC,uI,uO,e,iM⟩:=h;exact⟨uC,uI,uO,e,key iM⟩
 |ok p=>
  obtain⟨uC,uI,uO,e,iM⟩:=h;exact⟨uC,uI,uO,e,key iM⟩
theorem kH{d nv cv nq cq fuel:Nat}{V Q:Option Addr}{m:Nd}{p:Pg}{pcs:List Pc}(hp:ProgAt w B d V nv cv Q nq cq m p pcs){vC vI vO:Value}{cs:List (List Int)}{inp out:List Int}(hS:SW w (·<B) vC vI vO cs inp out)(eN:eS p.vars cs inp out=true)(NO:fuel<=2000)(hb:Below B w w'):
  Calls Tryz.prog 9 #[.agg #[.slice V nv cv,.slice Q nq cq,.int .u8 m.k,.int .i64 m.num,.string m.nm,.slice m.A m.n m.cap],.agg #[vC,vI,vO],.int .i64 fuel] w' fun e w''=>∃v,e=.returned v∧ResP cs inp out fuel (fA p false cs inp out fuel) v w'.heap.size w''∧Below w'.heap.size w' w'':=by
 have wQ:=aA (fun W hW=>CV (w':=W) hp hS eN NO false hW);have yJ:B<=w'.heap.size:=by have:=hb.size;have:=hp.hB;omega
 have HB:=aA hb;obtain⟨AC,nc,cC,rfl⟩:∃A n c,vC=.slice A n c:=by obtain⟨sv,⟨A,c,e,_⟩,_⟩:=hS.row;exact⟨A,_,c,e⟩
 obtain⟨AI,ni,cI,rfl⟩:∃A n c,vI=.slice A n c:=by obtain⟨A,c,e,_⟩:=hS.inp;exact⟨A,_,c,e⟩
 obtain⟨AO,no,cO,rfl⟩:∃A n c,vO=.slice A n c:=by obtain⟨A,c,e,_⟩:=hS.out;exact⟨A,_,c,e⟩
 obtain⟨q,hq⟩:∃q,fA p false cs inp out fuel=q:=⟨_,rfl⟩;rw[hq]at wQ⊢;clear hp hS eN hb hq;obtain⟨mk,mnum,mnm,mA,mn,mc⟩:=m;dsimp only at *;go_enter Tryz.func9,Tryz.ntmps9;go_upto_region 1 with fail;refine aB ?_;intro w1 aF;have aG:Below w'.heap.size w' w1:=(by rw[aF];go_grown);have K3:Blk w1 w'.heap.size 28 #[.slice V nv cv,.slice Q nq cq,.int .u8 mk,.int .i64 mnum,.string mnm,.slice mA mn mc]:=(by rw[aF];exact aQ);have K4:Blk w1 (w'.heap.size+1) 32 #[.slice AC nc cC,.slice AI ni cI,.slice AO no cO]:=(by rw[aF];exact((Blk.new' (by simp) _ _).alloc _));have K6:Blk w1 (w'.heap.size+1+1) 41 #[.slice none 0 0,.slice none 0 0,.slice none 0 0,.int .i64 0,.int .i64 0]:=(by rw[aF];exact(Blk.new' (by simp) _ _));have aO:=aA aG;have oF:=aA K6;have hs1:=K6.lt;obtain⟨rJ,mK,mJ⟩:=K3.open_;obtain⟨tE,s9,s6⟩:=K4.open_;clear aF aG K3 K4 K6;go_wp2_with fail;refine(wQ.out w1 (HB.out.trans (aO.out.mono yJ))).mono ?_;rintro en w2 ⟨u,v,rfl,mE,hb2⟩;obtain⟨A1,m1,c1,A2,m2,c2,A3,m3,c3,a,b,rfl⟩:=mE.form;have Cy:=aA mE;have aP:=aA hb2;have Bx:=aA (oF.out.next hb2);have hs2:=hb2.size;clear mE hb2 rJ mK mJ tE s9 s6;go_upto_region 2 with fail;refine aB ?_;intro w3 dP;have aT:Below w2.heap.size w2 w3:=(by rw[dP];go_grown)
 have K8:Blk w3 w2.heap.size 41 #[.slice A1 m1 c1,.slice A2 m2 c2,.slice A3 m3 c3,.int .i64 a,.int .i64 b]:=(by rw[dP];exact aQ);have bD:=aA aT;have JM:=aA (Bx.out.next aT);obtain⟨z_8,Nq,Jy⟩:=K8.open_;obtain⟨RE,IW,IF⟩:=JM.out.open_;have dG:¬(w2.heap.size=w'.heap.size+1+1):=by omega
 clear dP aT K8;go_wp2_with fail;generalize fG:World.setCell _ _ _=wf at *;have kf:Blk wf (w'.heap.size+1+1) 41 #[.slice A1 m1 c1,.slice A2 m2 c2,.slice A3 m3 c3,.int .i64 a,.int .i64 b]:=(by rw[<-fG];simpa using((((JM.out.set_ 0 (.slice A1 m1 c1)).set_ 1 (.slice A2 m2 c2)).set_ 2 (.slice A3 m3 c3)).set_ 3 (.int .i64 a)).set_ 4 (.int .i64 b));have ff:Fr (fun k=>k=w'.heap.size+1+1) w3 wf:=(by rw[<-fG];repeat (first|exact Fr.refl _ _|(refine Fr.set ?_ ?_ _;rotate_left;exact rfl)));clear fG Nq Jy IW IF;refine bodyPost_ret_by (eP rfl _ _ (w'.heap.size+1+1) _ _ _ rfl kf Tryz.underlying41 rfl (by rw[jT];rfl)) rfl ?_;have iJ:Fr (fun k=>k=w'.heap.size+1+1) w2 wf:=(Fr.of bD.out).trans ff;refine⟨_,rfl,Cy.out.fr iJ (fun k hk=>.inl (by omega)) (by omega),(aO.out.trans (aP.out.mono (by omega))).trans (iJ.below (by omega) fun k hk=>by omega)⟩
theorem i6{d nv cv nq cq fuel:Nat}{V Q:Option Addr}{m:Nd}{p:Pg}{pcs:List Pc}(hp:ProgAt w B d V nv cv Q nq cq m p pcs){vC vI vO:Value}{cs:List (List Int)}{inp out:List Int}(hS:SW w (·<B) vC vI vO cs inp out)(eN:eS p.vars cs inp out=true)(NO:fuel<=2000)(hb:Below B w w'):
  Calls Tryz.prog 10 #[.agg #[.slice V nv cv,.slice Q nq cq,.int .u8 m.k,.int .i64 m.num,.string m.nm,.slice m.A m.n m.cap],.agg #[vC,vI,vO],.int .i64 fuel] w' fun e w''=>∃v,e=.returned v∧ResP cs inp out fuel (fA p true cs inp out fuel) v w'.heap.size w''∧Below w'.heap.size w' w'':=by
 have wQ:=aA (fun W hW=>CV (w':=W) hp hS eN NO true hW);have yJ:B<=w'.heap.size:=by have:=hb.size;have:=hp.hB;omega
 have HB:=aA hb;obtain⟨AC,nc,cC,rfl⟩:∃A n c,vC=.slice A n c:=by obtain⟨sv,⟨A,c,e,_⟩,_⟩:=hS.row;exact⟨A,_,c,e⟩
 obtain⟨AI,ni,cI,rfl⟩:∃A n c,vI=.slice A n c:=by obtain⟨A,c,e,_⟩:=hS.inp;exact⟨A,_,c,e⟩
 obtain⟨AO,no,cO,rfl⟩:∃A n c,vO=.slice A n c:=by obtain⟨A,c,e,_⟩:=hS.out;exact⟨A,_,c,e⟩
 obtain⟨q,hq⟩:∃q,fA p true cs inp out fuel=q:=⟨_,rfl⟩;rw[hq]at wQ⊢;clear hp hS eN hb hq;obtain⟨mk,mnum,mnm,mA,mn,mc⟩:=m;dsimp only at *;go_enter Tryz.func10,Tryz.ntmps10;go_upto_region 1 with fail;refine aB ?_;intro w1 aF;have aG:Below w'.heap.size w' w1:=(by rw[aF];go_grown);have K3:Blk w1 w'.heap.size 28 #[.slice V nv cv,.slice Q nq cq,.int .u8 mk,.int .i64 mnum,.string mnm,.slice mA mn mc]:=(by rw[aF];exact aQ);have K4:Blk w1 (w'.heap.size+1) 32 #[.slice AC nc cC,.slice AI ni cI,.slice AO no cO]:=(by rw[aF];exact((Blk.new' (by simp) _ _).alloc _));have K6:Blk w1 (w'.heap.size+1+1) 41 #[.slice none 0 0,.slice none 0 0,.slice none 0 0,.int .i64 0,.int .i64 0]:=(by rw[aF];exact(Blk.new' (by simp) _ _));have aO:=aA aG;have oF:=aA K6;have hs1:=K6.lt;obtain⟨rJ,mK,mJ⟩:=K3.open_;obtain⟨tE,s9,s6⟩:=K4.open_;clear aF aG K3 K4 K6;go_wp2_with fail;refine(wQ.out w1 (HB.out.trans (aO.out.mono yJ))).mono ?_;rintro en w2 ⟨u,v,rfl,mE,hb2⟩;obtain⟨A1,m1,c1,A2,m2,c2,A3,m3,c3,a,b,rfl⟩:=mE.form;have Cy:=aA mE;have aP:=aA hb2;have Bx:=aA (oF.out.next hb2);have hs2:=hb2.size;clear mE hb2 rJ mK mJ tE s9 s6;go_upto_region 2 with fail;refine aB ?_;intro w3 dP;have aT:Below w2.heap.size w2 w3:=(by rw[dP];go_grown)
 have K8:Blk w3 w2.heap.size 41 #[.slice A1 m1 c1,.slice A2 m2 c2,.slice A3 m3 c3,.int .i64 a,.int .i64 b]:=(by rw[dP];exact aQ);have bD:=aA aT;have JM:=aA (Bx.out.next aT);obtain⟨z_8,Nq,Jy⟩:=K8.open_;obtain⟨RE,IW,IF⟩:=JM.out.open_;have dG:¬(w2.heap.size=w'.heap.size+1+1):=by omega
 clear dP aT K8;go_wp2_with fail;generalize fG:World.setCell _ _ _=wf at *;have kf:Blk wf (w'.heap.size+1+1) 41 #[.slice A1 m1 c1,.slice A2 m2 c2,.slice A3 m3 c3,.int .i64 a,.int .i64 b]:=(by rw[<-fG];simpa using((((JM.out.set_ 0 (.slice A1 m1 c1)).set_ 1 (.slice A2 m2 c2)).set_ 2 (.slice A3 m3 c3)).set_ 3 (.int .i64 a)).set_ 4 (.int .i64 b));have ff:Fr (fun k=>k=w'.heap.size+1+1) w3 wf:=(by rw[<-fG];repeat (first|exact Fr.refl _ _|(refine Fr.set ?_ ?_ _;rotate_left;exact rfl)));clear fG Nq Jy IW IF;refine bodyPost_ret_by (eP rfl _ _ (w'.heap.size+1+1) _ _ _ rfl kf Tryz.underlying41 rfl (by rw[jT];rfl)) rfl ?_;have iJ:Fr (fun k=>k=w'.heap.size+1+1) w2 wf:=(Fr.of bD.out).trans ff;refine⟨_,rfl,Cy.out.fr iJ (fun k hk=>.inl (by omega)) (by omega),(aO.out.trans (aP.out.mono (by omega))).trans (iJ.below (by omega) fun k hk=>by omega)⟩
end
end Go.Proofs.YtakfdnnlhjhcfaaGreatDoor
namespace Bk
open Go Go.RowKit Go.Proofs.YtakfdnnlhjhcfaaGreatDoor
theorem eQ{g:Nat->Nat}:∀{n:Nat},aY g n=0->∀i,i<n->g i=0
 |0,_,i,hi=>absurd hi (Nat.not_lt_zero _)
 |n+1,h,i,hi=>by
  simp only[aY]at h;rcases Nat.lt_succ_iff_lt_or_eq.1 hi with h1|rfl
  ·exact eQ (by omega) i h1
  ·omega
theorem wC{e:Int}(h:one e=0):e=0:=by
 unfold one at h;split at h
 ·assumption
 ·cases h
def Sq.hok(procs:List Pr):Sq->Prop
 |.cal _ s _ _=>∃u,procs.find? (fun p=>p.nm.toList==s.toList)=some u
 |.ifs _ a b _ _|.frm _ a b _ _=>a.cok procs∧b.cok procs
 |.loc _ _ b _ _|.lst _ b _=>b.cok procs
 |_=>True
theorem Sq.cok_of{procs:List Pr}:∀(s:Sq),(∀i,i<s.len->(s.drop i).hok procs)->s.cok procs
 |.nil,_=>trivial
 |.upd _ _ _ r,h=>Sq.cok_of r fun i hi=>h (i+1) (Nat.succ_lt_succ hi)
 |.swp _ _ r,h=>Sq.cok_of r fun i hi=>h (i+1) (Nat.succ_lt_succ hi)
 |.stk _ _ _ r,h=>Sq.cok_of r fun i hi=>h (i+1) (Nat.succ_lt_succ hi)
 |.tap _ _ r,h=>Sq.cok_of r fun i hi=>h (i+1) (Nat.succ_lt_succ hi)
 |.cal _ _ _ r,h=>⟨h 0 (Nat.succ_pos _),Sq.cok_of r fun i hi=>h (i+1) (Nat.succ_lt_succ hi)⟩
 |.ifs _ _ _ _ r,h=>⟨(h 0 (Nat.succ_pos _)).1,(h 0 (Nat.succ_pos _)).2,Sq.cok_of r fun i hi=>h (i+1) (Nat.succ_lt_succ hi)⟩
 |.frm _ _ _ _ r,h=>⟨(h 0 (Nat.succ_pos _)).1,(h 0 (Nat.succ_pos _)).2,Sq.cok_of r fun i hi=>h (i+1) (Nat.succ_lt_succ hi)⟩
 |.loc _ _ _ _ r,h=>⟨h 0 (Nat.succ_pos _),Sq.cok_of r fun i hi=>h (i+1) (Nat.succ_lt_succ hi)⟩
 |.lst _ _ r,h=>⟨h 0 (Nat.succ_pos _),Sq.cok_of r fun i hi=>h (i+1) (Nat.succ_lt_succ hi)⟩
theorem DG{s:ByteArray}:∀{procs:List Pr}{pcs:List Pc},procs.length=pcs.length->(∀(i:Nat)(c:Pc)(u:Pr),pcs[i]?=some c->procs[i]?=some u->c.nm=u.nm)->(fJ s pcs).isSome=true->∃u,procs.find? (fun p=>p.nm.toList==s.toList)=some u
 | [],[],_,_,h=>by simp[fJ]at h
 | [],_::_,hl,_,_=>by simp at hl
 |_::_,[],hl,_,_=>by simp at hl
 |q::qs,p::ps,hl,hn,h=>by
  have h0:=hn 0 p q rfl rfl;simp only[List.find?_cons];by_cases hc:(q.nm.toList==s.toList)=true
  ·rw[hc];exact⟨q,rfl⟩
  ·rw[Bool.not_eq_true]at hc
   rw[hc];simp only[fJ,h0,hc]at h;refine DG (pcs:=ps) (by simpa using hl) (fun i c u h1 h2=>hn (i+1) c u h1 h2) ?_;cases hx:fJ s ps with
   |none=>rw[hx]at h;simp at h
   |some _=>rfl
section
variable{w:World}{B:Nat}{pcs:List Pc}{procs:List Pr}(hl:procs.length=pcs.length)(hn:∀(i:Nat)(c:Pc)(u:Pr),pcs[i]?=some c->procs[i]?=some u->c.nm=u.nm)
include hl hn
theorem TX{s:ByteArray}{n:Nat}(h:sQ pcs s n=0):∃u,procs.find? (fun p=>p.nm.toList==s.toList)=some u:=by
 unfold sQ at h;refine DG hl hn ?_;cases hx:fJ s pcs with
 |none=>rw[hx]at h;simp at h
 |some i=>rfl
mutual
theorem Gx:∀(d:Nat)(s:Sq)(x:Nd),StAt w B d s x->∀(e:Nat)(vs:List Vr),KV w B e x->dL w B pcs e x vs=0->s.hok procs
 |0,_,_,h,_,_,_,_=>h.elim
 |d+1,s,x,h,0,vs,hk,_=>hk.elim
 |d+1,s,x,h,e+1,vs,hk,hc=>by
  rw[dL]at hc;have kid:¬(x.k=50∨x.k=51)->∀(i:Nat)(y:Nd),i<x.n->Kid w B x i y->KV w B e y∧∃us,dL w B pcs e y us=0:=fun h0 i y hi hy=>by
   rw[if_neg h0]at hc;obtain⟨h1,h2⟩:=bE hk hi;have h3:=Kid.one hy h1;subst h3;exact⟨h2,_,eQ (show aY (fun i=>dL w B pcs e (bO w B x i) (bJ x i vs)) x.n=0 by omega) i hi⟩
  cases s with
  |nil=>exact h.elim
  |upd=>trivial
  |swp=>trivial
  |stk=>trivial
  |tap=>trivial
  |cal op nm args r=>
   obtain⟨h1,h2,h3,_⟩:=h;have h4:=wC (show one (cY vs pcs x)=0 by omega);unfold cY at h4;rw[if_neg (by omega),if_neg (by omega),if_neg (by omega),if_neg (by omega),if_pos (by omega)]at h4;rw[<-h3];exact TX hl hn h4
  |ifs ex a b ex' r=>
   obtain⟨h1,h2,y0,y1,y2,y3,k0,k1,k2,k3,_,b1,b2,_⟩:=h;obtain⟨q1,us1,c1⟩:=kid (by omega) 1 y1 (by omega) k1;obtain⟨q2,us2,c2⟩:=kid (by omega) 2 y2 (by omega) k2;exact⟨mM d a y1 b1 e us1 q1 c1,mM d b y2 b2 e us2 q2 c2⟩
  |frm ex a b ex' r=>
   obtain⟨h1,h2,y0,y1,y2,y3,k0,k1,k2,k3,_,b1,b2,_⟩:=h;obtain⟨q1,us1,c1⟩:=kid (by omega) 1 y1 (by omega) k1;obtain⟨q2,us2,c2⟩:=kid (by omega) 2 y2 (by omega) k2;exact⟨mM d a y1 b1 e us1 q1 c1,mM d b y2 b2 e us2 q2 c2⟩
  |loc v ex b ex' r=>
   obtain⟨h1,h2,h3,y0,y1,y2,k0,k1,k2,_,b1,_⟩:=h;obtain⟨q1,us1,c1⟩:=kid (by omega) 1 y1 (by omega) k1;exact mM d b y1 b1 e us1 q1 c1
  |lst v b r=>
   obtain⟨h1,h2,h3,y0,k0,b1⟩:=h;obtain⟨q1,us1,c1⟩:=kid (by omega) 0 y0 (by omega) k0;exact mM d b y0 b1 e us1 q1 c1
theorem mM:∀(d:Nat)(s:Sq)(x:Nd),SqAt w B d s x->∀(e:Nat)(vs:List Vr),KV w B e x->dL w B pcs e x vs=0->s.cok procs
 |d,s,x,h,0,vs,hk,_=>hk.elim
 |d,s,x,h,e+1,vs,hk,hc=>by
  have hl_:=hl;have hn_:=hn;clear hl_ hn_;obtain⟨h1,h2,h3⟩:=h;rw[dL,if_neg (by omega)]at hc;refine Sq.cok_of s fun i hi=>?_
  obtain⟨y,hy,hs⟩:=h3 i hi;obtain⟨q1,q2⟩:=bE hk (show i<x.n by omega);have q3:=Kid.one hy q1;subst q3;exact Gx d _ _ hs e _ q2 (eQ (show aY (fun i=>dL w B pcs e (bO w B x i) (bJ x i vs)) x.n=0 by omega) i (by omega))
end
end
theorem Y2{w:World}{B d:Nat}{x:Nd}(hv:KV w B (d+1) x)(h:p7 w B (d+1) x=true):∃s,SqAt w B d s x:=by
 unfold p7 at h;simp only[Bool.and_eq_true,decide_eq_true_eq]at h;obtain⟨hk,_,ha⟩:=h;exact ZY (d:=d) hk fun i hi=>by
  obtain⟨h1,h2⟩:=bE hv hi;obtain⟨s,h3⟩:=ZZ d _ h2 (cQ ha i hi);exact⟨_,s,h1,h3⟩
end Bk
namespace Go.Proofs.YtakfdnnlhjhcfaaGreatDoor
open Go.RowKit Bk
theorem yY{w:World}{B d:Nat}(bG:B<=w.heap.size)(V:Option Addr)(nv cv:Nat)(vs:List Vr)(hv:VsAt w B V vs)(hnv:vs.length=nv)(d8:nv<=17592186043904)(gY:nv<=cv)(rF:V=none->cv=0)(Q:Option Addr)(nq cq:Nat)(ps:List Pc)(hq:PrsAt w B (d+1) Q ps)(hnq:ps.length=nq)(hnq2:nq<=17592186043904)(mI:∀p∈ps,p.V=none->p.cv=0)(m:Nd)(hm:KV w B (d+1) m)
  (fZ:validB w B (d+1) vs ps m=true) (Z9:uV w B (d+1) vs ps m=0):∃p:Pg,ProgAt w B d V nv cv Q nq cq m p ps∧p.vars=vs:=by
 obtain⟨v1,v2,v3,v4,v5⟩:=lB fZ;have AA:=Z9;unfold uV at AA;rw[if_pos fZ]at AA;unfold FR at AA;have hp:∀c:Pc,∃s:Sq,c∈ps->SqAt w B d s c.body:=fun c=>by
  by_cases hc:c∈ps
  ·obtain⟨i,hi⟩:=List.getElem?_of_mem hc
   obtain⟨_,_,_,_,_,hk⟩:=hq i c hi;obtain⟨s,hs⟩:=Y2 hk (iZ (jG (v4 c hc)).2.2.2).2;exact⟨s,fun _=>hs⟩
  ·exact⟨.nil,fun h=>absurd h hc⟩
 obtain⟨f,hf⟩:∃f:Pc->Sq,∀c,c∈ps->SqAt w B d (f c) c.body:=⟨fun c=>Classical.choose (hp c),fun c=>Classical.choose_spec (hp c)⟩;obtain⟨s,hs⟩:=Y2 hm (iZ v5).2;have NP:∀(i:Nat)(c:Pc)(u:Pr),ps[i]?=some c->(ps.map fun c=>(⟨c.nm,c.vs,f c⟩:Pr))[i]?=some u->u=⟨c.nm,c.vs,f c⟩:=fun i c u h1 h2=>by
  rw[List.getElem?_map,h1]at h2;simpa using h2.symm
 have hnm:∀(i:Nat)(c:Pc)(u:Pr),ps[i]?=some c->(ps.map fun c=>(⟨c.nm,c.vs,f c⟩:Pr))[i]?=some u->c.nm=u.nm:=fun i c u h1 h2=>by rw[NP i c u h1 h2]
 refine⟨⟨vs,ps.map fun c=>⟨c.nm,c.vs,f c⟩,s⟩,⟨bG,hv,hnv,hq,hnq,by omega,by simpa using hnq,fun i c u h1 h2=>?_,hs,hm,mM (by simp) hnm d s m hs (d+1) vs hm (by omega),fun W hW=>?_,fun W hW=>?_⟩,rfl⟩
 ·have hc:=List.mem_of_getElem? h1
  obtain⟨_,_,q2,q3,q4,hk⟩:=hq i c h1;rw[NP i c u h1 h2];have h8:=(jG (v4 c hc)).2.1;have hi:i<ps.length:=(lgS.1 h1).1;have hz:=eQ (show aY (oK w B (d+1) ps) ps.length=0 by omega) i hi;unfold oK at hz;rw[h1]at hz;simp only at hz;exact⟨rfl,rfl,hf c hc,by omega,mM (by simp) hnm d (f c) c.body (hf c hc) (d+1) c.vs hk (by omega)⟩
 ·exact(kL bG V nv cv vs hv hnv d8 Q nq cq ps hq hnq hnq2 m hm W hW).mono fun en w'' h=>⟨by rw[h.1,fZ],h.2⟩
 ·refine(p9 bG V nv cv vs hv hnv d8 gY rF Q nq cq ps hq hnq hnq2 mI m hm W hW).mono ?_
  rintro en w'' ⟨⟨A,c,h1⟩,h2⟩;rw[Z9]at h1;exact⟨A,c,h1,h2⟩
end Go.Proofs.YtakfdnnlhjhcfaaGreatDoor
set_option maxHeartbeats 4000000
namespace Bk
open Go Go.RowKit
def Sm(w:World)(B:Nat):Nat->Nd->Prop
 |0,_=>True
 |d+1,x=>x.n<=10000∧∀i y,i<x.n->Kid w B x i y->Sm w B d y
def ClD(w:World)(B:Nat)(w1:World)(D:Nat->Prop):Nat->Nd->Nd->Prop
 |0,_,_=>False
 |d+1,x,y=>(y.k=x.k∧y.num=x.num∧y.nm=x.nm∧y.n=x.n∧y.n<=y.cap∧y.cap<=maxLen∧(y.A=none->y.cap=0))∧∀i,i<x.n->∃a b g o,Kid w B x i a∧y.A=some ⟨g,o,none⟩∧D g∧w1.rangeAt g (o+i*4) b.cells∧ClD w B w1 D d a b
theorem ClD.keep{w w1 w2:World}{B:Nat}{D D':Nat->Prop}(hk:∀b o,D b->w2.cell? ⟨b,o,none⟩=w1.cell? ⟨b,o,none⟩)(hD:∀k,D k->D' k):∀{d:Nat}{x y:Nd},ClD w B w1 D d x y->ClD w B w2 D' d x y
 |0,_,_,h=>h
 |d+1,x,y,⟨h1,h2⟩=>⟨h1,fun i hi=>let ⟨a,b,g,o,k1,k2,k3,k4,k5⟩:=h2 i hi;⟨a,b,g,o,k1,k2,hD g k3,fun j v hv=>(hk g _ k3).trans (k4 j v hv),ClD.keep hk hD k5⟩⟩
theorem ClD.kv{w w1:World}{B B1:Nat}{D:Nat->Prop}(hD:∀k,D k->k<B1):∀{d:Nat}{x y:Nd},KV w B d x->Sm w B d x->ClD w B w1 D d x y->KV w1 B1 d y∧Sm w1 B1 d y
 |0,_,_,h,_,_=>h.elim
 |d+1,x,y,⟨v1,v2,v3,v4,v5,v6⟩,⟨s1,s2⟩,⟨⟨e1,e2,e3,e4,e5,e6,e7⟩,h2⟩=>by
  have key:∀i,i<x.n->∃b,Kid w1 B1 y i b∧KV w1 B1 d b∧Sm w1 B1 d b:=fun i hi=>by
   obtain⟨a,b,g,o,k1,k2,k3,k4,k5⟩:=h2 i hi;obtain⟨a',q1,q2⟩:=v6 i hi;obtain rfl:=Kid.one k1 q1;obtain⟨r1,r2⟩:=ClD.kv hD q2 (s2 i _ hi k1) k5;exact⟨b,⟨g,o,k2,hD g k3,k4⟩,r1,r2⟩
  refine⟨⟨by rw[e1];exact v1,by rw[e2];exact v2,e5,e6,e7,fun i hi=>?_⟩,by rw[e4];exact s1,fun i b hi hb=>?_⟩
  ·obtain⟨b,r1,r2,_⟩:=key i (by omega);exact⟨b,r1,r2⟩
  ·obtain⟨b',r1,_,r3⟩:=key i (by omega)
   obtain rfl:=Kid.one r1 hb;exact r3
theorem tT{w:World}{g:Nat}{t:TypeId}{u0 u1 u2 u3:Value}(h:Blk w g t #[u0,u1,u2,u3]):Sl w (fun _=>True) 4 (.slice (some ⟨g,0,none⟩) 1 1) 1 [u0,u1,u2,u3]:=
 ⟨_,1,rfl,aH _,(fun e=>by cases e),rfl,fun _=>⟨g,0,rfl,trivial,fun j v hv=>by rw[Nat.zero_add];exact(h.cell j).trans (by rw[List.getElem?_toArray];exact hv)⟩⟩
theorem YV:∀(ys:List Nd)(i:Nat)(b:Nd),ys[i]?=some b->∀t v,b.cells[t]?=some v->(ys.flatMap Nd.cells)[i*4+t]?=some v
 | [],i,b,h,t,v,hv=>by cases h
 |y::ys,0,b,h,t,v,hv=>by
  simp at h;subst h;rw[List.flatMap_cons,Nat.zero_mul,Nat.zero_add,List.getElem?_append_left (lgS.1 hv).1];exact hv
 |y::ys,i+1,b,h,t,v,hv=>by
  rw[List.flatMap_cons,List.getElem?_append_right (by show 4<=_;omega)];have:=YV ys i b (by simpa using h) t v hv;rw[<-this];congr 1;show(i+1)*4+t-4=_;omega
theorem nL{w w':World}{b o:Nat}(h:w'.heap[b]?=w.heap[b]?):w'.cell? ⟨b,o,none⟩=w.cell? ⟨b,o,none⟩:=by unfold World.cell?;simp only[h]
end Bk
namespace Go.Proofs.YtakfdnnlhjhcfaaGreatDoor
open Go.RowKit Bk
theorem vX:(Tryz.prog.info? 26).map (fun i=>(i.zero,i.size,i.bytes))=some (some (.agg #[.int .u8 0,.int .i64 0,.string ⟨#[]⟩,.slice none 0 0]),4,56):=by kernel_rfl
theorem zW{w:World}{B:Nat}(bG:B<=w.heap.size):∀(d:Nat)(x:Nd),KV w B d x->Sm w B d x->∀w',Below B w w'->Calls Tryz.prog 138 #[.agg #[.int .u8 x.k,.int .i64 x.num,.string x.nm,.slice x.A x.n x.cap]] w' fun en w''=>(∃y:Nd,en=.returned (.agg #[.int .u8 y.k,.int .i64 y.num,.string y.nm,.slice y.A y.n y.cap])∧ClD w B w'' (fun k=>w'.heap.size<=k∧k<w''.heap.size) d x y)∧Below w'.heap.size w' w''
 |0,_,h,_=>h.elim
 |d+1,x,hx,hs=>fun w' hb=>by
  have IH:=zW bG d;obtain⟨_,_,f9,mD,_,dE⟩:=hx;obtain⟨hn2,yR⟩:=hs;obtain⟨k,num,nm,A,n,cap⟩:=x;have HK:=aA dE;have HB:=aA hb;have JK:=aA IH;have HS:=aA yR;obtain⟨i4,li,lz,ls,lb⟩:=info_parts vX;have HI:=aA li;have HZ:=aA lz;have lI:=aA ls;have jY:=aA lb;clear dE hb IH f9 mD yR li lz ls lb;dsimp only at *;go_enter Tryz.func138,Tryz.ntmps138;go_upto_region 2 with fail;refine aB ?_;intro w1 aF;have lO:Below w'.heap.size w' w1:=by rw[aF];go_grown
  have K1:Blk w1 w'.heap.size 26 #[.int .u8 k,.int .i64 num,.string nm,.slice A n cap]:=by rw[aF];exact aQ
  have K0:Blk w1 (w'.heap.size+1) 26 #[.int .u8 0,.int .i64 0,.string ⟨#[]⟩,.slice none 0 0]:=by rw[aF];exact aQ
  have aO:=aA lO;have a9:=aA K1;have Bu:=aA K0;have hs1:=K0.lt;clear aF lO K0;obtain⟨aL,aJ,aK⟩:=K1.open_;clear K1;go_wp2_with fail;clear aJ aL aK
  go_loopw [3,9] (fun v3 v9 wr=>∃(j:Nat)(ys:List Nd),j<=n∧v9=.int .i64 j∧ys.length=j∧wr.ownsRow w1.heap.size 26 4 v3 j (ys.flatMap Nd.cells)∧(∀i b,ys[i]?=some b->∃a,Kid w B ⟨k,num,nm,A,n,cap⟩ i a∧ClD w B wr (fun q=>w1.heap.size<=q∧q<wr.heap.size∧v3.ownBlock≠some q) d a b)∧Below w1.heap.size w1 wr) (fun _ v _=>n-(intOf v).toNat)
  case atStart=>exact⟨0,[],fI _,rfl,rfl,⟨rfl,.inl ⟨rfl,rfl⟩⟩,(fun i b h=>by cases h),aM _ _⟩
  case round=>
   obtain⟨j,ys,hj,rfl,hyl,bB,hys,cF⟩:=hrel;obtain⟨A3,cq,rfl⟩:=aI bB;have HO:=aA bB;have HYS:=aA hys;have cG:=aA cF;have wT:=cF.size;clear bB hys cF;by_cases e9:j<n
   ·obtain⟨y,cS,iW⟩:=HK.out j e9
    have gE:=aA cS;obtain⟨g,o,eY,cR,c0,c1,c2,c3⟩:=cS.cells (HB.out.trans ((aO.out.next cG.out).mono (by have:=HB.out.size;omega)));simp only at eY;subst eY;have IT:=aA iW;have j0:(0:Int)<=(j:Int):=by omega
    have j1:(j:Int)<(n:Int):=by omega
    clear cS iW;go_upto_region 5 with fail;refine aB ?_;intro w2 eD;have hb2:Below wr.heap.size wr w2:=by rw[eD];go_grown
    have K2:Blk w2 wr.heap.size 26 #[.int .u8 y.k,.int .i64 y.num,.string y.nm,.slice y.A y.n y.cap]:=by rw[eD];exact aQ
    have aP:=aA hb2;clear eD c0 c1 c2 c3 hb2;obtain⟨eL,eC,eF⟩:=K2.open_;clear K2;go_wp2_with fail;refine(JK.out y IT.out (HS.out j y e9 gE.out) _ (HB.out.trans ((aO.out.next (cG.out.next aP.out)).mono (by have:=HB.out.size;omega)))).mono ?_;rintro en w3 ⟨⟨b,rfl,hcl⟩,aT⟩;have iK:=aA hcl;have bD:=aA aT;have OL:=aP.out.size;have WC:=aT.size;clear eC eL eF hcl aT;have JR:=aA (aZ HO.out (aP.out.next bD.out) (aH _));go_wp2_with (at_builtin;refine dF rfl (.tmp 13) (.tmp 16) 24 rfl w1.heap.size 26 i4 _ 4 56 Tryz.underlying24 HI.out HZ.out lI.out jY.out rfl (by decide) (.slice A3 j cq) j (ys.flatMap Nd.cells) rfl (JR.out.alloc _) rfl (tT (Blk.new _ _ _)) (by intro u hu;simp at hu;rcases hu with rfl|rfl|rfl|rfl<;>rfl) (by unfold maxLen;omega) (by omega) (by simp;omega) ?_);intro v2 w4 bB eH nS;have mS:=fun k hk=>bH HO.out (k:=k) hk
    have bM:∀q o,q<w3.heap.size->(Value.slice A3 j cq).ownBlock≠some q->w4.cell? ⟨q,o,none⟩=w3.cell? ⟨q,o,none⟩:=fun q o h1 h2=>nL ((eH.block q (by simp;omega) (fun e=>h2 e.symm)).trans (Below.heap_alloc _ _ _ h1))
    have bV:Below w1.heap.size w1 w4:=((cG.out.next (aP.out.next bD.out)).alloc (by omega) _).grown eH (by simp;omega) (by intro k hk;exact(mS k hk).1);have hz4:w3.heap.size<w4.heap.size:=by have:=eH.size;simp at this;omega
    have Gw:∀q,q<w3.heap.size->(Value.slice A3 j cq).ownBlock≠some q->v2.ownBlock≠some q:=fun q h1 h2 e=>by
     rcases nS with h|h
     ·rw[h]at e;exact h2 e
     ·rw[h]at e;injection e with e;omega
    have Sg:∀i b',(ys++ [b])[i]?=some b'->∃a,Kid w B ⟨k,num,nm,some ⟨g,o,none⟩,n,cap⟩ i a∧ClD w B w4 (fun q=>w1.heap.size<=q∧q<w4.heap.size∧v2.ownBlock≠some q) d a b':=fun i b' hi=>by
     rcases Nat.lt_or_ge i j with yM|yM
     ·rw[List.getElem?_append_left (by omega)]at hi
      obtain⟨a,k1,k2⟩:=HYS.out i b' hi;exact⟨a,k1,k2.keep (fun q o hq=>(bM q o (by omega) hq.2.2).trans ((aP.out.next bD.out).cell (p:=⟨q,o,none⟩) hq.2.1)) fun q hq=>⟨hq.1,by omega,Gw q (by omega) hq.2.2⟩⟩
     ·have hie:i=j:=by have:=(lgS.1 hi).1;simp at this;omega
      subst hie;rw[List.getElem?_append_right (by omega),hyl,Nat.sub_self]at hi;injection hi with hi;subst hi;have hq3:∀q,w2.heap.size<=q->(Value.slice A3 i cq).ownBlock≠some q:=fun q hq e=>by have:=(mS q e).2;omega
      exact⟨y,gE.out,iK.out.keep (fun q o hq=>bM q o hq.2 (hq3 q hq.1)) fun q hq=>⟨by omega,by omega,Gw q hq.2 (hq3 q hq.1)⟩⟩
    have lY:Hid (w4.ownsRow w1.heap.size 26 4 v2 (j+1) ((ys++ [b]).flatMap Nd.cells)):=aA (by rw[List.flatMap_append];exact bB);have HY4:=aA Sg;have dQ:=aA bV;clear bB eH nS mS bM bV Gw Sg;go_wp2_with fail;refine⟨⟨j+1,ys++ [b],by omega,by go_num,by simp[hyl],lY.out,HY4.out,dQ.out⟩,by simp[intOf];omega⟩
   ·obtain rfl:j=n:=by omega
    have Ww:=aA (a9.out.next cG.out);have Lp:=aA (Bu.out.next cG.out);obtain⟨aL,aJ,aK⟩:=Ww.out.open_;obtain⟨Af,SY,RF⟩:=Lp.out.open_;go_wp2_with fail;generalize fG:World.setCell _ _ _=wf at *;have kf:Blk wf (w'.heap.size+1) 26 #[.int .u8 k,.int .i64 num,.string nm,.slice A3 j cq]:=by
     rw[<-fG];simpa using(((((Lp.out.far (p:=⟨w'.heap.size,3,none⟩) (by simp) (.slice A3 j cq)).set_ 0 (.int .u8 k)).set_ 1 (.int .i64 num)).set_ 2 (.string nm)).set_ 3 (.slice A3 j cq))
    have ff:Fr (fun q=>q=w'.heap.size∨q=w'.heap.size+1) wr wf:=by
     rw[<-fG];repeat (first|exact Fr.refl _ _|(refine Fr.set ?_ ?_ _;rotate_left;first|exact .inl rfl|exact .inr rfl))
    clear fG aJ aK SY RF;refine bodyPost_ret_by (eP rfl _ _ (w'.heap.size+1) _ _ _ rfl kf Tryz.underlying26 rfl (by rw[yT];rfl)) rfl ?_;have bM:∀q o,w1.heap.size<=q->q<wr.heap.size->wf.cell? ⟨q,o,none⟩=wr.cell? ⟨q,o,none⟩:=fun q o h1 h2=>ff.cell h2 (by rintro(h|h)<;>omega) o
    have Sj:=ff.size;refine⟨⟨⟨k,num,nm,A3,j,cq⟩,rfl,⟨rfl,rfl,rfl,rfl,?_⟩,fun i hi=>?_⟩,?_⟩
    ·rcases HO.out.2 with⟨e,e2⟩|⟨g,cap',cur,e,hg,hh,c1,c2,_⟩
     ·injection e with e3 e4 e5;subst e3 e5;exact⟨by show j<=0;omega,fI _,fun _=>rfl⟩
     ·injection e with e3 e4 e5;subst e3 e5;exact⟨c1,c2,fun h=>by cases h⟩
    ·replace hi:i<j:=hi
     have hyi:ys[i]?=some (ys[i]'(by omega)):=dR (by omega);obtain⟨a,k1,k2⟩:=HYS.out i _ hyi;obtain⟨A',c',e,_,_,hR⟩:=Sl.of_own HO.out;injection e with e3 _ _;subst e3;obtain⟨g,o,hA,hg,hc⟩:=hR.2 (by omega);have hg1:=hg.1;have QW:=hg.2;refine⟨a,_,g,o,k1,hA,⟨by omega,by omega⟩,fun t v hv=>?_,k2.keep (fun q o hq=>bM q o hq.1 hq.2.1) fun q hq=>⟨by have:=hq.1;omega,by have:=hq.2.1;omega⟩⟩;rw[bM g _ hg.1 hg.2,Nat.add_assoc];exact hc _ _ (YV ys i _ hyi t v hv)
    ·exact(aO.out.next cG.out).trans (ff.below (by omega) fun q hq=>by rcases hq with h|h<;>omega)
end Go.Proofs.YtakfdnnlhjhcfaaGreatDoor
namespace Bk
open Go Go.RowKit
variable{P:Program}{n:Nat}
theorem WQ{o:Oper}{a:Act}{w:World}{K:Act->World->Prop}{Q:Exit->Act->World->Prop}(h:o.wp P a w K Q):o.wpIn Fence.wide n P a w K Q:=by
 refine⟨fun _ _=>trivial,?_⟩;unfold Oper.wp at h;rw[Fence.wide_round,Oper.semAt_none];generalize (execOp a.eval o).run P w=r at *;have hd:∀k:Nat,(Fence.wide.depth.isSome=true->1<=k):=fun k h=>by cases h
 cases r with
 |ok x w'=>
  cases x with
  |enter f args=>exact⟨hd _,callsIn_wide.2 h⟩
  |row row args=>exact⟨hd _,fun c cs _=>let ⟨v,w',r,s⟩:=h c cs;⟨v,w',r,stepsIn_wide.2 s⟩⟩
  |round l f tmps assign body=>exact False.elim h
  |_=>exact h
 |halt x w'=>cases x<;>exact h
def Q5(P:Program)(n:Nat)(ops:Array Oper)(Q:Exit->Act->World->Prop):Exit->Act->World->Prop
 |.normal,a,w=>∀m,wpAnyIn Fence.wide n P .any ops Q (m+2) #[true,true,true,true,true,false,false] a w
 |_,_,_=>False
theorem ID{ops5 ops7:Array Oper}{Q:Exit->Act->World->Prop}{K:Act->World->Prop}{i:Nat}{a:Act}{w:World}(ho:ops7[i]?=ops5[i]?)(hg:∀o,ops5[i]?=some o->o.guard=none)(h:wpOp P ops5 (Q5 P n ops7 Q) i K a w):wpOpIn Fence.wide n P ops7 Q i K a w:=by
 unfold wpOp at h;unfold wpOpIn;rw[ho];cases h5:ops5[i]? with
 |none=>rw[h5]at h;exact h
 |some o=>
  rw[h5]at h;have hw:∀ys,Region.wanted o ys=true:=fun ys=>by unfold Region.wanted;rw[hg o h5]
  simp only[hw,if_true]at h⊢;rcases h with h|⟨_,h⟩
  ·have h2:=WQ (n:=n) h
   unfold Oper.wpIn at h2⊢;refine⟨h2.1,?_⟩;have h3:=h2.2;generalize (o.semAt Fence.wide.round a.eval).run P w=r at *;cases r with
   |ok x w'=>
    cases x with
    |enter f args=>exact⟨h3.1,h3.2.mono fun e w'' he=>by cases e with|outgrown=>(obtain⟨_,_,h⟩:=he;exact False.elim h)|returned v=>exact he|panicked c=>exact False.elim he⟩
    |round l f tmps assign body=>exact⟨h3.1,h3.2.mono fun e w'' he=>by cases e with|outgrown=>(obtain⟨_,_,h⟩:=he;exact False.elim h)|returned v=>exact he|panicked c=>exact False.elim he⟩
    |_=>exact h3
   |halt x w'=>cases x<;>first|exact h3|exact h3.elim
  ·obtain⟨_,_,h⟩:=h;exact False.elim h
theorem FC{ops5 ops7:Array Oper}{Q:Exit->Act->World->Prop}(ok:Bool->Bool->Bool->Bool->Bool->Bool)(aAD:∀i:Nat,i<5->ops7[i]?=ops5[i]?)(hg:∀(i:Nat)(o:Oper),ops5[i]?=some o->o.guard=none)
  (hR:∀b0 b1 b2 b3 b4,ok b0 b1 b2 b3 b4=true->(b0&&b1&&b2&&b3&&b4)=true∨Region.ready .any ops5 #[b0,b1,b2,b3,b4]≠ []∧Region.ready .any ops7 #[b0,b1,b2,b3,b4,false,false]=Region.ready .any ops5 #[b0,b1,b2,b3,b4])
  (hE:Region.ready .any ops5 #[true,true,true,true,true]= [])
  (hL:∀b0 b1 b2 b3 b4,ok b0 b1 b2 b3 b4=true->(Region.ready .any ops5 #[b0,b1,b2,b3,b4]).all (fun i=>match i with|0=>ok true b1 b2 b3 b4|1=>ok b0 true b2 b3 b4|2=>ok b0 b1 true b3 b4|3=>ok b0 b1 b2 true b4|4=>ok b0 b1 b2 b3 true|_=>false)=true):
  ∀(fuel:Nat)(b0 b1 b2 b3 b4:Bool)(a:Act)(w:World),ok b0 b1 b2 b3 b4=true->wpAny P .any ops5 (Q5 P n ops7 Q) fuel #[b0,b1,b2,b3,b4] a w->wpAnyIn Fence.wide n P .any ops7 Q (fuel+2) #[b0,b1,b2,b3,b4,false,false] a w:=by
 intro fuel
 induction fuel with
 |zero=>
  intro b0 b1 b2 b3 b4 a w hok h;rcases hR _ _ _ _ _ hok with h3|⟨h3,_⟩
  ·simp only[Bool.and_eq_true]at h3
   obtain⟨⟨⟨⟨rfl,rfl⟩,rfl⟩,rfl⟩,rfl⟩:=h3;exact h.2 0
  ·exact absurd h.1 h3
 |succ fuel ih=>
  intro b0 b1 b2 b3 b4 a w hok h;rcases hR _ _ _ _ _ hok with h3|⟨h0,hr⟩
  ·simp only[Bool.and_eq_true]at h3
   obtain⟨⟨⟨⟨rfl,rfl⟩,rfl⟩,rfl⟩,rfl⟩:=h3;exact h.1 hE (fuel+1)
  ·refine⟨fun h1=>absurd (hr.symm.trans h1) h0,fun i hi=>?_⟩
   rw[hr]at hi;have Jf:=List.all_eq_true.1 (hL b0 b1 b2 b3 b4 hok) i hi;have eI:i<5:=by
    match i,Jf with
    |0,_|1,_|2,_|3,_|4,_=>omega
    |i+5,h=>cases h
   have h2:=ID (n:=n) (aAD i eI) (hg i) (h.2 i hi);refine wpOpIn_mono (fun a w h3=>?_) h2
   match i,Jf with
   |0,h=>exact ih true b1 b2 b3 b4 a w h h3
   |1,h=>exact ih b0 true b2 b3 b4 a w h h3
   |2,h=>exact ih b0 b1 true b3 b4 a w h h3
   |3,h=>exact ih b0 b1 b2 true b4 a w h h3
   |4,h=>exact ih b0 b1 b2 b3 true a w h h3
   |i+5,h=>cases h
theorem Sp{ops7:Array Oper}{Q:Exit->Act->World->Prop}{a:Act}{w:World}{o5 o6:Oper}(h5:ops7[5]?=some o5)(h6:ops7[6]?=some o6)(g5:o5.guard=none)(g6:o6.guard=none)
  (r5:Region.ready .any ops7 #[true,true,true,true,true,false,false]= [5]) (r6:Region.ready .any ops7 #[true,true,true,true,true,true,false]= [6]) (r7:Region.ready .any ops7 #[true,true,true,true,true,true,true]= [])
  (h:o5.wpIn Fence.wide n P a w (fun a w=>o6.wpIn Fence.wide n P a w (Q .normal) Q) Q):Q5 P n ops7 Q .normal a w:=fun m=>by
 have hw:∀(o:Oper) ys,o.guard=none->Region.wanted o ys=true:=fun o ys hg=>by unfold Region.wanted;rw[hg]
 refine⟨fun h0=>(by rw[r5]at h0;cases h0),fun i hi=>?_⟩;rw[r5]at hi;obtain rfl:i=5:=by simpa using hi
 unfold wpOpIn;simp only[h5,hw o5 _ g5,if_true];refine Oper.wpIn_mono (fun a w h=>?_) h;refine⟨fun h0=>absurd (r6.symm.trans h0) (by simp),fun i hi=>?_⟩;replace hi:i∈Region.ready .any ops7 #[true,true,true,true,true,true,false]:=hi;rw[r6]at hi;obtain rfl:i=6:=by simpa using hi
 unfold wpOpIn;simp only[h6,hw o6 _ g6,if_true];refine Oper.wpIn_mono (fun a w h=>?_) h;cases m with
 |zero=>exact⟨r7,h⟩
 |succ m=>exact⟨fun _=>h,fun i hi=>by
  replace hi:i∈Region.ready .any ops7 #[true,true,true,true,true,true,true]:=hi;rw[r7]at hi;cases hi⟩
end Bk
