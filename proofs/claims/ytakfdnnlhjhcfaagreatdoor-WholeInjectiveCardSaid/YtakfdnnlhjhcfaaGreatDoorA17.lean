/- Part of the proof. -/
import Derived.Test.YtakfdnnlhjhcfaaGreatDoorA16
set_option linter.unusedVariables false
set_option linter.unusedSimpArgs false
set_option maxRecDepth 100000
set_option maxHeartbeats 4000000
namespace Go.Proofs.YtakfdnnlhjhcfaaGreatDoor
open Go.RowKit Bk
section
variable{w w':World}{B:Nat}{S:Sv}{σ:PSt}{kd:Nat->Int}{m:Nat}
theorem TG(h:SOn w B S σ)(ho:σ.Ok kd m)(hm:m<=5000):
  Calls Tryz.prog 133 #[.pointer (some ⟨S.st,0,none⟩)] w fun e w'=>RetS B S w (dY σ) e w':=by
 have H:=aA h;have eI:=h.lt_st;unfold dY;by_cases hn:σ.calls= []
 ·rw[if_pos (.inl hn)]
  obtain⟨A,cp,e⟩:=aI h.calls;obtain⟨z_,T_,F_⟩:=h.top.open_;rw[e,hn]at T_;clear h ho H;obtain⟨st,tb,bv,bc,cv,vi,vo,fv,cb,iv,ro⟩:=S;dsimp only at *;clear e;go_enter Tryz.func133,Tryz.ntmps133;go_wp2_with fail;go_ret;exact⟨rfl,by decide,Fr.of (by go_grown)⟩
 ·obtain⟨g,cp,x,f,e,_,_,h0⟩:=h.calls_some hn
  have HC:Hid (Calls Tryz.prog 130 #[.pointer (some ⟨S.st,0,none⟩)] w fun e w'=>e=.returned (.pointer (some ⟨S.fb σ,σ.fo,none⟩))∧w=w'):=aA ((gQ h ho.nc).mono fun e w' h=>⟨h.1,h.2.symm⟩);have q3:=h.cur.2.1.2.2;have hnc:=ho.nc;have HT:=aA h.top;have HE:=aA e;obtain⟨z_,T_,F_⟩:=h.top.open_;rw[e]at T_;have h1:(((σ.calls.length:Nat):Int)==0)=false:=bqN.2 (by omega);have aF:IntKind.i64.wrap (((σ.calls.length:Nat):Int)-1)=((σ.calls.length-1:Nat):Int):=(wrap_small _ (by omega) (by omega)).trans (by omega);by_cases hl:0<σ.cur.locals
  ·rw[if_pos (.inr hl)]
   have h2:(decide ((0:Int)<(σ.cur.locals:Int)))=true:=decide_eq_true (by omega);generalize S.fb σ=fb at *;generalize σ.fo=fo at *;generalize σ.cur.locals=lc at *;generalize σ.calls.length=nc at *;clear h ho H HT;obtain⟨st,tb,bv,bc,cv,vi,vo,fv,cb,iv,ro⟩:=S;dsimp only at *;clear e;go_enter Tryz.func133,Tryz.ntmps133;go_wp2_with fail;refine HC.out.mono ?_;rintro en w2 ⟨rfl,rfl⟩;go_wp2_with fail;go_ret;exact⟨rfl,by decide,Fr.of (by go_grown)⟩
  ·rw[if_neg (fun h=>h.elim hn hl)]
   have h2:(decide ((0:Int)<(σ.cur.locals:Int)))=false:=decide_eq_false (by omega);have HJ:Hid (∀w':World,Fr (fun k=>k=S.st) w w'->Blk w' S.st 123 #[S.bv,S.bc,.int .i64 σ.base.locals,.slice (some ⟨g,0,none⟩) (σ.calls.length-1) cp,.pointer (some ⟨S.tb,0,none⟩)]->RetS B S w (.ok {σ with calls:=σ.calls.dropLast}) (.returned (.int .i64 0)) w'):=
    aA fun w' hf hb=>⟨rfl,H.out.pop hn hf e hb,hf.mono fun k hk=>by rw[hk];show S.ro S.st≠_;rw[H.out.rst];simp⟩
   have Iq:Hid (Blk w S.st 123 #[S.bv,S.bc,.int .i64 σ.base.locals,.slice (some ⟨g,0,none⟩) σ.calls.length cp,.pointer (some ⟨S.tb,0,none⟩)]):=aA (by have:=HT.out;rw[e]at this;exact this);have VS:σ.calls.length-1<=cp:=by
    have d9:=h.calls;rw[e]at d9;obtain⟨_,cp2,e2,_,_,k1,_,_⟩:=d6 d9 h0;injection e2 with _ _ e2;omega
   generalize S.fb σ=fb at *;generalize σ.fo=fo at *;generalize σ.cur.locals=lc at *;generalize σ.calls.length-1=n1 at *;generalize hnn:σ.calls.length=nc at *;clear hnn;clear h ho H HT;obtain⟨st,tb,bv,bc,cv,vi,vo,fv,cb,iv,ro⟩:=S;dsimp only at *;clear e;go_enter Tryz.func133,Tryz.ntmps133;go_wp2_with fail;refine HC.out.mono ?_;rintro en w2 ⟨rfl,rfl⟩;go_wp2_with fail;go_region;go_wp2_with fail;go_ret;refine HJ.out _ ((((Fr.refl (fun k=>k=st) w).set (p:=⟨st,3,none⟩) rfl _)).drew) ((Iq.out.set_ 3 _).drew)
end
section
variable{w:World}
theorem OZ{st fb fo nn cp:Nat}{A:Option Addr}{s:ByteArray}{v z:Int}(hc:Calls Tryz.prog 130 #[.pointer (some ⟨st,0,none⟩)] w fun e w'=>e=.returned (.pointer (some ⟨fb,fo,none⟩))∧w=w')
  (q0:w.cell? ⟨fb,fo,none⟩=some (.slice A nn cp)) (q2:w.cell? ⟨fb,fo+2,none⟩=some (.int .i64 0)) (hw:IntKind.i64.wrap ((nn:Int)-1)=z):
  Calls Tryz.prog 106 #[.pointer (some ⟨st,0,none⟩),.string s,.int .i64 v] w fun e w'=>e=.returned (.int .i64 6)∧w=w':=by
 have HC:=aA hc;clear hc;go_enter Tryz.func106,Tryz.ntmps106;go_wp2_with fail;refine HC.out.mono ?_;rintro en w2 ⟨rfl,rfl⟩;go_wp2_with fail;go_ret;exact⟨rfl,rfl⟩
theorem PC{st fb fo nn n cp gv lc:Nat}{s nm:ByteArray}{v:Int}(hc:Calls Tryz.prog 130 #[.pointer (some ⟨st,0,none⟩)] w fun e w'=>e=.returned (.pointer (some ⟨fb,fo,none⟩))∧w=w')
  (q0:w.cell? ⟨fb,fo,none⟩=some (.slice (some ⟨gv,0,none⟩) nn cp)) (q2:w.cell? ⟨fb,fo+2,none⟩=some (.int .i64 lc)) (hw:IntKind.i64.wrap ((nn:Int)-1)=(n:Int)) (hn:n<nn) (hl:0<lc)
  (v0:w.cell? ⟨gv,n*3,none⟩=some (.string nm)) (hq:(nm.toList==s.toList)=false):
  Calls Tryz.prog 106 #[.pointer (some ⟨st,0,none⟩),.string s,.int .i64 v] w fun e w'=>e=.returned (.int .i64 6)∧w=w':=by
 have HC:=aA hc;have h1:((lc:Int)==0)=false:=bqN.2 (by omega);have j0:(0:Int)<=(n:Int):=by omega
 have j1:(n:Int)<(nn:Int):=by omega
 clear hc hl;go_enter Tryz.func106,Tryz.ntmps106;go_wp2_with fail;refine HC.out.mono ?_;rintro en w2 ⟨rfl,rfl⟩;go_wp2_with fail;go_ret;exact⟨rfl,rfl⟩
theorem PB{st fb fo nn n cp gv gr cr lc cb len ci:Nat}{A:Option Addr}{s nm:ByteArray}{v k:Int}(hc:Calls Tryz.prog 130 #[.pointer (some ⟨st,0,none⟩)] w fun e w'=>e=.returned (.pointer (some ⟨fb,fo,none⟩))∧w=w')
  (q0:w.cell? ⟨fb,fo,none⟩=some (.slice (some ⟨gv,0,none⟩) nn cp)) (q1:w.cell? ⟨fb,fo+1,none⟩=some (.slice (some ⟨gr,0,none⟩) nn cr)) (q2:w.cell? ⟨fb,fo+2,none⟩=some (.int .i64 lc)) (hw:IntKind.i64.wrap ((nn:Int)-1)=(n:Int)) (hn:n<nn) (hl:0<lc)
  (v0:w.cell? ⟨gv,n*3,none⟩=some (.string nm)) (hq:(nm.toList==s.toList)=true) (v1:w.cell? ⟨gv,n*3+1,none⟩=some (.int .u8 k)) (p0:w.cell? ⟨gr,n,none⟩=some (.pointer (some ⟨cb,0,none⟩))) (c0:w.cell? ⟨cb,0,none⟩=some (.slice A len ci))
  (hs:(∃gi x,k=1∧A=some ⟨gi,0,none⟩∧0<len∧w.cell? ⟨gi,0,none⟩=some (.int .i64 x)∧x≠v)∨k=3∧0<len):
  Calls Tryz.prog 106 #[.pointer (some ⟨st,0,none⟩),.string s,.int .i64 v] w fun e w'=>e=.returned (.int .i64 16)∧w=w':=by
 have HC:=aA hc;have h1:((lc:Int)==0)=false:=bqN.2 (by omega);have j0:(0:Int)<=(n:Int):=by omega
 have j1:(n:Int)<(nn:Int):=by omega
 clear hc hl;rcases hs with⟨gi,x,rfl,rfl,hlen,hx,dG⟩|⟨rfl,hlen⟩
 ·have h2:(x !=v)=true:=bne_iff_ne.2 dG
  clear dG;go_enter Tryz.func106,Tryz.ntmps106;go_wp2_with fail;refine HC.out.mono ?_;rintro en w2 ⟨rfl,rfl⟩;go_wp2_with fail;go_ret;exact⟨rfl,rfl⟩
 ·have h2:(decide ((0:Int)<(len:Int)))=true:=decide_eq_true (by omega)
  go_enter Tryz.func106,Tryz.ntmps106;go_wp2_with fail;refine HC.out.mono ?_;rintro en w2 ⟨rfl,rfl⟩;go_wp2_with fail;go_ret;exact⟨rfl,rfl⟩
theorem PD{st fb fo nn n cp gv gr cr lc cb len ci:Nat}{A:Option Addr}{s nm:ByteArray}{v k:Int}(hc:Calls Tryz.prog 130 #[.pointer (some ⟨st,0,none⟩)] w fun e w'=>e=.returned (.pointer (some ⟨fb,fo,none⟩))∧w=w')
  (q0:w.cell? ⟨fb,fo,none⟩=some (.slice (some ⟨gv,0,none⟩) nn cp)) (q1:w.cell? ⟨fb,fo+1,none⟩=some (.slice (some ⟨gr,0,none⟩) nn cr)) (q2:w.cell? ⟨fb,fo+2,none⟩=some (.int .i64 lc)) (hw:IntKind.i64.wrap ((nn:Int)-1)=(n:Int)) (hn:n<nn) (hl:0<lc) (hl2:lc<=10000)
  (v0:w.cell? ⟨gv,n*3,none⟩=some (.string nm)) (hq:(nm.toList==s.toList)=true) (v1:w.cell? ⟨gv,n*3+1,none⟩=some (.int .u8 k)) (p0:w.cell? ⟨gr,n,none⟩=some (.pointer (some ⟨cb,0,none⟩))) (c0:w.cell? ⟨cb,0,none⟩=some (.slice A len ci))
  (hf:∀o,w.frozen? ⟨fb,o,none⟩=false) (eI:fb<w.heap.size) (VS:n<=cp) (hcr:n<=cr)
  (hs:(∃gi,k=1∧A=some ⟨gi,0,none⟩∧0<len∧w.cell? ⟨gi,0,none⟩=some (.int .i64 v))∨k=3∧len=0∨k≠1∧k≠3):
  Calls Tryz.prog 106 #[.pointer (some ⟨st,0,none⟩),.string s,.int .i64 v] w fun e w'=>e=.returned (.int .i64 0)∧Fr (fun k=>k=fb) w w'∧∀t cs,Blk w fb t cs->Blk w' fb t (((cs.setIfInBounds fo (.slice (some ⟨gv,0,none⟩) n cp)).setIfInBounds (fo+1) (.slice (some ⟨gr,0,none⟩) n cr)).setIfInBounds (fo+2) (.int .i64 (lc-1:Nat))):=by
 have HC:=aA hc;have h1:((lc:Int)==0)=false:=bqN.2 (by omega);have j0:(0:Int)<=(n:Int):=by omega
 have j1:(n:Int)<(nn:Int):=by omega
 obtain⟨l1,hl1⟩:∃l1:Nat,lc-1=l1:=⟨_,rfl⟩;have aF:IntKind.i64.wrap ((lc:Int)-1)=(l1:Int):=(wrap_small _ (by omega) (by omega)).trans (by omega);rw[hl1];clear hc hl hl1 hl2;have key:(k==1)=true∧(k==3)=false∧(∃gi,A=some ⟨gi,0,none⟩∧0<len∧w.cell? ⟨gi,0,none⟩=some (.int .i64 v))∨(k==1)=false∧(k==3)=true∧len=0∨(k==1)=false∧(k==3)=false:=by
  rcases hs with⟨gi,rfl,a,b,c⟩|⟨rfl,a⟩|⟨a,b⟩
  ·exact .inl ⟨rfl,rfl,gi,a,b,c⟩
  ·exact .inr (.inl ⟨rfl,rfl,a⟩)
  ·exact .inr (.inr ⟨bqN.2 a,bqN.2 b⟩)
 clear hs;rcases key with⟨k1,k3,gi,rfl,hlen,hx⟩|⟨k1,k3,rfl⟩|⟨k1,k3⟩
 all_goals
  go_enter Tryz.func106,Tryz.ntmps106;go_wp2_with fail;refine HC.out.mono ?_;rintro en w2 ⟨rfl,rfl⟩;go_wp2_with fail;go_region;go_wp2_with fail;go_ret;exact⟨rfl,((((Fr.refl (fun k=>k=fb) w).set (p:=⟨fb,fo,none⟩) rfl _).set (p:=⟨fb,fo+1,none⟩) rfl _).set (p:=⟨fb,fo+2,none⟩) rfl _).drew,fun t cs hb=>(((hb.set_ _ _).set_ _ _).set_ _ _).drew⟩
end
section
variable{w w':World}{B:Nat}{S:Sv}{σ:PSt}{kd:Nat->Int}{m:Nat}
theorem oY:∀(l:List Vr)(n:Nat),(aU l).take (n*3)=aU (l.take n)
 | [],n=>by simp[aU]
 |v::l,0=>by simp[aU]
 |v::l,n+1=>by
  have:=oY l n;rw[Nat.succ_mul];simp only[aU,List.flatMap_cons,List.take_succ_cons,List.cons_append,List.nil_append]at *;rw[this]
theorem CellAt.form{i:Nat}{l:List Int}(h:CellAt w B S i l):∃A cp,S.iv i=.slice A l.length cp∧(0<l.length->∃g,A=some ⟨g,0,none⟩∧w.cell? ⟨g,0,none⟩=some (.int .i64 (l.getD 0 0))):=by
 by_cases hl:0<l.length
 ·obtain⟨g,cp,e,_,_,_,_,h3⟩:=d6 h.own hl
  refine⟨_,cp,e,fun _=>⟨g,rfl,h3 0 _ ?_⟩⟩;cases l with
  |nil=>simp at hl
  |cons a l=>rfl
 ·obtain⟨A,cp,e⟩:=aI h.own
  exact⟨A,cp,e,fun h=>absurd h hl⟩
theorem TE(h:SOn w B S σ)(ho:σ.Ok kd m)(hm:m<=5000)(s:ByteArray)(v:Int):
  Calls Tryz.prog 106 #[.pointer (some ⟨S.st,0,none⟩),.string s,.int .i64 v] w fun e w'=>RetS B S w (bU s v σ) e w':=by
 have HC:Calls Tryz.prog 130 #[.pointer (some ⟨S.st,0,none⟩)] w fun e w'=>e=.returned (.pointer (some ⟨S.fb σ,σ.fo,none⟩))∧w=w':=(gQ h ho.nc).mono fun e w' h=>⟨h.1,h.2.symm⟩
 obtain⟨hf,⟨q0,q1,q2⟩,hfz,hr,eI⟩:=h.cur;obtain⟨n1,n2,n3⟩:=h.rows;have hok:σ.cur.Ok kd σ.cells.length m:=ho.cur;have Gf:=hok.bd;have Qt:=hok.loc;have GK:=hok.len;have err:∀{x:Int},x≠0->∀e w',e=.returned (.int .i64 x)∧w=w'->RetS B S w (.error x) e w':=fun hx e w' h=>⟨h.1,hx,by rw[<-h.2];exact Fr.refl _ _⟩
 unfold bU;by_cases hl:σ.cur.locals=0
 ·obtain⟨A,cp,e⟩:=aI hf.vars
  rw[e]at q0;rw[hl]at q2;have hw:IntKind.i64.wrap ((σ.cur.vars.length:Int)-1)=(σ.cur.vars.length:Int)-1:=by
   by_cases h0:σ.cur.vars.length=0
   ·rw[h0];decide
   ·exact wrap_small _ (by omega) (by omega)
  have H6:=(OZ (s:=s) (v:=v) HC q0 q2 hw).mono (err (x:=6) (by decide));cases hg:σ.cur.vars.getLast? with
  |none=>exact H6
  |some u=>dsimp only;rw[if_pos (.inl hl)];exact H6
 ·have hn:0<σ.cur.vars.length:=by omega
  have hg:σ.cur.vars.getLast?=some (σ.cur.vars[σ.cur.vars.length-1]'(by omega)):=by rw[List.getLast?_eq_getElem?];exact dR (by omega)
  have hu:σ.cur.vars[σ.cur.vars.length-1]?=some (σ.cur.vars[σ.cur.vars.length-1]'(by omega)):=dR (by omega);have hi:σ.cur.idx[σ.cur.vars.length-1]?=some (σ.cur.idx[σ.cur.vars.length-1]'(by omega)):=dR (by omega);have mT:σ.cur.idx.getLastD 0=σ.cur.idx[σ.cur.vars.length-1]'(by omega):=by
   rw[List.getLastD_eq_getLast?,List.getLast?_eq_getElem?,(congrArg (fun n=>σ.cur.idx[n]?) (show σ.cur.idx.length-1=σ.cur.vars.length-1 by omega)).trans hi];rfl
  rw[hg,mT];dsimp only;generalize σ.cur.vars[σ.cur.vars.length-1]'(by omega)=u at hu;generalize σ.cur.idx[σ.cur.vars.length-1]'(by omega)=c at hi;obtain⟨hc,AH⟩:=hok.kind _ u c hu hi;obtain⟨l,hcl⟩:∃l,σ.cells[c]?=some l:=⟨_,dR hc⟩;have qE:σ.cells.getD c []=l:=by rw[eX,hcl];rfl
  rw[qE];have NY:=ho.one c l hcl;obtain⟨gv,cpv,ev,_,hgv,gY,_,DP⟩:=d6 hf.vars hn;have fM:(S.ptrs σ.cur.idx).length=σ.cur.idx.length:=by simp[Sv.ptrs]
  obtain⟨gr,cpr,er,_,eH,hcr,_,V1⟩:=d6 hf.refs (by omega);obtain⟨p0,p1,_⟩:=fS _ _ _ hu;have v0:=DP _ _ p0;have v1:=DP _ _ p1;have r0:=V1 (σ.cur.vars.length-1) (.pointer (some ⟨S.cb c,0,none⟩)) (by simp[Sv.ptrs,hi]);have hca:=h.cells c l hcl;obtain⟨A,ci,ei,hA⟩:=hca.form;have c0:=hca.blk.cell 0;rw[ei]at c0;rw[ev]at q0;rw[er,GK]at q1;have hw:IntKind.i64.wrap ((σ.cur.vars.length:Int)-1)=((σ.cur.vars.length-1:Nat):Int):=(wrap_small _ (by omega) (by omega)).trans (by omega);by_cases hq:(u.nm.toList==s.toList)=false
  ·rw[if_pos (.inr hq)]
   exact(PC HC q0 q2 hw (by omega) (by omega) v0 hq).mono (err (by decide))
  ·rw[if_neg (fun h=>h.elim hl hq)]
   rw[Bool.not_eq_false]at hq;by_cases hx:u.k=1∧l.getD 0 0≠v∨u.k=3∧l.length≠0
   ·rw[if_pos hx]
    refine(PB (v:=v) HC q0 q1 q2 hw (by omega) (by omega) v0 hq v1 r0 c0 ?_).mono (err (by decide));rcases hx with⟨hk,hx⟩|⟨hk,hx⟩
    ·have h1:=NY.1 (AH▸hk)
     obtain⟨g,eA,hg0⟩:=hA (by omega);exact .inl ⟨g,_,hk,eA,by omega,hg0,hx⟩
    ·exact .inr ⟨hk,by omega⟩
   ·rw[if_neg hx]
    refine(PD (v:=v) HC q0 q1 q2 hw (by omega) (by omega) (by omega) v0 hq v1 r0 c0 hfz eI (by omega) (by omega) ?_).mono ?_
    ·by_cases h1:u.k=1
     ·have hl1:=NY.1 (AH▸h1)
      obtain⟨g,eA,hg0⟩:=hA (by omega);have hxv:l.getD 0 0=v:=Decidable.byContradiction fun dG=>hx (.inl ⟨h1,dG⟩)
      rw[hxv]at hg0;exact .inl ⟨g,h1,eA,by omega,hg0⟩
     ·by_cases h3:u.k=3
      ·exact .inr (.inl ⟨h3,Decidable.byContradiction fun dG=>hx (.inr ⟨h3,dG⟩)⟩)
      ·exact .inr (.inr ⟨h1,h3⟩)
    ·rintro e w' ⟨rfl,hF,hb⟩
     have hv:=hf.vars;have hre:=hf.refs;rw[ev]at hv;rw[er]at hre;have AS:=bL (nY hv (m:=σ.cur.vars.length-1) (by omega)) hF fun k hk e=>n1 (by rw[ev,<-e];exact hk)
     have kF:=bL (nY hre (m:=σ.cur.vars.length-1) (by omega)) hF fun k hk e=>n2 (by rw[er,<-e];exact hk)
     rw[oY]at AS;obtain⟨S',s1,s2,s3,_⟩:=h.setFr (f':=⟨σ.cur.vars.dropLast,σ.cur.idx.dropLast,σ.cur.locals-1⟩) (hF.mono fun k hk=>.inr (.inr hk)) hb (by
      show w'.ownsRow B _ 3 _ σ.cur.vars.dropLast.length (aU σ.cur.vars.dropLast);rw[List.length_dropLast,List.dropLast_eq_take];exact AS) (by
      show w'.ownsRow B _ 1 _ σ.cur.idx.dropLast.length (S.ptrs σ.cur.idx.dropLast);rw[List.length_dropLast,List.dropLast_eq_take,GK];rw[show S.ptrs (σ.cur.idx.take (σ.cur.vars.length-1))=(S.ptrs σ.cur.idx).take ((σ.cur.vars.length-1)*1) by rw[Nat.mul_one];simp[Sv.ptrs,List.map_take]];exact kF) (fun k hk=>.inl (hf.rv k (by rw[ev];exact hk))) (fun k hk=>.inl (hf.rc k (by rw[er];exact hk))) (fun k h1 h2=>n3 k (by rw[ev];exact h1) (by rw[er];exact h2))
     exact⟨rfl,⟨S',s1,s2⟩,s3⟩
end
end Go.Proofs.YtakfdnnlhjhcfaaGreatDoor
namespace Bk
open Go Go.RowKit
def SsAt(w:World)(B:Nat)(A:Option Addr)(l:List ByteArray):Prop:=∀i s,l[i]?=some s->∃g o,A=some ⟨g,o,none⟩∧g<B∧w.cell? ⟨g,o+i,none⟩=some (.string s)
theorem SsAt.next{w w':World}{B:Nat}{A:Option Addr}{l:List ByteArray}(h:SsAt w B A l)(hb:Below B w w'):SsAt w' B A l:=fun i s hi=>by
 obtain⟨g,o,h1,h2,h3⟩:=h i s hi;exact⟨g,o,h1,h2,(hb.cell (p:=⟨g,o+i,none⟩) h2).trans h3⟩
theorem FD{σ:PSt}{ps:List Vr}{ss:List ByteArray}{l:List Nat}(hl:ps.length=ss.length)(h:bY σ (ps.take ps.length) (ss.take ps.length)=.ok l):bY σ ps ss=.ok l:=by
 rw[List.take_length,hl,List.take_length]at h;exact h
theorem uP{σ:PSt}:∀{ps:List Vr}{ss:List ByteArray}{j:Nat}{l:List Nat}{p:Vr}{s:ByteArray},ps[j]?=some p->ss[j]?=some s->bY σ (ps.take j) (ss.take j)=.ok l->bY σ (ps.take (j+1)) (ss.take (j+1))=match bY σ [p] [s]with
  |.error e=>.error e
  |.ok r=>.ok (l++r)
 | [],_,_,_,_,_,h,_,_=>by simp at h
 |_::_,[],_,_,_,_,_,h,_=>by simp at h
 |p'::ps,s'::ss,0,l,p,s,h1,h2,h3=>by
  simp at h1 h2;subst h1;subst h2;simp only[List.take_zero,bY]at h3;injection h3 with h3;subst h3;simp only[List.take_succ_cons,List.take_zero];cases bY σ [p'] [s']<;>rfl
 |p'::ps,s'::ss,j+1,l,p,s,h1,h2,h3=>by
  simp only[List.take_succ_cons]at *;have ih:=fun l' h=>uP (σ:=σ) (ps:=ps) (ss:=ss) (j:=j) (l:=l') (p:=p) (s:=s) (by simpa using h1) (by simpa using h2) h
  rw[bY]at h3⊢;cases hf:bK s' σ.cur.vars with
  |none=>rw[hf]at h3;cases h3
  |some i=>
   rw[hf]at h3;dsimp only at h3⊢;split at h3
   ·cases h3
   rename_i hk;rw[if_neg hk];cases ha:bY σ (ps.take j) (ss.take j)with
   |error e=>rw[ha]at h3;cases h3
   |ok l'=>
    rw[ha]at h3;injection h3 with h3;subst h3;rw[ih l' ha];cases bY σ [p] [s]<;>rfl
theorem xX{σ:PSt}{e:Int}:∀{ps:List Vr}{ss:List ByteArray}{j:Nat},bY σ (ps.take j) (ss.take j)=.error e->j<=ps.length->ps.length=ss.length->bY σ ps ss=.error e
 | [],_,j,h,_,_=>by simp[bY]at h
 |_::_,[],j,h,_,hl=>by simp at hl
 |p::ps,s::ss,0,h,_,_=>by simp[bY]at h
 |p::ps,s::ss,j+1,h,hj,hl=>by
  simp only[List.take_succ_cons]at h;rw[bY]at h⊢;cases hf:bK s σ.cur.vars with
  |none=>rw[hf]at h;exact h
  |some i=>
   rw[hf]at h;dsimp only at h⊢;split at h
   ·rename_i hk;rw[if_pos hk];exact h
   rename_i hk;rw[if_neg hk];cases ha:bY σ (ps.take j) (ss.take j)with
   |error e'=>
    rw[ha]at h;injection h with h;subst h;rw[xX ha (by simpa using hj) (by simpa using hl)]
   |ok l'=>rw[ha]at h;cases h
end Bk
namespace Go.Proofs.YtakfdnnlhjhcfaaGreatDoor
open Go.RowKit Bk
section
variable{w w':World}{B:Nat}{S:Sv}{σ:PSt}{kd:Nat->Int}{m:Nat}
structure NxP(w:World)(S:Sv)(nb:Nat)(ps:List Vr)(l:List Nat)(wr:World):Prop where
 bl:Below w.heap.size w wr
 ge:w.heap.size<=nb
 blk:∃v c,Blk wr nb 120 #[v,c,.int .i64 0]∧wr.ownsRow w.heap.size 72 3 v ps.length (aU ps)∧wr.ownsRow w.heap.size 125 1 c l.length (S.ptrs l)∧v.ownBlock≠some nb∧c.ownBlock≠some nb∧∀k,v.ownBlock=some k->c.ownBlock=some k->False
theorem NxP.next{nb:Nat}{ps:List Vr}{l:List Nat}{wr w':World}(h:NxP w S nb ps l wr)(hb:Below wr.heap.size wr w'):NxP w S nb ps l w':=by
 obtain⟨v,cv,hk,ov,oc,n1,n2,n3⟩:=h.blk;exact⟨h.bl.trans (hb.mono h.bl.size),h.ge,v,cv,hk.next hb,aZ ov hb (aH _),aZ oc hb (aH _),n1,n2,n3⟩
theorem NxP.add{nb:Nat}{ps:List Vr}{l:List Nat}{wr:World}(h:NxP w S nb ps l wr)(hp:ps.length<=1000)(hl:l.length<=1000)(u:Vr)(c:Nat):
  Calls Tryz.prog 63 #[.pointer (some ⟨nb,0,none⟩),.agg #[.string u.nm,.int .u8 u.k,.int .i64 u.len],.pointer (some ⟨S.cb c,0,none⟩)] wr fun e w'=>e=.returned (.tuple #[])∧NxP w S nb (ps++ [u]) (l++ [c]) w':=by
 obtain⟨v,cv,hb,ov,oc,n1,n2,n3⟩:=h.blk;have fM:(S.ptrs l).length=l.length:=by simp[Sv.ptrs]
 refine(ZV (o:=0) h.bl.size hb rfl rfl ov (by rw[fM];exact oc) n1 n2 n3 (by omega) (by omega) u (S.cb c)).mono ?_;rintro e w' ⟨rfl,v',c',ha⟩;have mS:=fun k(hk:v.ownBlock=some k)=>(bH ov hk).1
 have jM:=fun k(hk:cv.ownBlock=some k)=>(bH oc hk).1
 have aR:Below w.heap.size wr w':=ha.fr.below h.bl.size fun k hk=>by
  rcases hk with rfl|hk|hk
  ·exact h.ge
  ·exact mS k hk
  ·exact jM k hk
 refine⟨rfl,h.bl.trans aR,h.ge,v',c',ha.blk _ _ hb,?_,?_,fun e=>?_,fun e=>?_,ha.ne⟩
 ·rw[List.length_append];exact ha.vars
 ·have:=ha.refs
  rw[fM]at this;rw[List.length_append,show S.ptrs (l++ [c])=S.ptrs l++ [.pointer (some ⟨S.cb c,0,none⟩)] by simp[Sv.ptrs]];exact this
 ·rcases ha.hv nb e with h1|h1
  ·exact n1 h1
  ·have:=hb.lt;omega
 ·rcases ha.hc nb e with h1|h1
  ·exact n2 h1
  ·have:=hb.lt;omega
theorem OX{w:World}{base:Nat}{t:TypeId}:w.ownsRow base t 3 (.slice none 0 0) 0 []:=⟨rfl,.inl ⟨rfl,rfl⟩⟩
theorem BA:(Tryz.prog.info? 120).map (fun i=>(i.zero,i.size,i.bytes))=some (some (.agg #[.slice none 0 0,.slice none 0 0,.int .i64 0]),3,56):=by kernel_rfl
theorem LG(h:SOn w B S σ)(hB:B<=w.heap.size)(ho:σ.Ok kd m)(hm:m<=3000){A A2:Option Addr}{n n2 c1 c2:Nat}{ps:List Vr}{ss:List ByteArray}(hv:VsAt w w.heap.size A ps)(hn:ps.length=n)(OG:SsAt w w.heap.size A2 ss)(hn2:ss.length=n2)(mI:n<=32)(dG:n≠n2):
  Calls Tryz.prog 132 #[.pointer (some ⟨S.st,0,none⟩),.slice A n c1,.slice A2 n2 c2] w fun e w'=>RetS B S w (dB ps ss σ) e w':=by
 unfold dB;rw[if_pos (by omega)];have h1:((n:Int) !=(n2:Int))=true:=bne_iff_ne.2 (by omega);clear h ho hv OG hn hn2 dG;go_enter Tryz.func132,Tryz.ntmps132;go_wp2_with fail;go_ret;exact⟨rfl,by decide,Fr.of (by go_grown)⟩
theorem TF(h:SOn w B S σ)(hB:B<=w.heap.size)(ho:σ.Ok kd m)(hm:m<=3000){A A2:Option Addr}{n n2 c1 c2:Nat}{ps:List Vr}{ss:List ByteArray}(hv:VsAt w w.heap.size A ps)(hn:ps.length=n)(OG:SsAt w w.heap.size A2 ss)(hn2:ss.length=n2)(mI:n<=32):
  Calls Tryz.prog 132 #[.pointer (some ⟨S.st,0,none⟩),.slice A n c1,.slice A2 n2 c2] w fun e w'=>RetS B S w (dB ps ss σ) e w':=by
 rcases Decidable.em (n≠n2)with dG|dG
 ·exact LG h hB ho hm hv hn OG hn2 mI dG
 obtain rfl:n=n2:=Decidable.byContradiction dG;clear dG;have CE:Hid (∀W,Below w.heap.size w W->Calls Tryz.prog 130 #[.pointer (some ⟨S.st,0,none⟩)] W fun e w'=>e=.returned (.pointer (some ⟨S.fb σ,σ.fo,none⟩))∧W=w'):=aA fun W hW=>(gQ (h.next hW) ho.nc).mono fun e w' h=>⟨h.1,h.2.symm⟩
 have tF:Hid (∀W,Below w.heap.size w W->∀x:ByteArray,Calls Tryz.prog 131 #[.pointer (some ⟨S.fb σ,σ.fo,none⟩),.string x] W fun e w'=>e=.returned (.int .i64 (i7 x σ.cur.vars))∧W=w'):=aA fun W hW x=>(zT (h.next hW) (by have:=ho.cur.bd;omega) x).mono fun e w' h=>⟨h.1,h.2.symm⟩
 have H:=aA h;have HO:=aA ho;have HV:=aA hv;have HSS:=aA OG;have HN:=aA hn;have SD:=aA hn2;obtain⟨q,hq⟩:∃q,dB ps ss σ=q:=⟨_,rfl⟩;rw[hq];have HQ:=aA hq;have h1:((n:Int) !=(n:Int))=false:=by simp
 have Nk:Hid (∀(i:Nat)(u:Vr)(c:Nat),σ.cur.vars[i]?=some u->σ.cur.idx[i]?=some c->∃nv gv gr cpv cpr,i<nv∧nv<=3000∧∀W,Below w.heap.size w W->W.cell? ⟨S.fb σ,σ.fo,none⟩=some (.slice (some ⟨gv,0,none⟩) nv cpv)∧W.cell? ⟨S.fb σ,σ.fo+1,none⟩=some (.slice (some ⟨gr,0,none⟩) nv cpr)∧W.cell? ⟨gv,i*3+1,none⟩=some (.int .u8 u.k)∧W.cell? ⟨gv,i*3+2,none⟩=some (.int .i64 u.len)∧W.cell? ⟨gr,i,none⟩=some (.pointer (some ⟨S.cb c,0,none⟩))):=aA (by
  intro i u c hu hc;obtain⟨hf,⟨q0,q1,_⟩,_,_,eI⟩:=h.cur;have hl:=(lgS.1 hu).1;have Gf:=ho.cur.bd;have GK:=ho.cur.len;obtain⟨gv,cpv,ev,_,hgv,_,_,DP⟩:=d6 hf.vars (by omega);obtain⟨gr,cpr,er,_,eH,_,_,V1⟩:=d6 hf.refs (by omega);obtain⟨_,p1,p2⟩:=fS _ _ _ hu;rw[ev]at q0;rw[er,GK]at q1;exact⟨_,gv,gr,cpv,cpr,hl,by omega,fun W hW=>⟨(hW.cell (p:=⟨S.fb σ,σ.fo,none⟩) eI).trans q0,(hW.cell (p:=⟨S.fb σ,σ.fo+1,none⟩) eI).trans q1,(hW.cell (p:=⟨gv,i*3+1,none⟩) hgv).trans (DP _ _ p1),(hW.cell (p:=⟨gv,i*3+2,none⟩) hgv).trans (DP _ _ p2),(hW.cell (p:=⟨gr,i,none⟩) eH).trans (V1 i _ (by simp[Sv.ptrs,hc]))⟩⟩)
 have hlen:ps.length=ss.length:=by omega
 have RT:Hid (∀(j:Nat)(x:Int)(w':World),j<=n->x≠0->bY σ (ps.take j) (ss.take j)=.error x->Below w.heap.size w w'->RetS B S w q (.returned (.int .i64 x)) w'):=aA (by
  intro j x w' hj hx he hb;have hq2:=hq;unfold dB at hq2;rw[if_neg (by omega),xX he (by omega) hlen]at hq2;rw[<-hq2];exact⟨rfl,hx,Fr.of hb⟩)
 have nG:Hid (∀(i:Nat)(u:Vr),σ.cur.vars[i]?=some u->∃c,σ.cur.idx[i]?=some c):=aA fun i u hu=>⟨_,dR (by have:=(lgS.1 hu).1;have:=ho.cur.len;omega)⟩
 generalize hfb:S.fb σ=fb at *;generalize iP:σ.fo=fo at *;have Ik:=aA hfb;have Tm:=aA iP;clear h ho hv OG hn hn2 hq hfb iP hlen;go_enter Tryz.func132,Tryz.ntmps132;go_wp2_with fail;refine(CE.out _ (by go_grown)).mono ?_;rintro en w2 ⟨rfl,eD⟩;go_wp2_with fail;have hN0:NxP w S w.heap.size [] [] w2:=by
  rw[<-eD];exact⟨by go_grown,aH _,_,_,Blk.new _ _ _,OX,wE,by simp[Value.ownBlock],by simp[Value.ownBlock],fun k h=>by simp[Value.ownBlock]at h⟩
 clear eD
 go_loopw [23] (fun v23 wr=>∃(j:Nat)(l:List Nat),j<=n∧v23=.int .i64 j∧l.length<=j∧bY σ (ps.take j) (ss.take j)=.ok l∧NxP w S w.heap.size (ps.take j) l wr) (fun v _=>n-(intOf v).toNat)
 case atStart=>exact⟨0,[],fI _,rfl,aH _,by simp[bY],hN0⟩
 case round=>
  obtain⟨j,l,hj,rfl,hl,Pp,Rc⟩:=hrel;have Aw:=aA Pp;have Tr:=aA Rc;clear Pp Rc hN0;by_cases e9:j<n
  ·obtain⟨p,hpj⟩:∃p,ps[j]?=some p:=⟨_,dR (by have:=HN.out;omega)⟩
   obtain⟨x,hxj⟩:∃x,ss[j]?=some x:=⟨_,dR (by have:=SD.out;omega)⟩;obtain⟨g,o,rfl,cR,c0,c1,c2⟩:=HV.out j p hpj;obtain⟨g2,o2,rfl,N8,d0⟩:=HSS.out j x hxj;have hX:=Tr.out.bl;replace c0:=(hX.cell (p:=⟨g,o+j*3,none⟩) cR).trans c0;replace c1:=(hX.cell (p:=⟨g,o+j*3+1,none⟩) cR).trans c1;replace c2:=(hX.cell (p:=⟨g,o+j*3+2,none⟩) cR).trans c2;replace d0:=(hX.cell (p:=⟨g2,o2+j,none⟩) N8).trans d0;have Yz:Hid (bY σ (ps.take (j+1)) (ss.take (j+1))=match bY σ [p] [x]with|.error e=>.error e|.ok r=>.ok (l++r)):=aA (uP hpj hxj Aw.out);have Uc:Hid (ps.take (j+1)=ps.take j++ [p]):=aA (by rw[List.take_add_one,hpj];rfl);have HX:=aA hX;have hXs:=hX.size;clear hpj hxj hX;obtain⟨nm,k,len⟩:=p;dsimp only at c0 c1 c2;have j0:(0:Int)<=(j:Int):=by omega
   have j1:(j:Int)<(n:Int):=by omega
   go_upto_region 10 with fail;refine aB ?_;intro w3 dP;have aT:Below wr.heap.size wr w3:=by rw[dP];go_grown
   have KP:Blk w3 wr.heap.size 72 #[.string nm,.int .u8 k,.int .i64 len]:=by rw[dP];exact aQ
   have bD:=aA (HX.out.trans (aT.mono hXs));have gK:=aA KP;have Vp:=aA aT;replace d0:=(aT.cell (p:=⟨g2,o2+j,none⟩) (show g2<wr.heap.size by omega)).trans d0;obtain⟨zP,TP,FP⟩:=KP.open_;clear dP aT KP c0 c1 c2;go_wp2_with fail;refine(tF.out w3 bD.out x).mono ?_;rintro en w4 ⟨rfl,rfl⟩;cases hf:bK x σ.cur.vars with
   |none=>
    rw[pB hf];have mH:Hid (bY σ (ps.take (j+1)) (ss.take (j+1))=.error 6):=aA (by rw[Yz.out];simp only[bY,hf]);clear hf;go_wp2_with fail;go_ret;exact RT.out _ _ _ (by omega) (by decide) mH.out bD.out
   |some i=>
    rw[i8 hf];obtain⟨u,hu,_⟩:=fE hf;obtain⟨c,hc⟩:=nG.out i u hu;obtain⟨nv,gv,gr,cpv,cpr,hi,hnv,Jl⟩:=Nk.out i u c hu hc;obtain⟨e0,e1,e2,e3,e4⟩:=Jl w3 bD.out;have Mn:=aA Jl;have Je:σ.cur.vars.getD i ⟨x,0,0⟩=u:=by rw[eX,hu];rfl
    have hgi:σ.cur.idx.getD i 0=c:=by rw[eX,hc];rfl
    have mH:Hid (bY σ (ps.take (j+1)) (ss.take (j+1))=if u.k≠k∨u.len≠len then .error 7 else .ok (l++ [c])):=aA (by
     rw[Yz.out];simp only[bY,hf,Je,hgi];by_cases hc:u.k≠k∨u.len≠len
     ·rw[if_pos hc,if_pos hc]
     ·rw[if_neg hc,if_neg hc])
    obtain⟨unm,uk,ul⟩:=u;dsimp only at e2 e3 mH;obtain⟨s1,hs1⟩:∃s,(uk !=k)=s:=⟨_,rfl⟩;obtain⟨s2,hs2⟩:∃s,(ul !=len)=s:=⟨_,rfl⟩;have IS:Hid (bY σ (ps.take (j+1)) (ss.take (j+1))=if(s1||s2)=true then .error 7 else .ok (l++ [c])):=aA (by rw[mH.out,<-hs1,<-hs2];simp);have i0:(0:Int)<=(i:Int):=by omega
    have i1:(i:Int)<(nv:Int):=by omega
    clear hf hu hc Jl Je hgi Yz mH;cases s1
    ·cases s2
     ·go_wp2_with fail
      go_quiet (fail);go_upto_region 15 with fail;refine aB ?_;intro w4 qI;have bV:Below w3.heap.size w3 w4:=by rw[qI];exact Bk.drewN_ (aM _ _) _
      have Vq:Hid (Below wr.heap.size wr w4):=aA (Vp.out.next bV);have hB4:=bD.out.next bV;obtain⟨e0,e1,e2,e3,e4⟩:=Mn.out w4 hB4;obtain⟨zP,TP,FP⟩:=(gK.out.next bV).open_;have Ti:Hid (Calls Tryz.prog 63 #[.pointer (some ⟨w.heap.size,0,none⟩),.agg #[.string nm,.int .u8 k,.int .i64 len],.pointer (some ⟨S.cb c,0,none⟩)] w4.drew fun e w'=>e=.returned (.tuple #[])∧NxP w S w.heap.size (ps.take j++ [⟨nm,k,len⟩]) (l++ [c]) w'):=aA ((Tr.out.next (w':=w4.drew) (by have:=Vq.out;go_grown)).add (by simp;omega) (by omega) ⟨nm,k,len⟩ c);clear qI bV hB4
      go_still_tail 8,(by kernel_rfl)
      change wpList _ _ _ _ _ w4.drew;go_wp2_with fail;refine Ti.out.mono ?_;rintro en w5 ⟨rfl,Rc⟩;have Mc:=aA Rc;clear Rc;go_wp2_with fail;exact⟨⟨j+1,l++ [c],by omega,by first|rfl|go_num,by simp;omega,by rw[IS.out];rfl,by rw[Uc.out];exact Mc.out⟩,(by simp[intOf];try omega)⟩
     ·go_wp2_with fail
      go_quiet (fail);go_wp2_with fail;go_ret;exact RT.out (j+1) 7 _ (by omega) (by decide) (by rw[IS.out];rfl) (bD.out.trans (Bk.drewN_ (aM _ _) _))
    ·go_wp2_with fail
     go_quiet (fail);go_wp2_with fail;go_ret;exact RT.out (j+1) 7 _ (by omega) (by decide) (by rw[IS.out];rfl) (bD.out.trans (Bk.drewN_ (aM _ _) _))
  ·obtain rfl:j=n:=by omega
   have hok:bY σ ps ss=.ok l:=FD (by rw[HN.out,SD.out]) (by have h:=Aw.out;rw[HN.out];exact h);have htk:ps.take j=ps:=by rw[<-HN.out];exact List.take_length
   have Xt:Hid (NxP w S w.heap.size ps l wr):=aA (by have h:=Tr.out;rw[htk]at h;exact h);have j6:Hid (q=if 100<=σ.calls.length then .error 19 else .ok {σ with calls:=σ.calls++ [⟨ps,l,0⟩]}):=aA (by
    rw[<-HQ.out];unfold dB;rw[if_neg (by rw[HN.out,SD.out];omega),hok])
   have HT:=aA (H.out.next Xt.out.bl).top;have JI:=aA H.out.calls;obtain⟨A4,c4,e4⟩:=aI JI.out;have YI:Hid (∀k,Value.ownBlock (.slice A4 σ.calls.length c4)=some k->S.ro k=.calls):=aA fun k hk=>H.out.rcv k (by rw[e4];exact hk)
   have wQ:Hid (S.ro S.st=.store∧S.st<w.heap.size):=aA ⟨H.out.rst,H.out.lt_st⟩;have hnc:σ.calls.length<=100:=HO.out.nc;rw[e4]at HT JI;have jZ:Hid (∀w' v c cv,Fr (fun k=>S.ro k=.calls∨k=S.st) w w'->w'.ownsRow w.heap.size 72 3 v ps.length (aU ps)->w'.ownsRow w.heap.size 125 1 c l.length (S.ptrs l)->Blk w' S.st 123 #[S.bv,S.bc,.int .i64 σ.base.locals,cv,.pointer (some ⟨S.tb,0,none⟩)]->w'.ownsRow B 120 3 cv (σ.calls.length+1) (eU S.fv σ.calls++ [v,c,.int .i64 0])->(∀k,cv.ownBlock=some k->S.ro k=.calls∨w.heap.size<=k)->(∀k,v.ownBlock=some k->c.ownBlock=some k->False)->(∀k,cv.ownBlock=some k->v.ownBlock=some k∨c.ownBlock=some k->False)->
     RetS B S w (.ok {σ with calls:=σ.calls++ [⟨ps,l,0⟩]}) (.returned (.int .i64 0)) w'):=aA (by
    intro w' v c cv a1 a2 a3 a4 a5 a6 a7 a8;obtain⟨S',r1,r2⟩:=H.out.push a1 hB (f:=⟨ps,l,0⟩) a2 a3 a4 a5 a6 a7 a8;refine⟨rfl,⟨S',r1,r2⟩,a1.mono fun k hk=>?_⟩;show S.ro k≠ .none;rcases hk with hk|hk
    ·rw[hk];simp
    ·rw[hk,H.out.rst];simp)
   have HX:=aA Xt.out.bl;clear Aw Tr HQ HO H RT nG Nk tF CE Ik Tm HV HSS HN SD htk hok e4;obtain⟨z_,T_,F_⟩:=HT.out.open_;have bS:wr.heap.size≥w.heap.size:=HX.out.size;by_cases Ft:100<=σ.calls.length
   ·have e100:decide ((100:Int)<=((σ.calls.length:Nat):Int))=true:=decide_eq_true (by omega)
    obtain rfl:=j6.out.trans (if_pos Ft);generalize σ.calls.length=nc at *;clear jZ;go_wp2_with fail;go_ret;exact⟨rfl,by decide,Fr.of HX.out⟩
   ·have e100:decide ((100:Int)<=((σ.calls.length:Nat):Int))=false:=decide_eq_false (by omega)
    obtain rfl:=j6.out.trans (if_neg Ft);obtain⟨v,c,hnb,hov,Vb,hvn,Uo,DP⟩:=Xt.out.blk;obtain⟨Av,cpv,rfl⟩:=aI hov;obtain⟨Ac,cpc,rfl⟩:=aI Vb;have Xv:=aA hnb;have Mh:=aA hov;have Cl:=aA Vb;have HVC:=aA DP;obtain⟨i3,li,lz,ls,lb⟩:=info_parts BA;have HI:=aA li;have HZ:=aA lz;have lI:=aA ls;have jY:=aA lb;have HO:Hid (wr.ownsRow B 120 3 (.slice A4 σ.calls.length c4) σ.calls.length (eU S.fv σ.calls)):=aA (aZ JI.out HX.out (aH _));generalize eU S.fv σ.calls=XS at *;generalize σ.calls.length=nc at *;generalize ps.length=nv at *;generalize l.length=nl at *;clear hnb hov Vb hvn Uo DP li lz ls lb hl Ft;have HC:Hid (wr.cell? ⟨S.st,3,none⟩=some (.slice A4 nc c4)):=aA (HT.out.cell 3);have t8:Hid (wr.frozen? ⟨S.st,3,none⟩=false):=aA (HT.out.frozen 3);have Z6:S.st<wr.heap.size:=HT.out.lt;have sA:¬Value.ownBlock (.slice A4 nc c4)=some S.st:=fun e=>by have a:=YI.out _ e;rw[wQ.out.1]at a;cases a
    have oL:Hid (∀k,Value.ownBlock (.slice A4 nc c4)=some k->k<w.heap.size):=aA fun k hk=>bT JI.out hk
    have Qz:¬Value.ownBlock (.slice A4 nc c4)=some w.heap.size:=fun e=>by have a:=oL.out _ e;omega
    go_upto_region 19 with fail;refine dN (S:=fun W=>Fr (fun k=>Value.ownBlock (.slice A4 nc c4)=some k) wr W) 10 (by kernel_rfl) ((Fr.refl _ _).drew) (fun hH=>?_);refine dK ?_;intro wa bP;have hX:Fr (fun k=>Value.ownBlock (.slice A4 nc c4)=some k) wr wa:=by rw[bP];exact(Fr.refl _ _).drew
    have rA:=HO.out;replace rA:wa.ownsRow B 120 3 (.slice A4 nc c4) nc (XS):=by rw[bP];exact mY rA
    replace hH:=hX;clear bP;refine aV (i:=0) (v:=?_) rfl (by kernel_rfl) (by kernel_rfl) (by kernel_rfl) (by kernel_rfl) (fun _ _ _ h=>h) (Or.inl ⟨by rfl,?hy⟩) hH ?_
    case hy=>(intro bW aN;clear aN;go_simp;try with_reducible rfl)
    (try simp only[PU,aD])
    refine aV (i:=1) (v:=?_) rfl (by kernel_rfl) (by kernel_rfl) (by kernel_rfl) (by kernel_rfl) (fun _ _ _ h=>h) (Or.inl ⟨by rfl,?hy⟩) hH ?_
    case hy=>(intro bW aN;clear aN;go_simp;try with_reducible rfl)
    (try simp only[PU,aD])
    refine aV (i:=2) (v:=?_) rfl (by kernel_rfl) (by kernel_rfl) (by kernel_rfl) (by kernel_rfl) (fun _ _ _ h=>h) (Or.inl ⟨by rfl,?hy⟩) hH ?_
    case hy=>(intro bW aN;clear aN;go_simp;try with_reducible rfl)
    (try simp only[PU,aD])
    refine aV (i:=3) (v:=?_) rfl (by kernel_rfl) (by kernel_rfl) (by kernel_rfl) (by kernel_rfl) (fun _ _ _ h=>h) (Or.inl ⟨by rfl,?hy⟩) hH ?_
    case hy=>(intro bW aN;clear aN;go_simp;try with_reducible rfl)
    (try simp only[PU,aD])
    refine aV (i:=4) (v:=?_) rfl (by kernel_rfl) (by kernel_rfl) (by kernel_rfl) (by kernel_rfl) (fun _ _ _ h=>h) (Or.inl ⟨by rfl,?hy⟩) hH ?_
    case hy=>(intro bW aN;have t:=(aN.cell Z6 sA 3).trans HC.out;clear aN;go_simp;try with_reducible rfl)
    (try simp only[PU,aD])
    refine aV (i:=5) (v:=?_) rfl (by kernel_rfl) (by kernel_rfl) (by kernel_rfl) (by kernel_rfl) (fun _ _ _ h=>h) (Or.inl ⟨by rfl,?hy⟩) hH ?_
    case hy=>(intro bW aN;have t:=(aN.blk Xv.out Qz).cell;clear aN;go_simp;try with_reducible rfl)
    (try simp only[PU,aD])
    refine bQ (i:=6) rfl (by kernel_rfl) (fun K hK=>?_);go_simp;replace hH:=hX.alloc (.cells #[.slice Av nv cpv,.slice Ac nl cpc,.int .i64 0] 120);refine hK.out _ _ hH (fun _=>?_);clear hK;(try simp only[PU,aD])
    refine dK ?_;intro wb bS;have aR:Below wa.heap.size wa wb:=by rw[bS];exact(aM _ _).alloc (aH _) _
    have pX:Blk wb wa.heap.size 120 #[.slice Av nv cpv,.slice Ac nl cpc,.int .i64 0]:=by rw[bS];exact Blk.new _ _ _
    replace rA:=aZ rA aR (aH _);replace hX:=hX.next aR;replace hH:=hX;clear bS aR;refine bQ (i:=7) rfl (by kernel_rfl) (fun K hK=>?_);rw[if_pos (by rfl)];refine oE (.tmp 80) (.tmp 82) 121 rfl B 120 i3 _ 3 56 Tryz.underlying121 HI.out HZ.out lI.out jY.out rfl (by decide) (.slice A4 nc c4) nc (XS) (by simp[Act.eval]) rA (by simp[Act.eval]) (tS pX) (by intro u hu;simp at hu;rcases hu with rfl|rfl|rfl<;>rfl) (by unfold maxLen;omega) (by omega) (by have:=hX.size;omega) ?_;intro v_2 wc bB eH nS;have VP:=hX.size;replace hX:Fr (fun k=>Value.ownBlock (.slice A4 nc c4)=some k) wr wc:=hX.trans (Fr.ofGrownN eH);replace hH:=hX;obtain⟨iS,iT,rfl⟩:=aI bB;have tY:Hid (∀k,Value.ownBlock (.slice iS (nc+1) iT)=some k->Value.ownBlock (.slice A4 nc c4)=some k∨wr.heap.size<=k):=aA (fun k hk=>nS.imp (fun e=>by rw[<-e];exact hk) (fun e=>by rw[hk]at e;have e:=Option.some.inj e;omega));clear eH nS VP;refine hK.out _ _ hH (fun _=>?_);clear hK;(try simp only[PU,aD])
    refine bQ (i:=8) rfl (by kernel_rfl) (fun K hK=>?_);go_simp;refine hK.out _ _ hH (fun _=>?_);clear hK;(try simp only[PU,aD])
    refine aV (i:=9) (v:=?_) rfl (by kernel_rfl) (by kernel_rfl) (by kernel_rfl) (by kernel_rfl) (fun _ _ _ h=>h) (Or.inl ⟨by rfl,?hy⟩) hH ?_
    case hy=>(intro bW aN;clear aN;go_simp;try with_reducible rfl)
    (try simp only[PU,aD])
    refine fK (l:=10) rfl (by kernel_rfl) (by kernel_rfl) (fun K hK=>?_);have IG:=(World.frozen?_of_block (a:=⟨S.st,3,none⟩) (hX.block _ Z6 sA)).trans t8.out;have C_f:=(hX.cell Z6 sA _).trans HC.out;go_simp;refine hK.out _ _ ?_;clear hK;(try simp only[PU,aD])
    have Cm:=aA bB;have F7:=aA hX;clear bB hX hH rA;have wW:Hid (Fr (fun k=>S.ro k=.calls∨k=S.st) w (wc.setCell ⟨S.st,3,none⟩ (.slice iS (nc+1) iT))):=aA (((Fr.of HX.out).trans (F7.out.mono fun k hk=>.inl (YI.out k hk))).set (p:=⟨S.st,3,none⟩) (.inr rfl) _);have Yu:Hid (Fr (fun k=>k=S.st) wc (wc.setCell ⟨S.st,3,none⟩ (.slice iS (nc+1) iT))):=aA ((Fr.refl (fun k=>k=S.st) wc).set (p:=⟨S.st,3,none⟩) rfl _);have HVF:=aA (bL (bL Mh.out F7.out fun k hk e=>by have a:=(bH Mh.out hk).1;have b:=oL.out _ e;omega) Yu.out fun k hk e=>by have a:=(bH Mh.out hk).1;have b:=wQ.out.2;omega);have Wc:=aA (bL (bL Cl.out F7.out fun k hk e=>by have a:=(bH Cl.out hk).1;have b:=oL.out _ e;omega) Yu.out fun k hk e=>by have a:=(bH Cl.out hk).1;have b:=wQ.out.2;omega);have Az:=aA ((F7.out.blk HT.out sA).set_ 3 (.slice iS (nc+1) iT));have Mp:=aA (bL Cm.out Yu.out fun k hk e=>by subst e;rcases tY.out _ hk with h1|h1;exact sA h1;omega);have Wn:=aA (jZ.out (wc.setCell ⟨S.st,3,none⟩ (.slice iS (nc+1) iT)) _ _ _ wW.out HVF.out Wc.out Az.out Mp.out (fun k hk=>(tY.out k hk).imp (YI.out k) fun h=>by omega) HVC.out (fun k h1 h2=>by
     have hk:k<wr.heap.size∧w.heap.size<=k:=h2.elim (fun h=>⟨(bH Mh.out h).2,(bH Mh.out h).1⟩) fun h=>⟨(bH Cl.out h).2,(bH Cl.out h).1⟩
     rcases tY.out k h1 with h3|h3
     ·have:=oL.out _ h3;omega
     ·omega))
    go_wp2_with fail;go_ret;exact Wn.out
end
end Go.Proofs.YtakfdnnlhjhcfaaGreatDoor
