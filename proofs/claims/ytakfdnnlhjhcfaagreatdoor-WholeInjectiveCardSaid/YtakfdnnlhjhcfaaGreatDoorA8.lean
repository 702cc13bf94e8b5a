/- Part of the proof. -/
import Derived.Test.YtakfdnnlhjhcfaaGreatDoorA4
import Derived.Test.YtakfdnnlhjhcfaaGreatDoorA5
set_option linter.unusedVariables false
set_option linter.unusedSimpArgs false
set_option maxRecDepth 100000
set_option maxHeartbeats 4000000
namespace Bk
theorem lM{s:ByteArray}:∀{l:List Vr},(∀(j:Nat)(u:Vr),l[j]?=some u->(u.nm.toList==s.toList)=false)->bK s l=none
 | [],_=>rfl
 |v::l,h=>by
  have h1:=lM (s:=s) (l:=l) fun j u hu=>h (j+1) u (by simpa using hu)
  have h2:=h 0 v rfl;simp only[bK,h1,h2];rfl
theorem vK{s:ByteArray}:∀{l:List Vr}{i:Nat}{v:Vr},l[i]?=some v->(v.nm.toList==s.toList)=true->(∀(j:Nat)(u:Vr),i<j->l[j]?=some u->(u.nm.toList==s.toList)=false)->bK s l=some i
 | [],_,_,h,_,_=>by simp at h
 |a::l,0,v,h,hn,hl=>by
  have h1:=lM (s:=s) (l:=l) fun j u hu=>hl (j+1) u (by omega) (by simpa using hu)
  simp at h;subst h;simp only[bK,h1,hn,if_true]
 |a::l,i+1,v,h,hn,hl=>by
  have h1:=vK (s:=s) (l:=l) (i:=i) (v:=v) (by simpa using h) hn fun j u hj hu=>hl (j+1) u (by omega) (by simpa using hu)
  simp only[bK,h1]
end Bk
namespace Go.Proofs.YtakfdnnlhjhcfaaGreatDoor
open Go.RowKit Bk
theorem jX{P:Program}{fn:Func}{p u:Tmp}{ty:TypeId}(h:fn.results=#[.cell p ty,.tmp u])(tmps:Array Value)(w:World)(g:Nat)(t:TypeId)(cs:Array Value)(d:TypeDesc)
  (hp:tmps.getD p undef=.pointer (some ⟨g,0,none⟩)) (hg:Blk w g t cs) (hu:P.underlying ty=some d) (hd:(match d with|.struct _|.array _ _=>true|_=>false)=true) (hi:(P.info? ty).map (·.size)=some cs.size):
  (results fn tmps).run P w=.ok (.tuple #[.agg cs,tmps.getD u undef]) w:=by
 rw[results_cell_tmp h,hp];simp[asAddr,run_loadVar_row w g t ty cs (0,0) d hg hu hd hi]
def FindX(vs:List Vr)(name:ByteArray)(e:Ending):Prop:=match (bK name vs).bind fun i=>vs[i]? with
 |some v=>e=.returned (.tuple #[.agg #[.string v.nm,.int .u8 v.k,.int .i64 v.len],.bool true])
 |none=>e=.returned (.tuple #[.agg #[.string ⟨#[]⟩,.int .u8 0,.int .i64 0],.bool false])
theorem FindX.none{vs:List Vr}{name:ByteArray}(h:bK name vs=Option.none):FindX vs name (.returned (.tuple #[.agg #[.string ⟨#[]⟩,.int .u8 0,.int .i64 0],.bool false])):=by
 unfold FindX;rw[h];rfl
theorem FindX.some{vs:List Vr}{name:ByteArray}{i:Nat}{v:Vr}(hv:vs[i]?=Option.some v)(h:bK name vs=Option.some i):FindX vs name (.returned (.tuple #[.agg #[.string v.nm,.int .u8 v.k,.int .i64 v.len],.bool true])):=by
 unfold FindX;rw[h];simp[hv]
theorem M8{s:ByteArray}:∀{l:List Vr}{i:Nat},bK s l=Option.some i->i<l.length
 | [],_,h=>by cases h
 |v::l,i,h=>by
  simp only[bK]at h;cases h1:bK s l with
  |none=>rw[h1]at h;simp only at h;split at h<;>simp at h;subst h;simp
  |some j=>rw[h1]at h;simp at h;subst h;have:=M8 h1;simp;omega
theorem FindX.cases{vs:List Vr}{name:ByteArray}{e:Ending}(h:FindX vs name e):(∃(v:Vr),((bK name vs).isSome=true∧∀kd,dT vs name kd=if v.k≠kd then 7 else 0)∧e=.returned (.tuple #[.agg #[.string v.nm,.int .u8 v.k,.int .i64 v.len],.bool true]))∨(((bK name vs).isSome=false∧∀kd,dT vs name kd=6)∧e=.returned (.tuple #[.agg #[.string ⟨#[]⟩,.int .u8 0,.int .i64 0],.bool false])):=by
 unfold FindX at h;cases hf:bK name vs with
 |none=>rw[hf]at h;exact .inr ⟨⟨rfl,fun kd=>by unfold dT;rw[hf];rfl⟩,h⟩
 |some i=>
  have hi:=M8 hf;rw[hf]at h;simp only[Option.bind_some,dR hi]at h;exact .inl ⟨vs[i],⟨rfl,fun kd=>by unfold dT;rw[hf];simp[dR hi]⟩,h⟩
theorem qD{w:World}{B:Nat}(bG:B<=w.heap.size)(V:Option Addr)(nv cv:Nat)(vs:List Vr)(hv:VsAt w B V vs)(hnv:vs.length=nv)(d8:nv<=17592186043904)(name:ByteArray)(w':World)(hb:Below B w w'):
  Calls Tryz.prog 55 #[.slice V nv cv,.string name] w' fun en w''=>FindX vs name en∧Below w'.heap.size w' w'':=by
 have HV:=aA hv;have oG:=aA hnv;have HB:=aA hb;have IP:Hid (∀(i:Nat)(v:Vr),vs[i]?=some v->(v.nm.toList==name.toList)=true->(∀(j:Nat)(u:Vr),i<j->vs[j]?=some u->(u.nm.toList==name.toList)=false)->bK name vs=some i):=aA fun i v h1 h2 h3=>vK h1 h2 h3
 have G6:Hid ((∀(j:Nat)(u:Vr),vs[j]?=some u->(u.nm.toList==name.toList)=false)->bK name vs=none):=aA fun h=>lM h
 clear hv hnv hb;go_enter Tryz.func55,Tryz.ntmps55;go_upto_region 2 with fail;refine aB ?_;intro w1 hw;have aG:Below w'.heap.size w' w1:=by rw[hw];go_grown
 have K1:Blk w1 w'.heap.size 72 #[.string ⟨#[]⟩,.int .u8 0,.int .i64 0]:=by rw[hw];exact aQ
 have aO:=aA aG;have a9:=aA K1;clear hw aG K1
 go_loopw [6] (fun v6 wr=>∃j:Nat,j<=nv∧v6=.int .i64 ((j:Int)-1)∧(∀i u,j<=i->vs[i]?=some u->(u.nm.toList==name.toList)=false)∧Below w1.heap.size w1 wr) (fun v _=>(intOf v+1).toNat)
 case atStart=>exact⟨nv,aH _,by first|rfl|go_num,fun i u hi hu=>absurd (lgS.1 hu).1 (by have:=oG.out;omega),aM _ _⟩
 case round=>
  obtain⟨j,hj,rfl,jC,cF⟩:=hrel;have cG:=aA cF;have W9:=aA jC;have pD:=aO.out.next cF;have K1:=a9.out.next cF;have bI:=aA K1;clear cF jC;rcases Nat.eq_zero_or_pos j with Qn|Qn
  ·subst Qn
   obtain⟨aL,aJ,aK⟩:=K1.open_;clear K1;go_wp2_with fail;have K9:=((bI.out.set_ 0 (.string ⟨#[]⟩)).set_ 1 (.int .u8 0)).set_ 2 (.int .i64 0);refine bodyPost_ret_by (jX rfl _ _ w'.heap.size 72 #[.string ⟨#[]⟩,.int .u8 0,.int .i64 0] _ rfl (show Blk _ w'.heap.size 72 #[.string ⟨#[]⟩,.int .u8 0,.int .i64 0] by simpa using K9) Tryz.underlying72 rfl (by kernel_rfl)) rfl ?_;exact⟨FindX.none (G6.out fun j u hu=>W9.out j u (fI _) hu),((pD.setCell (aH _) _).setCell (aH _) _).setCell (aH _) _⟩
  ·obtain⟨i,rfl⟩:∃i,j=i+1:=⟨j-1,by omega⟩
   have e1:(((i+1:Nat):Int)-1)=(i:Int):=by omega
   rw[e1];obtain⟨v,hvj⟩:∃v,vs[i]?=some v:=⟨_,dR (by have:=oG.out;omega)⟩;obtain⟨g,o,eY,cR,c0,c1,c2⟩:=(HV.out.next HB.out) i v hvj;subst eY;have oR:g<w'.heap.size:=by have:=HB.out.size;omega
   have d0:=(pD.cell (p:=⟨g,o+i*3,none⟩) oR).trans c0;have d1:=(pD.cell (p:=⟨g,o+i*3+1,none⟩) oR).trans c1;have d2:=(pD.cell (p:=⟨g,o+i*3+2,none⟩) oR).trans c2;have It:=aA hvj;obtain⟨nm,k,len⟩:=v;dsimp only at d0 d1 d2;have j0:(0:Int)<=(i:Int):=by omega
   have j1:(i:Int)<(nv:Int):=by omega
   clear c0 c1 c2 hvj e1;obtain⟨q,hq⟩:∃q,(nm.toList==name.toList)=q:=⟨_,rfl⟩;have HQ:=aA hq;cases q
   ·go_wp2_with fail
    exact⟨⟨i,(by omega),by first|rfl|go_num,(fun a u ha hu=>by rcases Nat.eq_or_lt_of_le ha with h|h;(subst h;rw[It.out]at hu;injection hu with hu;subst hu;exact HQ.out);exact W9.out a u h hu),cG.out⟩,(by simp[intOf];try omega)⟩
   ·obtain⟨aL,aJ,aK⟩:=K1.open_
    clear K1;go_wp2_with fail;have K9:=((bI.out.set_ 0 (.string nm)).set_ 1 (.int .u8 k)).set_ 2 (.int .i64 len);refine bodyPost_ret_by (jX rfl _ _ w'.heap.size 72 #[.string nm,.int .u8 k,.int .i64 len] _ rfl (show Blk _ w'.heap.size 72 #[.string nm,.int .u8 k,.int .i64 len] by simpa using K9) Tryz.underlying72 rfl (by kernel_rfl)) rfl ?_;exact⟨FindX.some It.out (IP.out i _ It.out HQ.out fun a u ha hu=>W9.out a u ha hu),((pD.setCell (aH _) _).setCell (aH _) _).setCell (aH _) _⟩
theorem z7{w:World}{B:Nat}(bG:B<=w.heap.size)(V:Option Addr)(nv cv:Nat)(vs:List Vr)(hv:VsAt w B V vs)(hnv:vs.length=nv)(d8:nv<=17592186043904)(name:ByteArray)(w':World)(hb:Below B w w'):Calls Tryz.prog 31 #[.slice V nv cv,.string name] w' fun en w''=>en=.returned (.int .i64 (if(bK name vs).isSome then 22 else 0))∧Below w'.heap.size w' w'':=by
 have IN:=aA (qD bG V nv cv vs hv hnv d8 name w' hb);obtain⟨rs,hrs⟩:∃r:Int,(if(bK name vs).isSome then 22 else 0)=r:=⟨_,rfl⟩;have Mt:=aA hrs;rw[hrs];clear hv hnv hb hrs;go_enter Tryz.func31,Tryz.ntmps31;go_wp2_with fail;refine IN.out.mono ?_;rintro en w1 ⟨hp,aG⟩;have aO:=aA aG;clear aG;rcases hp.cases with⟨v,⟨h1,_⟩,rfl⟩|⟨⟨h1,_⟩,rfl⟩
 ·obtain rfl:rs=22:=by rw[<-Mt.out,h1];rfl
  clear h1 hp;go_wp2_with fail;go_ret;exact⟨rfl,aO.out.alloc (fC (aH _) aO.out.size) _⟩
 ·obtain rfl:rs=0:=by rw[<-Mt.out,h1];rfl
  clear h1 hp;go_wp2_with fail;go_ret;exact⟨rfl,aO.out.alloc (fC (aH _) aO.out.size) _⟩
theorem Ot{w:World}{B:Nat}(bG:B<=w.heap.size)(V:Option Addr)(nv cv:Nat)(vs:List Vr)(hv:VsAt w B V vs)(hnv:vs.length=nv)(d8:nv<=17592186043904)(name:ByteArray)(kd:Int)(w':World)(hb:Below B w w'):Calls Tryz.prog 94 #[.slice V nv cv,.string name,.int .u8 kd] w' fun en w''=>en=.returned (.int .i64 (dT vs name kd))∧Below w'.heap.size w' w'':=by
 have IN:=aA (qD bG V nv cv vs hv hnv d8 name w' hb);obtain⟨rs,hrs⟩:∃r:Int,dT vs name kd=r:=⟨_,rfl⟩;have Mt:=aA hrs;rw[hrs];clear hv hnv hb hrs;go_enter Tryz.func94,Tryz.ntmps94;go_wp2_with fail;refine IN.out.mono ?_;rintro en w1 ⟨hp,aG⟩;have aO:=aA aG;clear aG;rcases hp.cases with⟨v,⟨_,h1⟩,rfl⟩|⟨⟨_,h1⟩,rfl⟩
 ·have h2:=h1 kd
  rw[Mt.out]at h2;have H2:=aA h2;obtain⟨nm,k,len⟩:=v;dsimp only at *;clear h1 h2 hp;by_cases hk:k=kd
  ·subst hk
   obtain rfl:rs=0:=by rw[H2.out];simp
   go_wp2_with fail;go_ret;exact⟨rfl,aO.out.alloc (fC (aH _) aO.out.size) _⟩
  ·have tB:(k !=kd)=true:=by simpa using hk
   obtain rfl:rs=7:=by rw[H2.out,if_pos hk]
   go_wp2_with fail;go_ret;exact⟨rfl,aO.out.alloc (fC (aH _) aO.out.size) _⟩
 ·obtain rfl:rs=6:=by rw[<-Mt.out,h1]
  clear h1 hp;go_wp2_with fail;go_ret;exact⟨rfl,aO.out.alloc (fC (aH _) aO.out.size) _⟩
end Go.Proofs.YtakfdnnlhjhcfaaGreatDoor
namespace Bk
def fJ(s:ByteArray):List Pc->Option Nat
 | []=>none
 |p::l=>if p.nm.toList==s.toList then some 0 else(fJ s l).map (· +1)
def fB(s:ByteArray)(l:List Pc):Int:=match fJ s l with
 |some i=>i
 |none=> -1
theorem wH{s:ByteArray}:∀{l:List Pc},(∀(j:Nat)(u:Pc),l[j]?=some u->(u.nm.toList==s.toList)=false)->fJ s l=none
 | [],_=>rfl
 |v::l,h=>by
  have h1:=wH (s:=s) (l:=l) fun j u hu=>h (j+1) u (by simpa using hu)
  have h2:=h 0 v rfl;simp only[fJ,h1,h2];rfl
theorem R5{s:ByteArray}:∀{l:List Pc}{i:Nat}{v:Pc},l[i]?=some v->(v.nm.toList==s.toList)=true->(∀(j:Nat)(u:Pc),j<i->l[j]?=some u->(u.nm.toList==s.toList)=false)->fJ s l=some i
 | [],_,_,h,_,_=>by simp at h
 |a::l,0,v,h,hn,hl=>by
  simp at h;subst h;simp only[fJ,hn,if_true]
 |a::l,i+1,v,h,hn,hl=>by
  have h1:=R5 (s:=s) (l:=l) (i:=i) (v:=v) (by simpa using h) hn fun j u hj hu=>hl (j+1) u (by omega) (by simpa using hu)
  have h2:=hl 0 a (by omega) rfl;simp only[fJ,h1,h2];rfl
end Bk
namespace Go.Proofs.YtakfdnnlhjhcfaaGreatDoor
open Go.RowKit Bk
theorem UB(p:Pc)(nm:ByteArray)(w:World)(b:Nat)(h:w.cell? ⟨b,0,none⟩=some (.string nm)):
  Calls Tryz.prog 57 #[.agg #[.string p.nm,.slice p.V p.nv p.cv,.int .u8 p.body.k,.int .i64 p.body.num,.string p.body.nm,.slice p.body.A p.body.n p.body.cap],.pointer (some ⟨b,0,none⟩)] w fun e w'=>e=.returned (.bool (p.nm.toList==nm.toList))∧Below w.heap.size w w':=by
 obtain⟨pn,pV,pnv,pcv,pvs,⟨bk,bnum,bnm,bA,bn,bcap⟩⟩:=p;dsimp only;have l1:=World.block_lt_of_cell? w ⟨b,0,none⟩ h;dsimp only at l1;go_enter Tryz.func57,Tryz.ntmps57;go_wp2_with fail;go_ret;exact⟨by simp,by go_grown⟩
theorem L6{w:World}{B d:Nat}(bG:B<=w.heap.size)(Q:Option Addr)(nq cq:Nat)(ps:List Pc)(hq:PrsAt w B d Q ps)(hnq:ps.length=nq)(hnq2:nq<=17592186043904)(nm:ByteArray)(w':World)(hb:Below B w w')(b:Nat)(h1:w'.cell? ⟨b,0,none⟩=some (.string nm)):
  Calls Tryz.prog 56 #[.slice Q nq cq,.func (.func 57) #[] #[.pointer (some ⟨b,0,none⟩)]] w' fun e w''=>e=.returned (.int .i64 (fB nm ps))∧Below w'.heap.size w' w'':=by
 have HQ:=aA hq;have nH:=aA hnq;have HB:=aA hb;have H1:=aA h1;have l1:=World.block_lt_of_cell? w' ⟨b,0,none⟩ h1;dsimp only at l1;obtain⟨ri,hri⟩:∃ri,fB nm ps=ri:=⟨_,rfl⟩;have HRI:=aA hri;rw[hri];clear hq hnq hb h1 hri;go_enter Tryz.func56,Tryz.ntmps56;go_wp2_with fail
 go_loopw [8] (fun v8 wr=>∃j:Nat,j<=nq∧v8=.int .i64 j∧(∀(i:Nat)(v:Pc),i<j->ps[i]?=some v->(v.nm.toList==nm.toList)=false)∧Below w'.heap.size w' wr) (fun v _=>nq-(intOf v).toNat)
 case atStart=>exact⟨0,fI _,rfl,(fun i v hi=>absurd hi (Nat.not_lt_zero _)),aM _ _⟩
 case round=>
  obtain⟨j,hj,rfl,jC,cF⟩:=hrel;have HP:=aA jC;have cG:=aA cF;clear jC;by_cases e9:j<nq
  ·obtain⟨p,hpj⟩:∃p,ps[j]?=some p:=⟨_,dR (by have:=nH.out;omega)⟩
   obtain⟨⟨g,o,eY,cR,c0,c1,c2,c3,c4,c5⟩,_⟩:=HQ.out j p hpj;subst eY;have hX:=HB.out.trans (cF.mono (by have:=HB.out.size;omega));have d0:=(hX.cell (p:=⟨g,o+j*6,none⟩) cR).trans c0;have d1:=(hX.cell (p:=⟨g,o+j*6+1,none⟩) cR).trans c1;have d2:=(hX.cell (p:=⟨g,o+j*6+2,none⟩) cR).trans c2;have d3:=(hX.cell (p:=⟨g,o+j*6+3,none⟩) cR).trans c3;have d4:=(hX.cell (p:=⟨g,o+j*6+4,none⟩) cR).trans c4;have d5:=(hX.cell (p:=⟨g,o+j*6+5,none⟩) cR).trans c5;have Tu:=aA hpj;have NI:=UB p nm wr b ((cF.cell (p:=⟨b,0,none⟩) l1).trans H1.out);obtain⟨q,hq⟩:∃q,(p.nm.toList==nm.toList)=q:=⟨_,rfl⟩;rw[hq]at NI;have SL:=aA hq;have Kn:=aA NI;obtain⟨pn,pV,pnv,pcv,pvs,⟨bk,bnum,bnm,bA,bn,bcap⟩⟩:=p;dsimp only at *;have j0:(0:Int)<=(j:Int):=by omega
   have j1:(j:Int)<(nq:Int):=by omega
   clear hpj c0 c1 c2 c3 c4 c5 cF hq NI hX;go_wp2_with fail;refine Kn.out.mono ?_;rintro e w2 ⟨rfl,hb2⟩;have GF:=cG.out.next hb2;clear d0 d1 d2 d3 d4 d5;cases q
   ·go_wp2_with fail
    exact⟨⟨j+1,by omega,by go_num,(fun i v' hi OH=>(Nat.lt_succ_iff_lt_or_eq.1 hi).elim (fun h=>HP.out i v' h OH) (fun h=>by subst h;rw[Tu.out]at OH;injection OH with OH;subst OH;exact SL.out)),GF⟩,by simp[intOf];omega⟩
   ·have jZ:Hid (ri=(j:Int)):=aA (by rw[<-HRI.out,fB,R5 Tu.out SL.out (fun a u ha hu=>HP.out a u ha hu)])
    go_wp2_with fail;go_ret;rw[jZ.out];exact⟨rfl,GF⟩
  ·obtain rfl:j=nq:=by omega
   have jZ:Hid (ri= -1):=aA (by rw[<-HRI.out,fB,wH (fun a u hu=>HP.out a u (by have:=(lgS.1 hu).1;have:=nH.out;omega) hu)]);go_wp2_with fail;go_ret;rw[jZ.out];exact⟨rfl,cG.out⟩
theorem zZ{w:World}{B d:Nat}(bG:B<=w.heap.size)(V:Option Addr)(nv cv:Nat)(Q:Option Addr)(nq cq:Nat)(ps:List Pc)(hq:PrsAt w B d Q ps)(hnq:ps.length=nq)(hnq2:nq<=17592186043904)(m:Nd)(nm:ByteArray)(w':World)(hb:Below B w w'):
  Calls Tryz.prog 32 #[.agg #[.slice V nv cv,.slice Q nq cq,.int .u8 m.k,.int .i64 m.num,.string m.nm,.slice m.A m.n m.cap],.string nm] w' fun e w''=>e=.returned (.int .i64 (fB nm ps))∧Below w'.heap.size w' w'':=by
 have HI:Hid (∀W,Below B w W->∀b,W.cell? ⟨b,0,none⟩=some (.string nm)->Calls Tryz.prog 56 #[.slice Q nq cq,.func (.func 57) #[] #[.pointer (some ⟨b,0,none⟩)]] W fun e w''=>e=.returned (.int .i64 (fB nm ps))∧Below W.heap.size W w''):=aA fun W hW b hb=>L6 bG Q nq cq ps hq hnq hnq2 nm W hW b hb
 have HB:=aA hb;have bC:B<=w'.heap.size:=by have:=hb.size;omega
 obtain⟨ri,hri⟩:∃ri,fB nm ps=ri:=⟨_,rfl⟩;rw[hri]at HI⊢;clear hq hnq hb hri;obtain⟨mk,mnum,mnm,mA,mn,mcap⟩:=m;dsimp only at *;go_enter Tryz.func32,Tryz.ntmps32;go_upto_region 1 with fail;refine aB ?_;intro w1 aF;have aG:Below w'.heap.size w' w1:=by rw[aF];go_grown
 have K1:Blk w1 w'.heap.size 28 #[.slice V nv cv,.slice Q nq cq,.int .u8 mk,.int .i64 mnum,.string mnm,.slice mA mn mcap]:=by rw[aF];exact aQ
 have K2:Blk w1 (w'.heap.size+1) 9 #[.string nm]:=by rw[aF];exact Blk.new' (by simp) _ _
 have HC:=aA (K2.cell 0);have aO:=aA aG;clear aF aG K2;obtain⟨aL,aJ,aK⟩:=K1.open_;clear K1;go_wp2_with fail;refine(HI.out w1 (HB.out.trans (aO.out.mono bC)) _ HC.out).mono ?_;rintro en w2 ⟨rfl,hb2⟩;have aP:=aA (aO.out.next hb2);clear aJ aL aK hb2;go_wp2_with fail;go_ret;exact⟨rfl,aP.out⟩
end Go.Proofs.YtakfdnnlhjhcfaaGreatDoor
namespace Bk
open Go
section
variable{P:Program}{ops:Array Oper}{Q:Exit->Act->World->Prop}{md:Region.Mode}{S:World->Prop}{l:Nat}
def fU(P:Program)(md:Region.Mode)(ops:Array Oper)(Q:Exit->Act->World->Prop)(S:World->Prop)(l:Nat):Nat->Array Bool->Act->World->Prop
 |0,listed,a,w=>Region.ready md ops listed= []∧Q .normal a w
 |fuel+1,listed,a,w=>
  (Region.ready md ops listed= []->Q .normal a w)∧
  ∀i∈Region.ready md ops listed,wpOp P ops Q i (fun a' w'=>(i=l∨S w')∧fU P md ops Q S l fuel (listed.setIfInBounds i true) a' w') a w
theorem nF:∀(fuel:Nat)(listed:Array Bool)(a:Act)(w:World),fU P md ops Q S l fuel listed a w->wpAny P md ops Q fuel listed a w
 |0,_,_,_,h=>h
 |fuel+1,_,_,_,h=>⟨h.1,fun i hi=>wpOp_mono (fun a' w' h'=>nF fuel _ a' w' h'.2) (h.2 i hi)⟩
def nB(md:Region.Mode)(ops:Array Oper)(l i:Nat):Bool:=
 match ops[l]? with
 |none=>false
 |some o=>o.after.any fun e=>Region.binds md e&&e.on==i
theorem xR{i:Nat}(h:nB md ops l i=true){o:Oper}(ho:ops[l]?=some o):∃e∈o.after,Region.binds md e=true∧e.on=i:=by
 unfold nB at h;rw[ho]at h;simp only[Array.any_eq_true]at h;obtain⟨k,hk,h⟩:=h;simp only[Bool.and_eq_true,beq_iff_eq]at h;exact⟨_,Array.getElem_mem hk,h.1,h.2⟩
theorem D5{i:Nat}{oi:Oper}{v:Value}(hi:ops[i]?=some oi)(hl:nB md ops l i=true)(Rt:∀(j:Nat)(o:Oper) cs b,ops[j]?=some o->o.op≠ .select cs b)
  (hQ:∀c a w,Q (.panic c) (a.put oi.dst v) w->Q (.panic c) a w):
  ∀(fuel:Nat)(listed:Array Bool)(a:Act)(w:World),(∀j oj,ops[j]?=some oj->j≠i->listed.getD j true=false->(∀e∈oj.after,Region.binds md e=true->e.on≠i)->oi.apart ops oj=true)->
   i∈Region.ready md ops listed->YieldsIf P ops S oi v a->S w->
   fU P md ops Q S l fuel (listed.setIfInBounds i true) (a.put oi.dst v) w->fU P md ops Q S l (fuel+1) listed a w:=by
 intro fuel
 induction fuel with
 |zero=>
  intro listed a w _ hr hy hS H;refine⟨fun h=>(by rw[h]at hr;cases hr),fun j hj=>?_⟩;by_cases U8:j=i
  ·subst U8;exact hy.wpOp hi hS ⟨.inr hS,H⟩
  ·have:=ready_mono hj U8
   rw[H.1]at this;cases this
 |succ fuel ih=>
  intro listed a w ZG hr hy hS H;refine⟨fun h=>(by rw[h]at hr;cases hr),fun j hj=>?_⟩;by_cases U8:j=i
  ·subst U8;exact hy.wpOp hi hS ⟨.inr hS,H⟩
  ·have h1:=H.2 j (ready_mono hj U8)
   obtain⟨Qo,oj,Vc,fQ⟩:=mem_ready.1 hj;have Ra:∀e∈oj.after,Region.binds md e=true->e.on≠i:=fun e he hb ZD=>by
    have h1:=fQ e he hb;have h0:=(mem_ready.1 hr).1;rw[ZD]at h1;rcases Nat.lt_or_ge i listed.size with h'|h'
    ·simp[h']at h0 h1;rw[h0]at h1;cases h1
    ·simp[Array.getElem?_eq_none h']at h1
   have AG:j≠l:=fun e=>by
    subst e;obtain⟨e,he,hb,ZD⟩:=xR hl Vc;exact Ra e he hb ZD
   have h2:=wpOp_putIf Vc (ZG j oj Vc U8 Qo Ra) (fun cs b=>Rt i oi cs b hi) (fun cs b=>Rt j oj cs b Vc) hQ hy h1;have Gk:∀k ok,ops[k]?=some ok->k≠i->(listed.setIfInBounds j true).getD k true=false->
     (∀e∈ok.after,Region.binds md e=true->e.on≠i)->oi.apart ops ok=true:=fun k ok hk hki Sb hno=>by
    refine ZG k ok hk hki ?_ hno;by_cases hjk:j=k
    ·subst hjk;exact Qo
    ·rw[getD_set_ne true hjk]at Sb;exact Sb
   refine wpOp_mono (fun a' w' h3=>⟨h3.2.1,ih (listed.setIfInBounds j true) a' w' Gk (ready_mono hr (Ne.symm U8)) h3.1 (h3.2.1.resolve_left AG) ?_⟩) h2;rw[Array.setIfInBounds_comm _ _ U8];exact h3.2.2
theorem aV{i:Nat}{oi:Oper}{v:Value}{fuel:Nat}{listed:Array Bool}{a:Act}{w:World}(hi:ops[i]?=some oi)(hl:nB md ops l i=true)
  (hs:Region.noSelect ops=true) (hf:Region.free md ops listed i=true) (hr:(Region.ready md ops listed).contains i=true)
  (hQ:∀c a w,Q (.panic c) (a.put oi.dst v) w->Q (.panic c) a w) (hy:YieldsIf P ops S oi v a) (hS:S w)
  (h:fU P md ops Q S l fuel (listed.setIfInBounds i true) (a.put oi.dst v) w):fU P md ops Q S l (fuel+1) listed a w:=
 D5 hi hl (Region.noSelect_spec hs) hQ fuel listed a w (Region.free_spec hi hf) (by simpa using hr) hy hS h
theorem tkH(i:Nat){oi:Oper}{v:Value}{fuel:Nat}{listed:Array Bool}{a:Act}{w:World}(hi:ops[i]?=some oi)
  (hb:(Region.noSelect ops&&(Region.free md ops listed i&&(Region.ready md ops listed).contains i))=true)
  (hQ:∀c a w,Q (.panic c) (a.put oi.dst v) w->Q (.panic c) a w) (hw:Region.wanted oi (yielded ops a.tmps)=true) (hy:∀w,S w->(execOp a.eval oi).run P w=.ok (.value v) w) (hS:S w)
  (h:wpAnyH P md ops Q S fuel (listed.setIfInBounds i true) (a.put oi.dst v) w):wpAnyH P md ops Q S (fuel+1) listed a w:=by
 simp only[Bool.and_eq_true]at hb;exact wpAnyH_take hi hb.1 hb.2.1 hb.2.2 hQ (.inl ⟨hw,hy⟩) hS h
theorem Jt(i:Nat){oi:Oper}{v:Value}{fuel:Nat}{listed:Array Bool}{a:Act}{w:World}(hi:ops[i]?=some oi)
  (hb:(nB md ops l i&&(Region.noSelect ops&&(Region.free md ops listed i&&(Region.ready md ops listed).contains i)))=true)
  (hQ:∀c a w,Q (.panic c) (a.put oi.dst v) w->Q (.panic c) a w) (hw:Region.wanted oi (yielded ops a.tmps)=true) (hy:∀w,S w->(execOp a.eval oi).run P w=.ok (.value v) w) (hS:S w)
  (h:fU P md ops Q S l fuel (listed.setIfInBounds i true) (a.put oi.dst v) w):fU P md ops Q S l (fuel+1) listed a w:=by
 simp only[Bool.and_eq_true]at hb;exact aV hi hb.1 hb.2.1 hb.2.2.1 hb.2.2.2 hQ (.inl ⟨hw,hy⟩) hS h
theorem bQ{i:Nat}{o:Oper}{fuel:Nat}{listed:Array Bool}{a:Act}{w:World}(ho:ops[i]?=some o)(hr:Region.ready md ops listed= [i])
  (h:∀K':Act->World->Prop,Shut (∀a w,S w->(S w->fU P md ops Q S l fuel (listed.setIfInBounds i true) a w)->K' a w)->if Region.wanted o (yielded ops a.tmps)=true then Oper.wp P o a w K' Q else K' (a.put o.dst undef) w):fU P md ops Q S l (fuel+1) listed a w:=by
 refine⟨fun e=>(by rw[hr]at e;cases e),fun j hj=>?_⟩;rw[hr]at hj;obtain rfl:=List.mem_singleton.1 hj;exact wpOp_step ho fun K' hK=>h K' fun a w hS hW=>hK a w ⟨.inr hS,hW hS⟩
def AllReadyL(P:Program)(md:Region.Mode)(ops:Array Oper)(Q:Exit->Act->World->Prop)(S:World->Prop)(l:Nat)(fuel:Nat)(listed:Array Bool)(a:Act)(w:World)(rs:List Nat):Prop:=
 ∀i∈rs,wpOp P ops Q i (fun a' w'=>(i=l∨S w')∧fU P md ops Q S l fuel (listed.setIfInBounds i true) a' w') a w
theorem AllReadyL.nil{fuel:Nat}{listed:Array Bool}{a:Act}{w:World}:AllReadyL P md ops Q S l fuel listed a w []:=fun _ h=>by cases h
theorem AllReadyL.cons{fuel:Nat}{listed:Array Bool}{a:Act}{w:World}{i:Nat}{o:Oper}{rs:List Nat}(ho:ops[i]?=some o)
  (h:∀K':Act->World->Prop,Shut (∀a w,S w->(S w->fU P md ops Q S l fuel (listed.setIfInBounds i true) a w)->K' a w)->if Region.wanted o (yielded ops a.tmps)=true then Oper.wp P o a w K' Q else K' (a.put o.dst undef) w)
  (hs:AllReadyL P md ops Q S l fuel listed a w rs):AllReadyL P md ops Q S l fuel listed a w (i::rs):=fun j hj=>by
 rcases List.mem_cons.1 hj with rfl|hj
 ·exact wpOp_step ho fun K' hK=>h K' fun a w hS hW=>hK a w ⟨.inr hS,hW hS⟩
 ·exact hs j hj
theorem fK{o:Oper}{fuel:Nat}{listed:Array Bool}{a:Act}{w:World}(ho:ops[l]?=some o)(hr:Region.ready md ops listed= [l])(kF:Region.ready md ops (listed.setIfInBounds l true)= [])
  (h:∀K':Act->World->Prop,Shut (∀a w,Q .normal a w->K' a w)->if Region.wanted o (yielded ops a.tmps)=true then Oper.wp P o a w K' Q else K' (a.put o.dst undef) w):fU P md ops Q S l (fuel+1) listed a w:=by
 refine⟨fun e=>(by rw[hr]at e;cases e),fun j hj=>?_⟩;rw[hr]at hj;obtain rfl:=List.mem_singleton.1 hj;refine wpOp_step ho fun K' hK=>h K' fun a w hQ=>hK a w ⟨.inl rfl,?_⟩
 cases fuel with
 |zero=>exact⟨kF,hQ⟩
 |succ fuel=>exact⟨fun _=>hQ,by rw[kF];simp⟩
theorem dK{fuel:Nat}{listed:Array Bool}{a:Act}{w:World}(h:∀w',w'=w->fU P md ops Q S l fuel listed a w'):fU P md ops Q S l fuel listed a w:=h w rfl
theorem dN{id:Nat}{a:Act}{w:World}(l:Nat)(hm:P.follows .mixedOrders=true)(hS:S w.drew)
  (h:S w.drew->fU P .any ops Q S l ops.size (Array.replicate ops.size false) a w.drew):(Code.region id ops true).wp P Q a w:=
 wp_region_any hm (nF _ _ _ _ (h hS))
theorem cH(i:Nat){oi:Oper}{v:Value}{fuel:Nat}{listed:Array Bool}{a:Act}{w:World}(hi:ops[i]?=some oi)
  (hy:∀w,S w->(execOp a.eval oi).run P w=.ok (.value v) w) (hS:S w)
  (h:wpAnyH P md ops Q S fuel (listed.setIfInBounds i true) (a.put oi.dst v) w)
  (hb:(Region.noSelect ops&&(Region.free md ops listed i&&(Region.ready md ops listed).contains i))=true:=by kernel_rfl)
  (hw:Region.wanted oi (yielded ops a.tmps)=true:=by rfl) (hQ:∀c a w,Q (.panic c) (a.put oi.dst v) w->Q (.panic c) a w:=by exact fun _ _ _ h=>h):wpAnyH P md ops Q S (fuel+1) listed a w:=
 tkH i hi hb hQ hw hy hS h
theorem aW(i:Nat){oi:Oper}{v:Value}{fuel:Nat}{listed:Array Bool}{a:Act}{w:World}(hi:ops[i]?=some oi)(hS:S w)
  (h:wpAnyH P md ops Q S fuel (listed.setIfInBounds i true) (a.put oi.dst v) w) (hy:∀w,S w->(execOp a.eval oi).run P w=.ok (.value v) w:=by(intro bW aN;clear aN;go_simp;try with_reducible rfl))
  (hb:(Region.noSelect ops&&(Region.free md ops listed i&&(Region.ready md ops listed).contains i))=true:=by kernel_rfl)
  (hw:Region.wanted oi (yielded ops a.tmps)=true:=by rfl) (hQ:∀c a w,Q (.panic c) (a.put oi.dst v) w->Q (.panic c) a w:=by exact fun _ _ _ h=>h):wpAnyH P md ops Q S (fuel+1) listed a w:=
 tkH i hi hb hQ hw hy hS h
theorem cE(i:Nat){o:Oper}{fuel:Nat}{listed:Array Bool}{a:Act}{w:World}(hr:Region.ready md ops listed= [i])(ho:ops[i]?=some o)
  (h:∀K':Act->World->Prop,Shut (∀a w,S w->(S w->wpAnyH P md ops Q S fuel (listed.setIfInBounds i true) a w)->K' a w)->if Region.wanted o (yielded ops a.tmps)=true then Oper.wp P o a w K' Q else K' (a.put o.dst undef) w):wpAnyH P md ops Q S (fuel+1) listed a w:=
 wpAnyH_ready hr (by simp) (AllReadyH.cons ho h AllReadyH.nil)
end
end Bk
