/- Part of the proof. -/
import Derived.Test.YtakfdnnlhjhcfaaGreatDoorA8
set_option linter.unusedVariables false
set_option linter.unusedSimpArgs false
set_option maxRecDepth 100000
set_option maxHeartbeats 4000000
namespace Bk
open Go Go.RowKit
def sQ(ps:List Pc)(s:ByteArray)(n:Nat):Int:=match (fJ s ps).bind fun i=>ps[i]? with
 |none=>6
 |some p=>if n≠p.nv then 7 else 0
def cY(vs:List Vr)(ps:List Pc)(x:Nd):Int:=
 if x.k=2 then dT vs x.nm 1
 else if x.k=3 then dT vs x.nm 2
 else if x.k=4∨x.k=5∨x.k=44∨x.k=45 then dT vs x.nm 3
 else if x.k=54∨x.k=55 then(if(bK x.nm vs).isSome then 22 else 0)
 else if x.k=50∨x.k=51 then sQ ps x.nm x.n
 else 0
theorem wG{s:ByteArray}:∀{l:List Pc}{i:Nat},fJ s l=some i->i<l.length
 | [],_,h=>by simp[fJ]at h
 |v::l,i,h=>by
  simp only[fJ]at h;by_cases hn:(v.nm.toList==s.toList)=true
  ·rw[if_pos hn]at h;simp at h;subst h;simp
  ·rw[if_neg hn]at h
   cases h2:fJ s l with
   |none=>rw[h2]at h;simp at h
   |some j=>rw[h2]at h;simp at h;subst h;have:=wG h2;simp;omega
end Bk
namespace Go.Proofs.YtakfdnnlhjhcfaaGreatDoor
open Go.RowKit Bk
theorem MD{w:World}{B d:Nat}(bG:B<=w.heap.size)(V:Option Addr)(nv cv:Nat)(Q:Option Addr)(nq cq:Nat)(ps:List Pc)(hq:PrsAt w B d Q ps)(hnq:ps.length=nq)(hnq2:nq<=17592186043904)(m:Nd){w0:World}{B0:Nat}(tN:B0<=w0.heap.size)(A:Option Addr)(na ca:Nat)(vs:List Vr)(hv:VsAt w0 B0 A vs)(xH:vs.length=na)(qF:na<=17592186043904)(x:Nd)(xJ:x.n<=17592186043904)(hk:x.k=2∨x.k=3∨x.k=4∨x.k=5∨x.k=44∨x.k=45∨x.k=54∨x.k=55)(w':World)(hb:Below B w w')(xA:Below B0 w0 w'):
  Calls Tryz.prog 58 #[.agg #[.slice V nv cv,.slice Q nq cq,.int .u8 m.k,.int .i64 m.num,.string m.nm,.slice m.A m.n m.cap],.agg #[.int .u8 x.k,.int .i64 x.num,.string x.nm,.slice x.A x.n x.cap],.slice A na ca] w' fun en w''=>en=.returned (.int .i64 (cY vs ps x))∧Below w'.heap.size w' w'':=by
 have HU:Hid (∀kd W,Below B0 w0 W->Calls Tryz.prog 94 #[.slice A na ca,.string x.nm,.int .u8 kd] W fun en w''=>en=.returned (.int .i64 (dT vs x.nm kd))∧Below W.heap.size W w''):=aA fun kd W hW=>Ot tN A na ca vs hv xH qF x.nm kd W hW
 have HF:Hid (∀W,Below B0 w0 W->Calls Tryz.prog 31 #[.slice A na ca,.string x.nm] W fun en w''=>en=.returned (.int .i64 (if(bK x.nm vs).isSome then 22 else 0))∧Below W.heap.size W w''):=aA fun W hW=>z7 tN A na ca vs hv xH qF x.nm W hW
 have HB:=aA xA;have bC:B0<=w'.heap.size:=by have:=xA.size;omega
 obtain⟨r,hr⟩:∃r,cY vs ps x=r:=⟨_,rfl⟩;have HR:=aA hr;rw[hr];clear hq hnq hnq2 hv xH qF hb xA hr xJ;obtain⟨mk,mnum,mnm,mA,mn,mcap⟩:=m;obtain⟨k,num,nm,XA,n,cap⟩:=x;dsimp only at *;rcases hk with rfl|rfl|rfl|rfl|rfl|rfl|rfl|rfl
 all_goals
  go_enter Tryz.func58,Tryz.ntmps58;go_wp2_with fail
  first
   |refine(HU.out _ _ (HB.out.trans ((aM _ _).alloc (by omega) _ |>.alloc (by simp;omega) _))).mono ?_
   |refine(HF.out _ (HB.out.trans ((aM _ _).alloc (by omega) _ |>.alloc (by simp;omega) _))).mono ?_
  rintro en w1 ⟨he,aG⟩;have aO:Hid (Below w'.heap.size w' w1):=aA (Below.next ((aM _ _).alloc (aH _) _ |>.alloc (by simp) _) aG);have he2:en=.returned (.int .i64 r):=by rw[he,<-HR.out];simp[cY]
  subst he2;clear aG he;go_wp2_with fail;go_ret;exact⟨rfl,aO.out⟩
theorem MC{w:World}{B d:Nat}(bG:B<=w.heap.size)(V:Option Addr)(nv cv:Nat)(Q:Option Addr)(nq cq:Nat)(ps:List Pc)(hq:PrsAt w B d Q ps)(hnq:ps.length=nq)(hnq2:nq<=17592186043904)(m:Nd){w0:World}{B0:Nat}(tN:B0<=w0.heap.size)(A:Option Addr)(na ca:Nat)(vs:List Vr)(hv:VsAt w0 B0 A vs)(xH:vs.length=na)(qF:na<=17592186043904)(x:Nd)(xJ:x.n<=17592186043904)(hk:¬(x.k=2∨x.k=3∨x.k=4∨x.k=5∨x.k=44∨x.k=45∨x.k=54∨x.k=55))(yN:¬(x.k=50∨x.k=51))(w':World):
  Calls Tryz.prog 58 #[.agg #[.slice V nv cv,.slice Q nq cq,.int .u8 m.k,.int .i64 m.num,.string m.nm,.slice m.A m.n m.cap],.agg #[.int .u8 x.k,.int .i64 x.num,.string x.nm,.slice x.A x.n x.cap],.slice A na ca] w' fun en w''=>en=.returned (.int .i64 (cY vs ps x))∧Below w'.heap.size w' w'':=by
 have h0:cY vs ps x=0:=by
  unfold cY;rw[if_neg (by omega),if_neg (by omega),if_neg (by omega),if_neg (by omega),if_neg (by omega)]
 rw[h0];have h1:(x.k==2)=false:=by simp;omega
 have h2:(x.k==3)=false:=by simp;omega
 have h3:(x.k==4)=false:=by simp;omega
 have h4:(x.k==5)=false:=by simp;omega
 have h5:(x.k==44)=false:=by simp;omega
 have h6:(x.k==45)=false:=by simp;omega
 have h7:(x.k==54)=false:=by simp;omega
 have h8:(x.k==55)=false:=by simp;omega
 have h9:(x.k==50)=false:=by simp;omega
 have h10:(x.k==51)=false:=by simp;omega
 clear hq hnq hnq2 hv xH qF xJ h0 hk yN;obtain⟨mk,mnum,mnm,mA,mn,mcap⟩:=m;obtain⟨k,num,nm,XA,n,cap⟩:=x;dsimp only at *;go_enter Tryz.func58,Tryz.ntmps58;go_wp2_with fail;go_ret;exact⟨rfl,by go_grown⟩
theorem J4(ps:List Pc)(s:ByteArray)(n:Nat):(fB s ps= -1∧sQ ps s n=6)∨∃(i:Nat)(p:Pc),ps[i]?=some p∧fB s ps=(i:Int)∧sQ ps s n=if n≠p.nv then 7 else 0:=by
 unfold fB sQ;cases h:fJ s ps with
 |none=>exact .inl ⟨rfl,rfl⟩
 |some i=>
  have hi:=wG h;exact .inr ⟨i,ps[i],dR hi,rfl,by simp[dR hi]⟩
theorem LZ{w:World}{B d:Nat}(bG:B<=w.heap.size)(V:Option Addr)(nv cv:Nat)(Q:Option Addr)(nq cq:Nat)(ps:List Pc)(hq:PrsAt w B d Q ps)(hnq:ps.length=nq)(hnq2:nq<=17592186043904)(m:Nd){w0:World}{B0:Nat}(tN:B0<=w0.heap.size)(A:Option Addr)(na ca:Nat)(vs:List Vr)(hv:VsAt w0 B0 A vs)(xH:vs.length=na)(qF:na<=17592186043904)(x:Nd)(xJ:x.n<=17592186043904)(hk:x.k=50∨x.k=51)(w':World)(hb:Below B w w'):
  Calls Tryz.prog 58 #[.agg #[.slice V nv cv,.slice Q nq cq,.int .u8 m.k,.int .i64 m.num,.string m.nm,.slice m.A m.n m.cap],.agg #[.int .u8 x.k,.int .i64 x.num,.string x.nm,.slice x.A x.n x.cap],.slice A na ca] w' fun en w''=>en=.returned (.int .i64 (cY vs ps x))∧Below w'.heap.size w' w'':=by
 have HP:Hid (∀W,Below B w W->Calls Tryz.prog 32 #[.agg #[.slice V nv cv,.slice Q nq cq,.int .u8 m.k,.int .i64 m.num,.string m.nm,.slice m.A m.n m.cap],.string x.nm] W fun en w''=>en=.returned (.int .i64 (fB x.nm ps))∧Below W.heap.size W w''):=aA fun W hW=>zZ bG V nv cv Q nq cq ps hq hnq hnq2 m x.nm W hW
 have HB:=aA hb;have HQ:=aA hq;have nH:=aA hnq;have bC:B<=w'.heap.size:=by have:=hb.size;omega
 have h0:cY vs ps x=sQ ps x.nm x.n:=by
  unfold cY;rw[if_neg (by omega),if_neg (by omega),if_neg (by omega),if_neg (by omega),if_pos hk]
 rw[h0];have HC:=aA (J4 ps x.nm x.n);obtain⟨r,hr⟩:∃r,sQ ps x.nm x.n=r:=⟨_,rfl⟩;obtain⟨ri,hri⟩:∃ri,fB x.nm ps=ri:=⟨_,rfl⟩;rw[hr]at HC⊢;rw[hri]at HP HC;clear hq hnq hv xH qF hb hr h0 hri;obtain⟨mk,mnum,mnm,mA,mn,mcap⟩:=m;obtain⟨k,num,nm,XA,n,cap⟩:=x;dsimp only at *;rcases hk with rfl|rfl
 ·go_enter Tryz.func58,Tryz.ntmps58
  go_upto_region 1 with fail;refine aB ?_;intro w1 aF;have aG:Below w'.heap.size w' w1:=by rw[aF];go_grown
  have K1:Blk w1 w'.heap.size 28 #[.slice V nv cv,.slice Q nq cq,.int .u8 mk,.int .i64 mnum,.string mnm,.slice mA mn mcap]:=by rw[aF];exact aQ
  have K2:Blk w1 (w'.heap.size+1) 26 #[.int .u8 50,.int .i64 num,.string nm,.slice XA n cap]:=by rw[aF];exact aQ
  have aO:=aA aG;have a9:=aA K1;have bI:=aA K2;clear aF aG;obtain⟨aL,aJ,aK⟩:=K1.open_;obtain⟨eL,eC,eF⟩:=K2.open_;clear K1 K2;go_wp2_with fail;refine(HP.out w1 (HB.out.trans (aO.out.mono bC))).mono ?_;rintro en w2 ⟨rfl,hb2⟩;have aP:=aA (aO.out.next hb2);have K1:=a9.out.next hb2;have K2:=bI.out.next hb2;clear aJ aL aK eC eL eF hb2 a9 bI;obtain⟨aL,aJ,aK⟩:=K1.open_;obtain⟨eL,eC,eF⟩:=K2.open_;clear K1 K2;rcases HC.out with⟨h1,h2⟩|⟨i,p,hp,h1,h2⟩
  ·subst h1;subst h2
   go_wp2_with fail;go_ret;exact⟨rfl,aP.out⟩
  ·obtain⟨⟨g,o,eY,cR,_,c1,_⟩,_,_,_,Rb,_⟩:=HQ.out i p hp
   subst eY;have mT:i<nq:=by have:=(lgS.1 hp).1;have:=nH.out;omega
   have d1:=((HB.out.trans (aP.out.mono bC)).cell (p:=⟨g,o+i*6+1,none⟩) cR).trans c1;obtain⟨pn,pV,pnv,pcv,pvs,pb⟩:=p;dsimp only at *;have j0:(0:Int)<=(i:Int):=by omega
   have j1:(i:Int)<(nq:Int):=by omega
   subst h1;have HR:=aA h2;clear h2 c1 hp;by_cases hn:n=pnv
   ·have e1:((n:Int) !=(pnv:Int))=false:=by simp;omega
    obtain rfl:r=0:=by rw[HR.out];simp[hn]
    go_wp2_with fail;go_region;go_wp2_with fail;go_ret;exact⟨rfl,aP.out.trans (by go_grown)⟩
   ·have e1:((n:Int) !=(pnv:Int))=true:=by simp;omega
    obtain rfl:r=7:=by rw[HR.out,if_pos hn]
    go_wp2_with fail;go_region;go_wp2_with fail;go_ret;exact⟨rfl,aP.out.trans (by go_grown)⟩
 ·go_enter Tryz.func58,Tryz.ntmps58
  go_upto_region 1 with fail;refine aB ?_;intro w1 aF;have aG:Below w'.heap.size w' w1:=by rw[aF];go_grown
  have K1:Blk w1 w'.heap.size 28 #[.slice V nv cv,.slice Q nq cq,.int .u8 mk,.int .i64 mnum,.string mnm,.slice mA mn mcap]:=by rw[aF];exact aQ
  have K2:Blk w1 (w'.heap.size+1) 26 #[.int .u8 51,.int .i64 num,.string nm,.slice XA n cap]:=by rw[aF];exact aQ
  have aO:=aA aG;have a9:=aA K1;have bI:=aA K2;clear aF aG;obtain⟨aL,aJ,aK⟩:=K1.open_;obtain⟨eL,eC,eF⟩:=K2.open_;clear K1 K2;go_wp2_with fail;refine(HP.out w1 (HB.out.trans (aO.out.mono bC))).mono ?_;rintro en w2 ⟨rfl,hb2⟩;have aP:=aA (aO.out.next hb2);have K1:=a9.out.next hb2;have K2:=bI.out.next hb2;clear aJ aL aK eC eL eF hb2 a9 bI;obtain⟨aL,aJ,aK⟩:=K1.open_;obtain⟨eL,eC,eF⟩:=K2.open_;clear K1 K2;rcases HC.out with⟨h1,h2⟩|⟨i,p,hp,h1,h2⟩
  ·subst h1;subst h2
   go_wp2_with fail;go_ret;exact⟨rfl,aP.out⟩
  ·obtain⟨⟨g,o,eY,cR,_,c1,_⟩,_,_,_,Rb,_⟩:=HQ.out i p hp
   subst eY;have mT:i<nq:=by have:=(lgS.1 hp).1;have:=nH.out;omega
   have d1:=((HB.out.trans (aP.out.mono bC)).cell (p:=⟨g,o+i*6+1,none⟩) cR).trans c1;obtain⟨pn,pV,pnv,pcv,pvs,pb⟩:=p;dsimp only at *;have j0:(0:Int)<=(i:Int):=by omega
   have j1:(i:Int)<(nq:Int):=by omega
   subst h1;have HR:=aA h2;clear h2 c1 hp;by_cases hn:n=pnv
   ·have e1:((n:Int) !=(pnv:Int))=false:=by simp;omega
    obtain rfl:r=0:=by rw[HR.out];simp[hn]
    go_wp2_with fail;go_region;go_wp2_with fail;go_ret;exact⟨rfl,aP.out.trans (by go_grown)⟩
   ·have e1:((n:Int) !=(pnv:Int))=true:=by simp;omega
    obtain rfl:r=7:=by rw[HR.out,if_pos hn]
    go_wp2_with fail;go_region;go_wp2_with fail;go_ret;exact⟨rfl,aP.out.trans (by go_grown)⟩
theorem ME{w:World}{B d:Nat}(bG:B<=w.heap.size)(V:Option Addr)(nv cv:Nat)(Q:Option Addr)(nq cq:Nat)(ps:List Pc)(hq:PrsAt w B d Q ps)(hnq:ps.length=nq)(hnq2:nq<=17592186043904)(m:Nd){w0:World}{B0:Nat}(tN:B0<=w0.heap.size)(A:Option Addr)(na ca:Nat)(vs:List Vr)(hv:VsAt w0 B0 A vs)(xH:vs.length=na)(qF:na<=17592186043904)(x:Nd)(xJ:x.n<=17592186043904)(w':World)(hb:Below B w w')(xA:Below B0 w0 w'):
  Calls Tryz.prog 58 #[.agg #[.slice V nv cv,.slice Q nq cq,.int .u8 m.k,.int .i64 m.num,.string m.nm,.slice m.A m.n m.cap],.agg #[.int .u8 x.k,.int .i64 x.num,.string x.nm,.slice x.A x.n x.cap],.slice A na ca] w' fun en w''=>en=.returned (.int .i64 (cY vs ps x))∧Below w'.heap.size w' w'':=by
 by_cases h1:x.k=2∨x.k=3∨x.k=4∨x.k=5∨x.k=44∨x.k=45∨x.k=54∨x.k=55
 ·exact MD bG V nv cv Q nq cq ps hq hnq hnq2 m tN A na ca vs hv xH qF x xJ h1 w' hb xA
 by_cases h2:x.k=50∨x.k=51
 ·exact LZ bG V nv cv Q nq cq ps hq hnq hnq2 m tN A na ca vs hv xH qF x xJ h2 w' hb
 ·exact MC bG V nv cv Q nq cq ps hq hnq hnq2 m tN A na ca vs hv xH qF x xJ h1 h2 w'
end Go.Proofs.YtakfdnnlhjhcfaaGreatDoor
set_option maxHeartbeats 17592186043904
namespace Bk
open Go Go.RowKit
def KO(ps:List Pc)(s:ByteArray)(n i:Nat)(v:Vr):Int:=match (fJ s ps).bind fun i=>ps[i]? with
 |none=>0
 |some p=>if n≠p.nv then 0 else match p.vs[i]? with
  |none=>0
  |some q=>if v.k≠q.k∨v.len≠q.len then 7 else 0
def zO(vs:List Vr)(ps:List Pc)(s:ByteArray)(n i:Nat)(a:ByteArray):Int:=match (bK a vs).bind fun i=>vs[i]? with
 |none=>6
 |some v=>KO ps s n i v
theorem X9{vs:List Vr}{ps:List Pc}{s:ByteArray}{n i:Nat}{a:ByteArray}{e:Ending}(h:Go.Proofs.YtakfdnnlhjhcfaaGreatDoor.FindX vs a e):(∃v:Vr,zO vs ps s n i a=KO ps s n i v∧e=.returned (.tuple #[.agg #[.string v.nm,.int .u8 v.k,.int .i64 v.len],.bool true]))∨(zO vs ps s n i a=6∧e=.returned (.tuple #[.agg #[.string ⟨#[]⟩,.int .u8 0,.int .i64 0],.bool false])):=by
 unfold Go.Proofs.YtakfdnnlhjhcfaaGreatDoor.FindX at h;unfold zO;cases hf:(bK a vs).bind fun i=>vs[i]? with
 |none=>rw[hf]at h;exact .inr ⟨rfl,h⟩
 |some v=>rw[hf]at h;exact .inl ⟨v,rfl,h⟩
theorem X8(ps:List Pc)(s:ByteArray)(n i:Nat)(v:Vr):(fB s ps= -1∧KO ps s n i v=0)∨∃(j:Nat)(p:Pc),ps[j]?=some p∧fB s ps=(j:Int)∧KO ps s n i v=(if n≠p.nv then 0 else match p.vs[i]? with
  |none=>0
  |some q=>if v.k≠q.k∨v.len≠q.len then 7 else 0):=by
 unfold fB KO;cases h:fJ s ps with
 |none=>exact .inl ⟨rfl,rfl⟩
 |some j=>
  have hi:=wG h;exact .inr ⟨j,ps[j],dR hi,rfl,by simp[dR hi]⟩
end Bk
namespace Go.Proofs.YtakfdnnlhjhcfaaGreatDoor
open Go.RowKit Bk
theorem Em{w:World}{B d:Nat}(bG:B<=w.heap.size)(V:Option Addr)(nv cv:Nat)(Q:Option Addr)(nq cq:Nat)(ps:List Pc)(hq:PrsAt w B d Q ps)(hnq:ps.length=nq)(hnq2:nq<=17592186043904)(m:Nd){w0:World}{B0:Nat}(tN:B0<=w0.heap.size)(A:Option Addr)(na ca:Nat)(vs:List Vr)(hv:VsAt w0 B0 A vs)(xH:vs.length=na)(qF:na<=17592186043904)(x y:Nd)(xJ:x.n<=17592186043904)(i:Nat)(hi:i<x.n)(cS:Kid w B x i y)(w':World)(hb:Below B w w')(xA:Below B0 w0 w'):
  Calls Tryz.prog 60 #[.agg #[.slice V nv cv,.slice Q nq cq,.int .u8 m.k,.int .i64 m.num,.string m.nm,.slice m.A m.n m.cap],.agg #[.int .u8 x.k,.int .i64 x.num,.string x.nm,.slice x.A x.n x.cap],.int .i64 i,.slice A na ca] w' fun en w''=>en=.returned (.int .i64 (zO vs ps x.nm x.n i y.nm))∧Below w'.heap.size w' w'':=by
 have HF:Hid (∀W,Below B0 w0 W->Calls Tryz.prog 55 #[.slice A na ca,.string y.nm] W fun en w''=>FindX vs y.nm en∧Below W.heap.size W w''):=aA fun W hW=>qD tN A na ca vs hv xH qF y.nm W hW
 have HP:Hid (∀W,Below B w W->Calls Tryz.prog 32 #[.agg #[.slice V nv cv,.slice Q nq cq,.int .u8 m.k,.int .i64 m.num,.string m.nm,.slice m.A m.n m.cap],.string x.nm] W fun en w''=>en=.returned (.int .i64 (fB x.nm ps))∧Below W.heap.size W w''):=aA fun W hW=>zZ bG V nv cv Q nq cq ps hq hnq hnq2 m x.nm W hW
 have HB:=aA hb;have HB0:=aA xA;have HQ:=aA hq;have nH:=aA hnq;have bC:B<=w'.heap.size:=by have:=hb.size;omega
 have aAe:B0<=w'.heap.size:=by have:=xA.size;omega
 have HC:Hid (∀e,FindX vs y.nm e->_):=aA fun e he=>X9 (ps:=ps) (s:=x.nm) (n:=x.n) (i:=i) he
 obtain⟨r,hr⟩:∃r,zO vs ps x.nm x.n i y.nm=r:=⟨_,rfl⟩;rw[hr]at HC⊢;have HD:=aA (fun v=>X8 ps x.nm x.n i v);obtain⟨ri,hri⟩:∃ri,fB x.nm ps=ri:=⟨_,rfl⟩;rw[hri]at HP HD;have hXX:=hb;have gE:=aA cS;clear hq hnq hv xH qF hb xA hr hri cS;obtain⟨mk,mnum,mnm,mA,mn,mcap⟩:=m;obtain⟨k,num,nm,XA,n,cap⟩:=x;dsimp only at *;go_enter Tryz.func60,Tryz.ntmps60;go_upto_region 1 with fail;refine aB ?_;intro w1 aF;have aG:Below w'.heap.size w' w1:=by rw[aF];go_grown
 have K1:Blk w1 w'.heap.size 28 #[.slice V nv cv,.slice Q nq cq,.int .u8 mk,.int .i64 mnum,.string mnm,.slice mA mn mcap]:=by rw[aF];exact aQ
 have K2:Blk w1 (w'.heap.size+1) 26 #[.int .u8 k,.int .i64 num,.string nm,.slice XA n cap]:=by rw[aF];exact aQ
 obtain⟨g,o,eY,cR,c0,c1,c2,c3⟩:=gE.out.cells (HB.out.trans (aG.mono (by omega)));dsimp only at eY;subst eY;have aO:=aA aG;have a9:=aA K1;have bI:=aA K2;have j0:(0:Int)<=(i:Int):=by omega
 have j1:(i:Int)<(n:Int):=by omega
 clear aF aG c0 c1 c3 hXX;obtain⟨eL,eC,eF⟩:=K2.open_;clear K1 K2;go_wp2_with fail;refine(HF.out w1 (HB0.out.trans (aO.out.mono aAe))).mono ?_;rintro en w2 ⟨hf,hb2⟩;have aP:=aA (aO.out.next hb2);have K1:=a9.out.next hb2;have K2:=bI.out.next hb2;clear eC eL eF hb2 a9 bI c2;rcases HC.out en hf with⟨v,h1,rfl⟩|⟨rfl,rfl⟩;rotate_left
 ·clear hf
  go_wp2_with fail;go_ret;exact⟨rfl,by have:=aP.out.size;exact aP.out.trans (by go_grown)⟩
 clear hf;have Ks:=aA (HD.out v);rw[<-h1]at Ks;obtain⟨vn,vk,vl⟩:=v;dsimp only at *;clear h1 HC HD;have a9:=aA K1;have bI:=aA K2;clear K1 K2;go_upto_region 2 with fail;refine aB ?_;intro w3 dP;have hs2:=aP.out.size;have aT:Below w2.heap.size w2 w3:=by rw[dP];go_grown
 have K3:Blk w3 w2.heap.size 72 #[.string vn,.int .u8 vk,.int .i64 vl]:=by rw[dP];exact aQ
 have K1:=a9.out.next aT;have K2:=bI.out.next aT;have bD:=aA (aP.out.next aT);have a9:=aA K1;have bI:=aA K2;have dD:=aA K3;clear dP aT K3;obtain⟨aL,aJ,aK⟩:=K1.open_;obtain⟨eL,eC,eF⟩:=K2.open_;clear K1 K2;go_wp2_with fail;refine(HP.out w3 (HB.out.trans (bD.out.mono bC))).mono ?_;rintro en w4 ⟨rfl,bV⟩;have dQ:=aA (bD.out.next bV);have K1:=a9.out.next bV;have K2:=bI.out.next bV;have K3:=dD.out.next bV;clear aJ aL aK eC eL eF bV a9 bI dD;have a9:=aA K1;have ZO:=dQ.out.size;have IZ:=K3.lt;have dD:=aA K3;clear K3;obtain⟨aL,aJ,aK⟩:=K1.open_;obtain⟨eL,eC,eF⟩:=K2.open_;clear K1 K2;rcases Ks.out with⟨h1,h2⟩|⟨j,p,hp,h1,h2⟩
 ·subst h1;subst h2
  go_wp2_with fail;go_region;go_wp2_with fail;go_ret;exact⟨rfl,dQ.out.trans (by go_grown)⟩
 ·obtain⟨⟨pg,po,eY,N8,_,c1,_⟩,oJ,WA,_,Rb,_⟩:=HQ.out j p hp
  subst eY;have AG:j<nq:=by have:=(lgS.1 hp).1;have:=nH.out;omega
  have hX4:=HB.out.trans (dQ.out.mono bC);have d1:=(hX4.cell (p:=⟨pg,po+j*6+1,none⟩) N8).trans c1;have lZ:=aA hX4;obtain⟨pn,pV,pnv,pcv,pvs,pb⟩:=p;dsimp only at *;have j2:(0:Int)<=(j:Int):=by omega
  have j3:(j:Int)<(nq:Int):=by omega
  subst h1;have HR:=aA h2;have SS:=aA oJ;have FA:=aA WA;clear h2 c1 hp hX4 oJ WA Ks HQ HP HF gE;by_cases hn:n=pnv
  ·have e1:((n:Int) !=(pnv:Int))=false:=by simp;omega
   obtain⟨q,hq⟩:∃q,pvs[i]?=some q:=⟨_,dR (by have:=FA.out;omega)⟩;obtain⟨qg,qo,hA3,Rl,e_0,e_1,e_2⟩:=SS.out i q hq;subst hA3;have nJ:Hid (r=if vk≠q.k∨vl≠q.len then 7 else 0):=aA (by rw[HR.out,if_neg (by simpa using hn),hq]);have f0:=(lZ.out.cell (p:=⟨qg,qo+i*3,none⟩) Rl).trans e_0;have f1:=(lZ.out.cell (p:=⟨qg,qo+i*3+1,none⟩) Rl).trans e_1;have f2:=(lZ.out.cell (p:=⟨qg,qo+i*3+2,none⟩) Rl).trans e_2;obtain⟨qn,qk,ql⟩:=q;dsimp only at *;clear e_0 e_1 e_2 hq HR SS FA lZ;have j4:(i:Int)<(pnv:Int):=by omega
   have La:=aA f0;have iL:=aA f1;have lG:=aA f2;have Ws:=aA j4;have Ym:=aA Rl;have Ks:=aA d1;have aAE:=N8;clear f0 f1 f2 j4 hn Rl;go_wp2_with fail;go_quiet (fail);go_upto_region 7 with fail;refine aB ?_;intro w5 jS;have cW:Below w4.heap.size w4 w5:=by rw[jS];exact Bk.drewN_ (aM _ _) _
   have gL:=aA (dQ.out.next cW);have Be:=aA cW;have VN:B<=w4.heap.size:=fC bC ZO;have K1:=a9.out.next cW;have K3:=dD.out.next cW;have f0:=(cW.cell (p:=⟨qg,qo+i*3,none⟩) (dX Ym.out VN)).trans La.out;have f1:=(cW.cell (p:=⟨qg,qo+i*3+1,none⟩) (dX Ym.out VN)).trans iL.out;have f2:=(cW.cell (p:=⟨qg,qo+i*3+2,none⟩) (dX Ym.out VN)).trans lG.out;have d1:=(cW.cell (p:=⟨pg,po+j*6+1,none⟩) (dX aAE VN)).trans Ks.out;have j4:=Ws.out;have hs5:=gL.out.size;have IZ:=K3.lt;clear jS cW aJ aL aK eC eL eF;obtain⟨aL,aJ,aK⟩:=K1.open_;obtain⟨rJ,mK,mJ⟩:=K3.open_;clear K1 K3;obtain⟨s1,hs1⟩:∃s,(vk !=qk)=s:=⟨_,rfl⟩;obtain⟨s2,hs2'⟩:∃s,(vl !=ql)=s:=⟨_,rfl⟩;have HS:Hid (r=if(s1||s2)=true then 7 else 0):=aA (by rw[nJ.out,<-hs1,<-hs2'];simp);have hK3:=aA (dD.out.next Be.out);go_upto_region 8 with fail;refine aB ?_;intro w6 hw6;have mC:Below w5.heap.size w5 w6:=by rw[hw6];go_grown
   have K4:Blk w6 w5.heap.size 72 #[.string qn,.int .u8 qk,.int .i64 ql]:=by rw[hw6];exact aQ
   have K3:=hK3.out.next mC;have mG:=aA (gL.out.next mC);have Qs:=K4.lt;have hl5:=K3.lt;clear hw6 mC aJ aL aK mK rJ mJ f0 f1 f2 d1;obtain⟨rJ,mK,mJ⟩:=K3.open_;obtain⟨tE,s9,s6⟩:=K4.open_;clear K3 K4;cases s1<;>cases s2
   ·obtain rfl:r=0:=by rw[HS.out];rfl
    go_wp2_with fail
    try (go_quiet (fail))
    try (go_wp2_with fail)
    go_ret;exact⟨rfl,mG.out⟩
   all_goals
    obtain rfl:r=7:=by rw[HS.out];rfl
    go_wp2_with fail
    try (go_quiet (fail))
    try (go_wp2_with fail)
    go_ret;exact⟨rfl,mG.out⟩
  ·have e1:((n:Int) !=(pnv:Int))=true:=by simp;omega
   obtain rfl:r=0:=by rw[HR.out,if_pos hn]
   go_wp2_with fail;go_quiet (fail);go_wp2_with fail;go_ret;exact⟨rfl,Bk.drewN_ dQ.out _⟩
end Go.Proofs.YtakfdnnlhjhcfaaGreatDoor
