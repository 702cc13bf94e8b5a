/- Part of the proof. -/
import Derived.Test.YtakfdnnlhjhcfaaGreatDoorA3
set_option linter.unusedVariables false
set_option linter.unusedSimpArgs false
set_option maxRecDepth 100000
set_option maxHeartbeats 4000000
namespace Go.Proofs.YtakfdnnlhjhcfaaGreatDoor
open Go.RowKit Bk
theorem Oo{w:World}{B d:Nat}(bG:B<=w.heap.size)(x:Nd)(hk:x.k=50∨x.k=51)(hx:KV w B (d+1) x)(w':World)(hb:Below B w w'):
  Calls Tryz.prog 93 #[.agg #[.int .u8 x.k,.int .i64 x.num,.string x.nm,.slice x.A x.n x.cap]] w' fun en w''=>en=.returned (.bool ((decide (x.num=0)&&aS x.nm)&&(decide (x.n<=8)&&bX (fun i=>T4 w B (bO w B x i)) x.n)))∧Below w'.heap.size w' w'':=by
 have HP:Hid (∀W,Calls Tryz.prog 123 #[.agg #[.int .u8 x.k,.int .i64 x.num,.string x.nm,.slice x.A x.n x.cap]] W fun e w'=>e=.returned (.bool (decide (x.num=0)&&aS x.nm))∧Below W.heap.size W w'):=aA fun W=>jP x W
 have HE:Hid (∀W,Below B w W->Calls Tryz.prog 92 #[.slice x.A x.n x.cap,.func (.func 124) #[] #[]] W fun en w''=>en=.returned (.bool (bX (fun i=>T4 w B (bO w B x i)) x.n))∧Below W.heap.size W w''):=aA fun W hW=>
  L9 bG x (by obtain⟨_,_,h1,h2,_,_⟩:=hx;unfold maxLen at h2;omega) 124 _ (fun _ _=>rfl) (fun i hi=>by obtain⟨h1,h2⟩:=bE hx hi;exact⟨_,h1,fun W hW=>UX bG _ h2 W hW⟩) W hW
 obtain⟨pb,hpb⟩:∃pb,(decide (x.num=0)&&aS x.nm)=pb:=⟨_,rfl⟩;obtain⟨rk,hrk⟩:∃rk,bX (fun i=>T4 w B (bO w B x i)) x.n=rk:=⟨_,rfl⟩;rw[hpb]at HP⊢;rw[hrk]at HE⊢;have HB:=aA hb;have bC:B<=w'.heap.size:=by have:=hb.size;omega
 clear hx hb hpb hrk;obtain⟨k,num,nm,A,n,cap⟩:=x;dsimp only at *;obtain⟨r8,hr8⟩:∃r8,decide (n<=8)=r8:=⟨_,rfl⟩;have h8:decide ((n:Int)<=8)=r8:=by rw[<-hr8];simp;omega
 rw[hr8];clear hr8;rcases hk with rfl|rfl
 ·go_enter Tryz.func93,Tryz.ntmps93
  go_upto_region 1 with fail;refine aB ?_;intro w1 aF;have aG:Below w'.heap.size w' w1:=by rw[aF];go_grown
  have aO:=aA aG;have K1:=aA (Blk.new w' 26 #[.int .u8 50,.int .i64 num,.string nm,.slice A n cap]);rw[<-aF]at K1;clear aF aG;obtain⟨aL,aJ,aK⟩:=K1.out.open_;go_wp2_with fail;refine(HP.out w1).mono ?_;rintro en w2 ⟨rfl,hb2⟩;have aP:=aA (aO.out.next hb2);have K2:=K1.out.next hb2;clear aJ aL aK hb2;obtain⟨aL,aJ,aK⟩:=K2.open_;clear K2;cases pb with
  |false=>
   go_wp2_with fail;go_ret;exact⟨by simp,aP.out⟩
  |true=>
   cases r8 with
   |false=>
    go_wp2_with fail;go_ret;exact⟨by simp,aP.out⟩
   |true=>
    go_wp2_with fail;refine(HE.out w2 (HB.out.trans (aP.out.mono bC))).mono ?_;rintro en w3 ⟨rfl,aT⟩;have bD:=aA (aP.out.next aT);clear aJ aL aK aT;go_wp2_with fail;go_ret;exact⟨by simp,bD.out⟩
 ·go_enter Tryz.func93,Tryz.ntmps93
  go_upto_region 1 with fail;refine aB ?_;intro w1 aF;have aG:Below w'.heap.size w' w1:=by rw[aF];go_grown
  have aO:=aA aG;have K1:=aA (Blk.new w' 26 #[.int .u8 51,.int .i64 num,.string nm,.slice A n cap]);rw[<-aF]at K1;clear aF aG;obtain⟨aL,aJ,aK⟩:=K1.out.open_;go_wp2_with fail;refine(HP.out w1).mono ?_;rintro en w2 ⟨rfl,hb2⟩;have aP:=aA (aO.out.next hb2);have K2:=K1.out.next hb2;clear aJ aL aK hb2;obtain⟨aL,aJ,aK⟩:=K2.open_;clear K2;cases pb with
  |false=>
   go_wp2_with fail;go_ret;exact⟨by simp,aP.out⟩
  |true=>
   cases r8 with
   |false=>
    go_wp2_with fail;go_ret;exact⟨by simp,aP.out⟩
   |true=>
    go_wp2_with fail;refine(HE.out w2 (HB.out.trans (aP.out.mono bC))).mono ?_;rintro en w3 ⟨rfl,aT⟩;have bD:=aA (aP.out.next aT);clear aJ aL aK aT;go_wp2_with fail;go_ret;exact⟨by simp,bD.out⟩
theorem Oq{w:World}(x:Nd)(h1:(x.k==40)=false)(h2:(x.k==41)=false)(h3:(x.k==42)=false)(h4:(x.k==56)=false)(h5:(x.k==43)=false)(h6:(x.k==44)=false)(h7:(x.k==45)=false)(h8:(x.k==46)=false)(h9:(x.k==47)=false)(h10:(x.k==48)=false)(h11:(x.k==49)=false)(h12:(x.k==50)=false)(U4:(x.k==51)=false)(h14:(x.k==52)=false)(h15:(x.k==53)=false)(YX:(x.k==54)=false)(h17:(x.k==55)=false):
  Calls Tryz.prog 93 #[.agg #[.int .u8 x.k,.int .i64 x.num,.string x.nm,.slice x.A x.n x.cap]] w fun en w''=>en=.returned (.bool false)∧Below w.heap.size w w'':=by
 obtain⟨k,num,nm,A,n,cap⟩:=x;dsimp only at *;go_enter Tryz.func93,Tryz.ntmps93;go_wp2_with fail;go_ret;exact⟨rfl,by go_grown⟩
theorem PM{w:World}{B d:Nat}(bG:B<=w.heap.size)(f8:wV w B d):Dl w B (d+1):=by
 intro x hx w' hb;by_cases hA:x.k=40∨x.k=41∨x.k=42∨x.k=56
 ·have h:=Oe bG f8 x hA hx w' hb
  rw[D3];simp only[if_pos hA];simpa[bX,d7]using h
 by_cases hB:x.k=43
 ·have h:=Og bG f8 x hB hx w' hb
  rw[D3];simp only[if_neg hA,if_pos hB];simpa[bX,d7]using h
 by_cases hC:x.k=44∨x.k=45
 ·have h:=Oh bG f8 x hC hx w' hb
  rw[D3];simp only[if_neg hA,if_neg hB,if_pos hC];simpa[bX,jE]using h
 by_cases hD:x.k=46∨x.k=47∨x.k=48∨x.k=49
 ·have h:=Oi bG f8 x hD hx w' hb
  rw[D3];simp only[if_neg hA,if_neg hB,if_neg hC,if_pos hD];simpa[bX,d7]using h
 by_cases hH:x.k=50∨x.k=51
 ·have h:=Oo bG x hH hx w' hb
  rw[D3];simp only[if_neg hA,if_neg hB,if_neg hC,if_neg hD,if_pos hH];simpa[jE]using h
 by_cases hE:x.k=52∨x.k=53
 ·have h:=Oj bG f8 x hE hx w' hb
  rw[D3];simp only[if_neg hA,if_neg hB,if_neg hC,if_neg hD,if_neg hH,if_pos hE];simpa[bX,d7]using h
 by_cases hF:x.k=54
 ·have h:=Ol bG f8 x hF hx w' hb
  rw[D3];simp only[if_neg hA,if_neg hB,if_neg hC,if_neg hD,if_neg hH,if_neg hE,if_pos hF];simpa[bX,jE]using h
 by_cases hG:x.k=55
 ·have h:=Om bG f8 x hG hx w' hb
  rw[D3];simp only[if_neg hA,if_neg hB,if_neg hC,if_neg hD,if_neg hH,if_neg hE,if_neg hF,if_pos hG];simpa[bX,jE]using h
 rw[D3];simp only[if_neg hA,if_neg hB,if_neg hC,if_neg hD,if_neg hH,if_neg hE,if_neg hF,if_neg hG];exact Oq x (by simp;omega) (by simp;omega) (by simp;omega) (by simp;omega) (by simp;omega) (by simp;omega) (by simp;omega) (by simp;omega) (by simp;omega) (by simp;omega) (by simp;omega) (by simp;omega) (by simp;omega) (by simp;omega) (by simp;omega) (by simp;omega) (by simp;omega)
theorem KW{w:World}{B d:Nat}(bG:B<=w.heap.size)(hst:Dl w B d):wV w B (d+1):=by
 intro x hx w' hb;have HP:Hid (∀W,Calls Tryz.prog 91 #[.agg #[.int .u8 x.k,.int .i64 x.num,.string x.nm,.slice x.A x.n x.cap]] W fun e w'=>e=.returned (.bool (d7 x))∧Below W.heap.size W w'):=aA fun W=>jQ x W
 have HE:Hid (∀W,Below B w W->Calls Tryz.prog 92 #[.slice x.A x.n x.cap,.func (.func 93) #[] #[]] W fun en w''=>en=.returned (.bool (bX (fun i=>D3 w B d (bO w B x i)) x.n))∧Below W.heap.size W w''):=aA fun W hW=>
  L9 bG x (by obtain⟨_,_,h1,h2,_,_⟩:=hx;unfold maxLen at h2;omega) 93 _ (fun _ _=>rfl) (fun i hi=>by obtain⟨h1,h2⟩:=bE hx hi;exact⟨_,h1,fun W hW=>hst _ h2 W hW⟩) W hW
 rw[p7];obtain⟨pb,hpb⟩:∃pb,d7 x=pb:=⟨_,rfl⟩;obtain⟨rk,hrk⟩:∃rk,bX (fun i=>D3 w B d (bO w B x i)) x.n=rk:=⟨_,rfl⟩;rw[hpb]at HP⊢;rw[hrk]at HE⊢;have HB:=aA hb;have bC:B<=w'.heap.size:=by have:=hb.size;omega
 clear hx hb hpb hrk hst;obtain⟨k,num,nm,A,n,cap⟩:=x;dsimp only at *;by_cases hk:k=57
 ·subst hk
  go_enter Tryz.func54,Tryz.ntmps54;go_upto_region 1 with fail;refine aB ?_;intro w1 aF;have aG:Below w'.heap.size w' w1:=by rw[aF];go_grown
  have K1:Blk w1 w'.heap.size 26 #[.int .u8 57,.int .i64 num,.string nm,.slice A n cap]:=by rw[aF];exact aQ
  have a9:=aA K1;have aO:=aA aG;clear aF aG;obtain⟨aL,aJ,aK⟩:=K1.open_;clear K1;go_wp2_with fail;refine(HP.out w1).mono ?_;rintro en w2 ⟨rfl,hb2⟩;have aP:=aA (aO.out.next hb2);have K2:=a9.out.next hb2;clear aJ aL aK hb2;obtain⟨aL,aJ,aK⟩:=K2.open_;clear K2;cases pb with
  |false=>
   go_wp2_with fail;go_ret;exact⟨by simp,aP.out⟩
  |true=>
   go_wp2_with fail;refine(HE.out w2 (HB.out.trans (aP.out.mono bC))).mono ?_;rintro en w3 ⟨rfl,aT⟩;have bD:=aA (aP.out.next aT);clear aJ aL aK aT;go_wp2_with fail;go_ret;exact⟨by simp,bD.out⟩
 ·have tB:(k==57)=false:=by simpa using hk
  go_enter Tryz.func54,Tryz.ntmps54;go_wp2_with fail;go_ret;exact⟨by simp[hk],by go_grown⟩
theorem B6{w:World}{B:Nat}(bG:B<=w.heap.size):∀d,Dl w B d∧wV w B d
 |0=>⟨fun x hx=>hx.elim,fun x hx=>hx.elim⟩
 |d+1=>⟨PM bG (B6 bG d).2,KW bG (B6 bG d).1⟩
end Go.Proofs.YtakfdnnlhjhcfaaGreatDoor
namespace Bk
open Go Go.RowKit
structure Pc where
 nm:ByteArray
 V:Option Addr
 nv:Nat
 cv:Nat
 vs:List Vr
 body:Nd
def PrsAt(w:World)(B d:Nat)(A:Option Addr)(l:List Pc):Prop:=∀i p,l[i]?=some p->(∃g o,A=some ⟨g,o,none⟩∧g<B∧w.cell? ⟨g,o+i*6,none⟩=some (.string p.nm)∧w.cell? ⟨g,o+i*6+1,none⟩=some (.slice p.V p.nv p.cv)∧
 w.cell? ⟨g,o+i*6+2,none⟩=some (.int .u8 p.body.k)∧w.cell? ⟨g,o+i*6+3,none⟩=some (.int .i64 p.body.num)∧w.cell? ⟨g,o+i*6+4,none⟩=some (.string p.body.nm)∧w.cell? ⟨g,o+i*6+5,none⟩=some (.slice p.body.A p.body.n p.body.cap))∧
 VsAt w B p.V p.vs∧p.vs.length=p.nv∧p.nv<=p.cv∧p.nv<=17592186043904∧KV w B d p.body
end Bk
namespace Go.Proofs.YtakfdnnlhjhcfaaGreatDoor
open Go.RowKit Bk
def dS(f:Nat->Nat->Bool×Nat):Nat->Nat->Bool×Nat
 |0,lf=>(true,lf)
 |j+1,lf=>if(dS f j lf).1=true then f j (dS f j lf).2 else dS f j lf
theorem Q6{f:Nat->Nat->Bool×Nat}{j n lf c:Nat}(hj:j<=n)(h:dS f j lf=(false,c)):dS f n lf=(false,c):=by
 induction hj with
 |refl=>exact h
 |step _ ih=>simp only[dS];rw[ih];simp
noncomputable def f6(w:World)(B:Nat):Nat->Nd->Nat->Nat->Bool×Nat
 |0,_,_,lf=>(false,lf)
 |d+1,x,dp,lf=>if dp=0∨lf=0 then(false,lf)else dS (fun i=>f6 w B d (bO w B x i) (dp-1)) x.n (lf-1)
theorem MM{w:World}{B:Nat}(bG:B<=w.heap.size):∀(d:Nat)(x:Nd),KV w B d x->CL w B x (fun dp lf b lf'=>(b,lf')=f6 w B d x dp lf)
 |0,_,h=>h.elim
 |d+1,x,h=>by
  have hn:x.n<=9223372036854775807:=by obtain⟨_,_,h1,h2,_,_⟩:=h;unfold maxLen at h2;omega
  refine Fe bG x hn (Rk:=fun i dp lf b lf'=>(b,lf')=f6 w B d (bO w B x i) dp lf) (I:=fun dp lf j c=>0<lf∧dS (fun i=>f6 w B d (bO w B x i) (dp-1)) j (lf-1)=(true,c)) (fun i hi=>?_) ?_ ?_ ?_ ?_ ?_
  ·obtain⟨h1,h2⟩:=bE h hi
   exact⟨_,h1,MM bG d _ h2⟩
  ·intro dp lf h0;rw[f6,if_pos h0]
  ·intro dp lf;exact⟨by omega,rfl⟩
  ·intro dp lf j c c' hj ⟨h0,hI⟩ hR
   refine⟨h0,?_⟩;simp only[dS,hI,if_true];exact hR.symm
  ·intro dp lf j c c' hj ⟨h0,hI⟩ hR
   show(false,c')=f6 w B (d+1) x (dp+1) lf;rw[f6,if_neg (by omega)];refine(Q6 (j:=j+1) hj ?_).symm;simp only[dS,Nat.add_sub_cancel]at hI⊢;rw[hI];simp only[if_true];exact hR.symm
  ·intro dp lf c ⟨h0,hI⟩
   show(true,c)=f6 w B (d+1) x (dp+1) lf;rw[f6,if_neg (by omega)];exact hI.symm
noncomputable def gZ(w:World)(B d:Nat)(m:Nd):Bool:=(f6 w B d m 80 2000).1&&p7 w B d m
theorem DC{w:World}{B d:Nat}(bG:B<=w.heap.size)(m:Nd)(hm:KV w B d m)(w':World)(hb:Below B w w'):
  Calls Tryz.prog 28 #[.agg #[.int .u8 m.k,.int .i64 m.num,.string m.nm,.slice m.A m.n m.cap]] w' fun en w''=>en=.returned (.bool (gZ w B d m))∧Below w'.heap.size w' w'':=by
 refine(ML bG m (MM bG d m hm) _ (fun W hW=>(B6 bG d).2 m hm W hW) w' hb).mono ?_;rintro en w'' ⟨⟨b,lf,h1,h2⟩,h3⟩;have e1:(f6 w B d m 80 2000).1=b:=by rw[<-h1]
 exact⟨by rw[gZ,e1];exact h2,h3⟩
open Classical in
noncomputable def iG(l:List Vr):Bool:=decide (∀v∈l,uY aS v=true)
theorem L8{w:World}{B:Nat}(bG:B<=w.heap.size)(V:Option Addr)(nv cv:Nat)(vs:List Vr)(hv:VsAt w B V vs)(hnv:vs.length=nv)(d8:nv<=17592186043904)(w':World)(hb:Below B w w'):
  Calls Tryz.prog 26 #[.slice V nv cv] w' fun en w''=>en=.returned (.bool (iG vs))∧Below w'.heap.size w' w'':=
 Z2 bG V nv cv vs hv hnv d8 _ (by simp[iG]) w' hb
noncomputable def mZ(w:World)(B d:Nat)(p:Pc):Bool:=aS p.nm&&(decide (p.nv<=8)&&(iG p.vs&&gZ w B d p.body))
noncomputable def validB(w:World)(B d:Nat)(vs:List Vr)(ps:List Pc)(m:Nd):Bool:=decide (vs.length<=32)&&(decide (ps.length<=64)&&(iG vs&&(ps.all (mZ w B d)&&gZ w B d m)))
theorem kL{w:World}{B d:Nat}(bG:B<=w.heap.size)(V:Option Addr)(nv cv:Nat)(vs:List Vr)(hv:VsAt w B V vs)(hnv:vs.length=nv)(d8:nv<=17592186043904)(Q:Option Addr)(nq cq:Nat)(ps:List Pc)(hq:PrsAt w B d Q ps)(hnq:ps.length=nq)(hnq2:nq<=17592186043904)(m:Nd)(hm:KV w B d m)(w':World)(hb:Below B w w'):
  Calls Tryz.prog 16 #[.agg #[.slice V nv cv,.slice Q nq cq,.int .u8 m.k,.int .i64 m.num,.string m.nm,.slice m.A m.n m.cap]] w' fun en w''=>en=.returned (.bool (validB w B d vs ps m))∧Below w'.heap.size w' w'':=by
 have HD:Hid (∀W,Below B w W->Calls Tryz.prog 26 #[.slice V nv cv] W fun en w''=>en=.returned (.bool (iG vs))∧Below W.heap.size W w''):=aA fun W hW=>L8 bG V nv cv vs hv hnv d8 W hW
 have HI:Hid (∀W,Below B w W->Calls Tryz.prog 28 #[.agg #[.int .u8 m.k,.int .i64 m.num,.string m.nm,.slice m.A m.n m.cap]] W fun en w''=>en=.returned (.bool (gZ w B d m))∧Below W.heap.size W w''):=aA fun W hW=>DC bG m hm W hW
 have HPD:Hid (∀p∈ps,∀W,Below B w W->Calls Tryz.prog 26 #[.slice p.V p.nv p.cv] W fun en w''=>en=.returned (.bool (iG p.vs))∧Below W.heap.size W w''):=aA fun p hp W hW=>by
  obtain⟨i,hi⟩:=List.getElem?_of_mem hp;obtain⟨_,h1,h2,_,h4,_⟩:=hq i p hi;exact L8 bG p.V p.nv p.cv p.vs h1 h2 h4 W hW
 have Yd:Hid (∀p∈ps,∀W,Below B w W->Calls Tryz.prog 28 #[.agg #[.int .u8 p.body.k,.int .i64 p.body.num,.string p.body.nm,.slice p.body.A p.body.n p.body.cap]] W fun en w''=>en=.returned (.bool (gZ w B d p.body))∧Below W.heap.size W w''):=aA fun p hp W hW=>by
  obtain⟨i,hi⟩:=List.getElem?_of_mem hp;obtain⟨_,_,_,_,_,h5⟩:=hq i p hi;exact DC bG p.body h5 W hW
 have HQ:=aA hq;have nH:=aA hnq;have HB:=aA hb;have bC:B<=w'.heap.size:=by have:=hb.size;omega
 unfold validB;obtain⟨rD,hrD⟩:∃r,iG vs=r:=⟨_,rfl⟩;obtain⟨rM,hrM⟩:∃r,gZ w B d m=r:=⟨_,rfl⟩;rw[hrD]at HD⊢;rw[hrM]at HI⊢;obtain⟨rP,hrP⟩:∃r,ps.all (mZ w B d)=r:=⟨_,rfl⟩;have Yp:=aA hrP;rw[hrP,hnv,hnq];obtain⟨r32,h32⟩:∃r,decide (nv<=32)=r:=⟨_,rfl⟩;obtain⟨r64,h64⟩:∃r,decide (nq<=64)=r:=⟨_,rfl⟩;have g32:decide ((32:Int)<(nv:Int))=!r32:=by rw[<-h32];by_cases h:nv<=32<;>simp[h]<;>omega
 have g64:decide ((64:Int)<(nq:Int))=!r64:=by rw[<-h64];by_cases h:nq<=64<;>simp[h]<;>omega
 rw[h32,h64];clear hv hnv hq hnq hm hb hrD hrM hrP h32 h64;obtain⟨k,num,nm,A,n,cap⟩:=m;dsimp only at *;go_enter Tryz.func16,Tryz.ntmps16;go_upto_region 1 with fail;refine aB ?_;intro w1 aF;have aG:Below w'.heap.size w' w1:=by rw[aF];go_grown
 have K1:Blk w1 w'.heap.size 28 #[.slice V nv cv,.slice Q nq cq,.int .u8 k,.int .i64 num,.string nm,.slice A n cap]:=by rw[aF];exact aQ
 have a9:=aA K1;have aO:=aA aG;clear aF aG;obtain⟨aL,aJ,aK⟩:=K1.open_;clear K1;cases r32 with
 |false=>
  go_wp2_with fail;go_ret;exact⟨by simp,aO.out⟩
 |true=>
 cases r64 with
 |false=>
  go_wp2_with fail;go_ret;exact⟨by simp,aO.out⟩
 |true=>
 go_wp2_with fail;refine(HD.out w1 (HB.out.trans (aO.out.mono bC))).mono ?_;rintro en w2 ⟨rfl,hb2⟩;have aP:=aA (aO.out.next hb2);have bI:=aA (a9.out.next hb2);clear aJ aL aK hb2 a9 aO;obtain⟨aL,aJ,aK⟩:=bI.out.open_;cases rD with
 |false=>
  go_wp2_with fail;go_ret;exact⟨by simp,aP.out⟩
 |true=>
 go_upto_region 4 with fail;clear aJ aL aK
 go_loopw [24] (fun v24 wr=>∃j:Nat,j<=nq∧v24=.int .i64 j∧(∀i p,i<j->ps[i]?=some p->mZ w B d p=true)∧Below w2.heap.size w2 wr) (fun v _=>nq-(intOf v).toNat)
 case atStart=>exact⟨0,fI _,rfl,fun i p hi=>absurd hi (Nat.not_lt_zero _),aM _ _⟩
 case round=>
  obtain⟨j,hj,rfl,fQ,cF⟩:=hrel;have gO:=aA fQ;have cG:=aA (aP.out.next cF);have fL:=aA (bI.out.next cF);have HX:=aA cF;clear fQ cF;by_cases e9:j<nq
  ·obtain⟨p,hpj⟩:∃p,ps[j]?=some p:=⟨_,dR (by have:=nH.out;omega)⟩
   obtain⟨⟨g,o,eY,cR,c0,c1,c2,c3,c4,c5⟩,JB,mI,hpc,hpm,Ri⟩:=HQ.out j p hpj;subst eY;have hX:=HB.out.trans (cG.out.mono bC);have d0:=(hX.cell (p:=⟨g,o+j*6,none⟩) cR).trans c0;have d1:=(hX.cell (p:=⟨g,o+j*6+1,none⟩) cR).trans c1;have d2:=(hX.cell (p:=⟨g,o+j*6+2,none⟩) cR).trans c2;have d3:=(hX.cell (p:=⟨g,o+j*6+3,none⟩) cR).trans c3;have d4:=(hX.cell (p:=⟨g,o+j*6+4,none⟩) cR).trans c4;have d5:=(hX.cell (p:=⟨g,o+j*6+5,none⟩) cR).trans c5;have AK:=List.mem_of_getElem? hpj;have Mj:=aA (HPD.out p AK);have Mi:=aA (Yd.out p AK);have HF:Hid (mZ w B d p=false->rP=false):=aA fun h=>by
    rw[<-Yp.out];cases hq:ps.all (mZ w B d)with
    |false=>rfl
    |true=>rw[List.all_eq_true]at hq;have:=hq p AK;rw[h]at this;cases this
   have HS:Hid (mZ w B d p=true->∀i u,i<j+1->ps[i]?=some u->mZ w B d u=true):=aA fun h i u hi hu=>(Nat.lt_succ_iff_lt_or_eq.1 hi).elim (fun h1=>gO.out i u h1 hu) (fun h1=>by subst h1;rw[hpj]at hu;injection hu with hu;subst hu;exact h)
   obtain⟨pn,pV,pnv,pcv,pvs,⟨bk,bnum,bnm,bA,bn,bcap⟩⟩:=p;unfold mZ at HF HS;dsimp only at *;have j0:(0:Int)<=(j:Int):=by omega
   have j1:(j:Int)<(nq:Int):=by omega
   obtain⟨q1,hq1⟩:∃q,aS pn=q:=⟨_,rfl⟩;obtain⟨q2,hq2⟩:∃q,decide (pnv<=8)=q:=⟨_,rfl⟩;obtain⟨q3,hq3⟩:∃q,iG pvs=q:=⟨_,rfl⟩;obtain⟨q4,hq4⟩:∃q,gZ w B d ⟨bk,bnum,bnm,bA,bn,bcap⟩=q:=⟨_,rfl⟩;have g8:decide ((8:Int)<(pnv:Int))=!q2:=by rw[<-hq2];by_cases h:pnv<=8<;>simp[h]<;>omega
   have mB:Hid (∀W,Calls Tryz.prog 27 #[.string pn] W fun e w'=>e=.returned (.bool q1)∧Below W.heap.size W w'):=aA fun W=>by rw[<-hq1];exact zY pn W
   rw[hq1,hq2,hq3,hq4]at HF HS;rw[hq3]at Mj;rw[hq4]at Mi;clear c0 c1 c2 c3 c4 c5 hpj JB mI hpc hpm Ri hX AK hq1 hq2 hq3 hq4 HQ HPD Yd Yp gO;go_upto_region 6 with fail;refine aB ?_;intro w3 dP;have aT:Below wr.heap.size wr w3:=by rw[dP];go_grown
   have KP:Blk w3 wr.heap.size 64 #[.string pn,.slice pV pnv pcv,.int .u8 bk,.int .i64 bnum,.string bnm,.slice bA bn bcap]:=by rw[dP];exact aQ
   have bD:=aA (cG.out.next aT);have F6:=aA (HX.out.next aT);have gK:=aA KP;clear dP d0 d1 d2 d3 d4 d5 aT;obtain⟨G3,F8,E4⟩:=KP.open_;clear KP;go_wp2_with fail;refine(mB.out w3).mono ?_;rintro en w4 ⟨rfl,bV⟩;have dQ:=aA (bD.out.next bV);have lZ:=aA (F6.out.next bV);have Ce:=aA (gK.out.next bV);clear F8 G3 E4 bV gK bD F6;obtain⟨G3,F8,E4⟩:=Ce.out.open_;cases q1 with
   |false=>
    obtain rfl:rP=false:=HF.out (by simp);go_wp2_with fail;go_ret;exact⟨by simp,dQ.out⟩
   |true=>
   cases q2 with
   |false=>
    obtain rfl:rP=false:=HF.out (by simp);go_wp2_with fail;go_ret;exact⟨by simp,dQ.out⟩
   |true=>
   go_wp2_with fail;refine(Mj.out w4 (HB.out.trans (dQ.out.mono bC))).mono ?_;rintro en w5 ⟨rfl,cW⟩;have gL:=aA (dQ.out.next cW);have gP:=aA (lZ.out.next cW);have zI:=aA (Ce.out.next cW);clear F8 G3 E4 cW Ce dQ lZ;obtain⟨G3,F8,E4⟩:=zI.out.open_;cases q3 with
   |false=>
    obtain rfl:rP=false:=HF.out (by simp);go_wp2_with fail;go_ret;exact⟨by simp,gL.out⟩
   |true=>
   go_wp2_with fail;refine(Mi.out w5 (HB.out.trans (gL.out.mono bC))).mono ?_;rintro en w6 ⟨rfl,mC⟩;have mG:=aA (gL.out.next mC);have kD:=aA (gP.out.next mC);clear F8 G3 E4 mC;cases q4 with
   |false=>
    obtain rfl:rP=false:=HF.out (by simp);go_wp2_with fail;go_ret;exact⟨by simp,mG.out⟩
   |true=>
    have mH:=aA (HS.out (by simp));clear HS HF;go_wp2_with fail;exact⟨⟨j+1,by omega,by go_num,mH.out,kD.out⟩,by simp[intOf];omega⟩
  ·obtain rfl:j=nq:=by omega
   obtain rfl:rP=true:=by
    rw[<-Yp.out,List.all_eq_true];intro p hp;obtain⟨i,hi⟩:=List.getElem?_of_mem hp;exact gO.out i p (by have:=(lgS.1 hi).1;have:=nH.out;omega) hi
   obtain⟨aL,aJ,aK⟩:=fL.out.open_;go_wp2_with fail;refine(HI.out wr (HB.out.trans (cG.out.mono bC))).mono ?_;rintro en w4 ⟨rfl,bV⟩;have dQ:=aA (cG.out.next bV);clear aJ aL aK bV;go_wp2_with fail;go_ret;exact⟨by simp,dQ.out⟩
end Go.Proofs.YtakfdnnlhjhcfaaGreatDoor
