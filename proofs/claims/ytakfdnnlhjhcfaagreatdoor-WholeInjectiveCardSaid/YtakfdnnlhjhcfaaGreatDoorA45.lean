/- Part of the proof. -/
import Derived.Laws.BytesArg
import Derived.Test.YtakfdnnlhjhcfaaGreatDoorA44
set_option linter.unusedVariables false
set_option linter.unusedSimpArgs false
set_option maxRecDepth 100000
set_option maxHeartbeats 4000000
namespace Bk
open Go Go.RowKit
def C9:Value->Int
 |.int _ x=>x
 |_=>0
theorem kG(x:Int)(s:Nat):∀j(u:Value),u∈g7 x s j->u=.int .u8 (C9 u)
 |0,u,h=>by simp[g7]at h
 |j+1,u,h=>by
  simp only[g7,List.mem_append,List.mem_singleton]at h;rcases h with h|h
  ·exact kG x s j u h
  ·subst h;rfl
theorem nW(l:List Int):∀j(u:Value),u∈kS l j->u=.int .u8 (C9 u)
 |0,u,h=>by simp[kS]at h
 |j+1,u,h=>by
  simp only[kS,List.mem_append]at h;rcases h with h|h
  ·exact nW l j u h
  ·exact kG _ _ _ _ h
theorem yB(vs:List Vr)(cs:List (List Int)):∀j(u:Value),u∈mO vs cs j->u=.int .u8 (C9 u)
 |0,u,h=>by simp[mO]at h
 |j+1,u,h=>by
  simp only[mO,List.mem_append]at h;rcases h with(h|h)|h
  ·exact yB vs cs j u h
  ·split at h
   ·exact kG _ _ _ _ h
   ·simp at h
  ·exact nW _ _ _ h
theorem MX{vs:List Vr}{cs:List (List Int)}{inp out:List Int}(u:Value)(h:u∈oI vs cs inp out):u=.int .u8 (C9 u):=by
 simp only[oI,List.mem_append]at h;rcases h with(((h|h)|h)|h)|h
 ·exact yB _ _ _ _ h
 ·exact kG _ _ _ _ h
 ·exact nW _ _ _ h
 ·exact kG _ _ _ _ h
 ·exact nW _ _ _ h
theorem MY(vs:List Vr)(cs:List (List Int))(inp out:List Int):0<(oI vs cs inp out).length:=by
 simp only[oI,List.length_append,x5];omega
def LA(vs:List Vr)(cs:List (List Int))(inp out:List Int):ByteArray:=⟨#[0]⟩++strOfNums ((oI vs cs inp out).map C9)
end Bk
namespace Go.Proofs.YtakfdnnlhjhcfaaGreatDoor
open Go.RowKit Bk
section
variable{w w':World}{B:Nat}
theorem zS{V Q:Option Addr}{nv cv nq cq:Nat}{vs:List Vr}{m:Nd}(bG:B<=w.heap.size)(hv:VsAt w B V vs)(hnv:vs.length=nv){vC vI vO:Value}{cs:List (List Int)}{inp out:List Int}(hS:SW w (·<B) vC vI vO cs inp out)(eN:eS vs cs inp out=true)(hb:Below B w w'):
  Calls Tryz.prog 8 #[.agg #[.slice V nv cv,.slice Q nq cq,.int .u8 m.k,.int .i64 m.num,.string m.nm,.slice m.A m.n m.cap],.agg #[vC,vI,vO]] w' fun e w''=>e=.returned (.string (LA vs cs inp out))∧Below w'.heap.size w' w'':=by
 have RS:=aA (fun W hW=>LD bG V nv cv vs hv hnv hS eN W hW);have yJ:B<=w'.heap.size:=by have:=hb.size;omega
 have HB:=aA hb;obtain⟨AC,nc,cC,rfl⟩:∃A n c,vC=.slice A n c:=by obtain⟨sv,⟨A,c,e,_⟩,_⟩:=hS.row;exact⟨A,_,c,e⟩
 obtain⟨AI,ni,cI,rfl⟩:∃A n c,vI=.slice A n c:=by obtain⟨A,c,e,_⟩:=hS.inp;exact⟨A,_,c,e⟩
 obtain⟨AO,no,cO,rfl⟩:∃A n c,vO=.slice A n c:=by obtain⟨A,c,e,_⟩:=hS.out;exact⟨A,_,c,e⟩
 clear hv hS eN hb hnv;obtain⟨mk,mnum,mnm,mA,mn,mc⟩:=m;dsimp only at *;go_enter Tryz.func8,Tryz.ntmps8;go_upto_region 1 with fail;refine aB ?_;intro w1 aF;have aG:Below w'.heap.size w' w1:=(by rw[aF];go_grown);have K2:Blk w1 w'.heap.size 28 #[.slice V nv cv,.slice Q nq cq,.int .u8 mk,.int .i64 mnum,.string mnm,.slice mA mn mc]:=(by rw[aF];exact aQ);have K3:Blk w1 (w'.heap.size+1) 32 #[.slice AC nc cC,.slice AI ni cI,.slice AO no cO]:=(by rw[aF];exact(Blk.new' (by simp) _ _));have aO:=aA aG;obtain⟨eL,eC,eF⟩:=K2.open_;obtain⟨rJ,mK,mJ⟩:=K3.open_;clear aF aG K2 K3;go_wp2_with fail;refine(RS.out w1 (HB.out.trans (aO.out.mono yJ))).mono ?_;rintro en w2 ⟨v,n,rfl,hn,ho,hb2⟩;have hlen:=ho.1;have Gy:=MY vs cs inp out;obtain⟨g,cp,rfl⟩:∃g cp,v=.slice (some ⟨g,0,none⟩) n cp:=by
  rcases ho.2 with⟨_,h0⟩|⟨g,cap,cur,e,_⟩
  ·exfalso;omega
  ·exact⟨g,cap,e⟩
 obtain⟨cur,mQ,vR⟩:=nZ ho;have gY:(convert 52 9 (.slice (some ⟨g,0,none⟩) n cp)).run Tryz.prog w2=.ok (.string (strOfNums ((oI vs cs inp out).map C9))) w2:=by
  refine run_convert_bytes_arg (P:=Tryz.prog) w2 52 5 Tryz.underlying52 Tryz.underlying5 g 0 n cp ((oI vs cs inp out).map C9) (by simp;omega) (fun i hi=>?_) 9 Tryz.underlying9;have mT:i<(oI vs cs inp out).length:=by omega
  have NP:(oI vs cs inp out)[i]?=some ((oI vs cs inp out)[i]):=dR mT;rw[Nat.zero_add,mQ.cell,vR i _ NP,MX _ (List.getElem_mem mT)];simp[eX,NP]
 obtain⟨z,hz⟩:∃z,strOfNums ((oI vs cs inp out).map C9)=z:=⟨_,rfl⟩;have RD:z.size<=17592186043904:=by
  rw[<-hz];have:(strOfNums ((oI vs cs inp out).map C9)).size=(oI vs cs inp out).length:=by simp[strOfNums,ByteArray.size]
  omega
 have hbt:LA vs cs inp out=⟨#[0]⟩++z:=by rw[<-hz];rfl
 rw[hz]at gY;have Bd:=aA hbt;have vV:¬9223372036854775807<1+z.size:=by omega
 have aP:=aA (aO.out.next hb2);clear hz hbt eL eC eF rJ mK mJ hb2 ho mQ vR hlen Gy RS;go_wp2_with fail;go_ret;exact⟨by rw[Bd.out];first|rfl|simp,aP.out⟩
end
def Dk(bl:Nat)(w':World)(e:Ending)(w'':World):Prop:=∃(b:Bool)(L':Int),e=.returned (.bool b)∧(b=true->∃L2:Nat,L'=L2∧L2<=200)∧Blk w'' bl 3 #[.int .i64 L']∧Fr (fun k=>k=bl) w' w''
def tK(w:World)(B:Nat)(x:Nd):Prop:=∀(dp:Nat)(L:Nat),dp<=24->L<=200->∀(w':World)(bl:Nat),Below B w w'->B<=bl->Blk w' bl 3 #[.int .i64 (L:Int)]->
 Calls Tryz.prog 83 #[.agg #[.int .u8 x.k,.int .i64 x.num,.string x.nm,.slice x.A x.n x.cap],.int .i64 dp,.pointer (some ⟨bl,0,none⟩)] w' fun e w''=>Dk bl w' e w''
theorem MR{w:World}{B:Nat}(bG:B<=w.heap.size)(x:Nd)(hn:x.n<=9223372036854775807)(dE:∀i,i<x.n->∃y,Kid w B x i y∧tK w B y):tK w B x:=by
 intro dp lf hdp hlf w' bl hb f8 hk;obtain⟨k,num,nm,A,n,cap⟩:=x;have HB:=aA hb;have HK:=aA hk;have uB:=aA dE;have jL:=hk.lt;have bC:B<=w'.heap.size:=by have:=hb.size;omega
 dsimp only at *;clear hb dE;obtain⟨G2,xT,E0⟩:=hk.open_;clear hk;have HE:Hid (∀w1,w1=(w'.alloc (.cells #[.int .u8 k,.int .i64 num,.string nm,.slice A n cap] 26)).setCell ⟨bl,0,none⟩ (.int .i64 ((lf:Int)-1))∨w1=(w'.setCell ⟨bl,0,none⟩ (.int .i64 ((lf:Int)-1))).alloc (.cells #[.int .u8 k,.int .i64 num,.string nm,.slice A n cap] 26)->Blk w1 w'.heap.size 26 #[.int .u8 k,.int .i64 num,.string nm,.slice A n cap]∧Blk w1 bl 3 #[.int .i64 ((lf:Int)-1)]∧Fr (fun k=>k=bl) w' w1):=aA fun w1 h=>by
  have hs:(w'.setCell ⟨bl,0,none⟩ (.int .i64 ((lf:Int)-1))).heap.size=w'.heap.size:=by simp[World.setCell]
  rcases h with rfl|rfl
  ·refine⟨Blk.far (Blk.new _ _ _) (show w'.heap.size≠bl by omega) _,?_,?_⟩
   ·simpa using(HK.out.alloc _).set_ 0 (.int .i64 ((lf:Int)-1))
   ·refine Fr.set ?_ ?_ _;rotate_left;exact rfl;exact(Fr.refl _ _).alloc _
  ·refine⟨Blk.new' hs.symm _ _,?_,?_⟩
   ·exact Blk.alloc (by simpa using HK.out.set_ 0 (.int .i64 ((lf:Int)-1))) _
   ·refine Fr.alloc ?_ _;refine Fr.set ?_ ?_ _;rotate_left;exact rfl;exact Fr.refl _ _
 obtain⟨li,hli⟩:∃li:Int,(lf:Int)-1=li:=⟨_,rfl⟩;have aF:IntKind.i64.wrap ((lf:Int)-1)=li:=by
  rw[<-hli];rcases Nat.eq_zero_or_pos lf with h0|h0
  ·subst h0;decide
  ·exact wrap_small _ (by omega) (by omega)
 rw[hli]at HE;have HLI:=aA hli;obtain⟨l0,hl0⟩:∃l0:Int,(lf:Int)=l0:=⟨_,rfl⟩;rw[hl0]at aF xT HK;clear hli hl0;go_enter Tryz.func83,Tryz.ntmps83;go_upto_region 2 with fail;refine aB ?_;intro w1 hw;obtain⟨K1,KL,rU⟩:=HE.out w1 (by first|exact .inl hw|exact .inr hw);have a9:=aA K1;have CF:=aA KL;have iL:=aA rU;have vV:w'.heap.size<w1.heap.size:=K1.lt;clear xT G2 E0 hw HK HE;obtain⟨aL,aJ,aK⟩:=K1.open_;obtain⟨G2,xT,E0⟩:=KL.open_;clear K1 KL rU;by_cases hl1:li<0
 ·have q1:decide (li<0)=true:=by simpa using hl1
  go_wp2_with fail;go_ret;exact⟨false,li,rfl,by simp,CF.out,iL.out⟩
 have q1:decide (li<0)=false:=by simpa using hl1
 by_cases Gg:dp=0
 ·subst Gg
  go_wp2_with fail;go_ret;exact⟨false,li,rfl,by simp,CF.out,iL.out⟩
 have ZB:((dp:Int)==0)=false:=by simpa using Gg
 by_cases hnm:nm.size<=40;rotate_left
 ·have q3:decide (40<(nm.size:Int))=true:=by simp;omega
  go_wp2_with fail;go_ret;exact⟨false,li,rfl,by simp,CF.out,iL.out⟩
 have q3:decide (40<(nm.size:Int))=false:=by simp;omega
 obtain⟨d1,hdd⟩:∃d1,dp=d1+1:=⟨dp-1,by omega⟩;have eD:IntKind.i64.wrap ((dp:Int)-1)=(d1:Int):=(wrap_small _ (by omega) (by omega)).trans (by omega);have aAn:d1<=24:=by omega
 obtain⟨di,hdi⟩:∃di:Int,(dp:Int)=di:=⟨_,rfl⟩;rw[hdi]at ZB eD⊢;obtain⟨l1,hll⟩:∃l1:Nat,li=l1:=⟨li.toNat,by omega⟩;have Qr:l1<=200:=by have:=HLI.out;omega
 have YB:=aA hll;clear hdi hdd hll Gg hdp;go_wp2_with fail;clear aJ aL aK xT G2 E0 q1 q3
 go_loopw [31] (fun v31 wr=>∃(j c:Nat),j<=n∧v31=.int .i64 j∧c<=200∧Blk wr bl 3 #[.int .i64 (c:Int)]∧Fr (fun k=>k=bl) w' wr) (fun v _=>n-(intOf v).toNat)
 case atStart=>exact⟨0,l1,fI _,rfl,Qr,by rw[<-YB.out];exact CF.out,iL.out⟩
 case round=>
  obtain⟨j,c,hj,rfl,hc,NU,gD⟩:=hrel;have fL:=aA NU;have s8:=aA gD;have pD:Below B w wr:=HB.out.trans (gD.below bC (fun k hk=>hk▸f8));have cG:=aA pD;have wT:=gD.size;clear NU gD pD;by_cases e9:j<n
  ·obtain⟨y,cS,yP⟩:=uB.out j e9
   obtain⟨g,o,eY,cR,c0,c1,c2,c3⟩:=cS.cells cG.out;simp only at eY;subst eY;have CH:=aA yP;have j0:(0:Int)<=(j:Int):=by omega
   have j1:(j:Int)<(n:Int):=by omega
   clear cS yP;go_upto_region 7 with fail;refine aB ?_;intro w2 hw;have hb2:Below wr.heap.size wr w2:=by rw[hw];go_grown
   have K2:Blk w2 wr.heap.size 26 #[.int .u8 y.k,.int .i64 y.num,.string y.nm,.slice y.A y.n y.cap]:=by rw[hw];exact aQ
   have aP:=aA hb2;clear hw c0 c1 c2 c3 hb2;obtain⟨eL,eC,eF⟩:=K2.open_;clear K2;go_wp2_with fail;refine(CH.out d1 c aAn hc w2 bl (cG.out.trans (aP.out.mono (by omega))) f8 (fL.out.next aP.out)).mono ?_;rintro en w3 ⟨b,c',rfl,yK,NU,gD⟩;have HC:=aA yK;have dD:=aA NU;have jK:=aA ((s8.out.next aP.out).trans gD);clear eC eL eF yK NU gD;cases b with
   |false=>
    go_wp2_with fail;go_ret;exact⟨false,c',rfl,by simp,dD.out,jK.out⟩
   |true=>
    obtain⟨c2,rfl,rY⟩:=HC.out rfl;go_wp2_with fail;exact⟨⟨j+1,c2,by omega,by go_num,rY,dD.out,jK.out⟩,by simp[intOf];omega⟩
  ·obtain rfl:j=n:=by omega
   go_wp2_with fail;go_ret;exact⟨true,c,rfl,fun _=>⟨c,rfl,hc⟩,fL.out,s8.out⟩
theorem DF{w:World}{B:Nat}(bG:B<=w.heap.size):∀(d:Nat)(x:Nd),KV w B d x->tK w B x
 |0,_,h=>h.elim
 |d+1,x,h=>by
  obtain⟨_,_,f9,mD,_,hk⟩:=h;exact MR bG x (by unfold maxLen at mD;omega) fun i hi=>let ⟨y,h1,h2⟩:=hk i hi;⟨y,h1,DF bG d y h2⟩
def Np(w:World)(e:Ending)(w':World):Prop:=∃b:Bool,e=.returned (.bool b)∧Below w.heap.size w w'
theorem DE{w:World}{B d:Nat}(bG:B<=w.heap.size)(x:Nd)(hx:KV w B d x)(w':World)(hb:Below B w w'):Calls Tryz.prog 50 #[.agg #[.int .u8 x.k,.int .i64 x.num,.string x.nm,.slice x.A x.n x.cap]] w' fun e w''=>Np w' e w'':=by
 have HS:=aA (DF bG d x hx);have HB:=aA hb;have bC:B<=w'.heap.size:=by have:=hb.size;omega
 clear hx hb;unfold tK at HS;obtain⟨k,num,nm,A,n,cap⟩:=x;dsimp only at *;go_enter Tryz.func50,Tryz.ntmps50;go_upto_region 2 with fail;refine aB ?_;intro w1 aF;have aG:Below w'.heap.size w' w1:=(by rw[aF];go_grown);have K1:Blk w1 w'.heap.size 26 #[.int .u8 k,.int .i64 num,.string nm,.slice A n cap]:=(by rw[aF];exact aQ);have K2:Blk w1 (w'.heap.size+1) 3 #[.int .i64 200]:=(by rw[aF];exact aQ);have aO:=aA aG;have bI:=aA K2;obtain⟨aL,aJ,aK⟩:=K1.open_;clear aF aG K1 K2;go_wp2_with fail;refine(HS.out 24 200 (aH _) (aH _) w1 (w'.heap.size+1) (HB.out.trans (aO.out.mono bC)) (by omega) bI.out).mono ?_;rintro en w2 ⟨b,L',rfl,_,_,gD⟩;have HF:=aA gD;have hs:=aO.out.size;clear gD aL aJ aK;go_wp2_with fail;go_ret;exact⟨_,rfl,aO.out.trans (HF.out.below hs fun k hk=>by omega)⟩
set_option maxHeartbeats 8000000
def YP(w:World)(e:Ending)(w':World):Prop:=∃g:Int,e=.returned (.int .i64 g)∧Below w.heap.size w w'
theorem LU{w:World}{B d:Nat}(bG:B<=w.heap.size)(V:Option Addr)(nv cv:Nat)(vs:List Vr)(hv:VsAt w B V vs)(hnv:vs.length=nv)(Q:Option Addr)(nq cq:Nat)(ps:List Pc)(hq:PrsAt w B d Q ps)(hnq:ps.length=nq)(m:Nd)(hm:KV w B d m)(w':World)(hb:Below B w w'):
  Calls Tryz.prog 25 #[.agg #[.slice V nv cv,.slice Q nq cq,.int .u8 m.k,.int .i64 m.num,.string m.nm,.slice m.A m.n m.cap]] w' fun e w''=>YP w' e w'':=by
 have HGM:=aA (fun W hW=>DE bG m hm W hW);have HGP:=aA (fun(x:Nd)(hx:KV w B d x) W hW=>DE bG x hx W hW);have HV:=aA hv;have oG:=aA hnv;have HQ:=aA hq;have nH:=aA hnq;have HB:=aA hb;have bC:B<=w'.heap.size:=by have:=hb.size;omega
 clear hv hnv hq hnq hm hb;obtain⟨mk,mnum,mnm,mA,mn,mcap⟩:=m;dsimp only at *;go_enter Tryz.func25,Tryz.ntmps25;go_upto_region 1 with fail;refine aB ?_;intro w1 aF;have aG:Below w'.heap.size w' w1:=(by rw[aF];go_grown);have a9:Hid (Blk w1 w'.heap.size 28 #[.slice V nv cv,.slice Q nq cq,.int .u8 mk,.int .i64 mnum,.string mnm,.slice mA mn mcap]):=aA (by rw[aF];exact aQ);have aO:=aA aG;obtain⟨aL,aJ,aK⟩:=a9.out.open_;clear aF aG;by_cases h1:nv<=8;rotate_left
 ·have q1:decide (8<(nv:Int))=true:=by simp;omega
  go_wp2_with fail;go_ret;exact⟨1,rfl,aO.out⟩
 have q1:decide (8<(nv:Int))=false:=by simp;omega
 by_cases h2:nq<=5;rotate_left
 ·have q2:decide (5<(nq:Int))=true:=by simp;omega
  go_wp2_with fail;go_ret;exact⟨1,rfl,aO.out⟩
 have q2:decide (5<(nq:Int))=false:=by simp;omega
 go_wp2_with fail;refine(HGM.out w1 (HB.out.trans (aO.out.mono bC))).mono ?_;rintro en w2 ⟨b,rfl,hb2⟩;have aP:=aA (aO.out.next hb2);have bI:=aA (a9.out.next hb2);clear aL aJ aK hb2 a9;cases b with
 |true=>
  go_wp2_with fail;go_ret;exact⟨1,rfl,aP.out⟩
 |false=>
  obtain⟨aL,aJ,aK⟩:=bI.out.open_;go_wp2_with fail;clear aL aJ aK
  go_loopw [27] (fun v27 wr=>∃j:Nat,j<=nv∧v27=.int .i64 j∧Below w2.heap.size w2 wr) (fun v _=>nv-(intOf v).toNat)
  case atStart=>exact⟨0,fI _,rfl,aM _ _⟩
  case round=>
   obtain⟨j,hj,rfl,cF⟩:=hrel;have II:=aA cF;have cG:=aA (aP.out.next cF);have fL:=aA (bI.out.next cF);clear cF;by_cases e9:j<nv
   ·obtain⟨v,hvj⟩:∃v,vs[j]?=some v:=⟨_,dR (by have:=oG.out;omega)⟩
    obtain⟨g,o,eY,cR,c0,c1,c2⟩:=HV.out j v hvj;subst eY;have jL:Below B w wr:=HB.out.trans (cG.out.mono bC);have d0:=(jL.cell (p:=⟨g,o+j*3,none⟩) cR).trans c0;have d1:=(jL.cell (p:=⟨g,o+j*3+1,none⟩) cR).trans c1;have d2:=(jL.cell (p:=⟨g,o+j*3+2,none⟩) cR).trans c2;obtain⟨nm,k,len⟩:=v;dsimp only at d0 d1 d2;have j0:(0:Int)<=(j:Int):=by omega
    have j1:(j:Int)<(nv:Int):=by omega
    clear c0 c1 c2 hvj jL;by_cases hs:nm.size<=40
    ·have q3:decide (40<(nm.size:Int))=false:=by simp;omega
     go_wp2_with fail;exact⟨⟨j+1,by omega,by first|rfl|go_num,II.out.next (by go_grown)⟩,by simp[intOf];omega⟩
    ·have q3:decide (40<(nm.size:Int))=true:=by simp;omega
     go_wp2_with fail;go_ret;exact⟨1,rfl,cG.out.next (by go_grown)⟩
   ·obtain rfl:j=nv:=by omega
    obtain⟨aL,aJ,aK⟩:=fL.out.open_;obtain⟨wo,rfl⟩:∃wo:World,wo=wr:=⟨_,rfl⟩;go_wp2_with fail;clear aL aJ aK II bI aP
    go_loopw [39] (fun v39 wr=>∃i:Nat,i<=nq∧v39=.int .i64 i∧Below wo.heap.size wo wr) (fun v _=>nq-(intOf v).toNat)
    case atStart=>exact⟨0,fI _,rfl,aM _ _⟩
    case round=>
     obtain⟨i,hi,rfl,cF⟩:=hrel;have II:=aA cF;have Vu:=aA (cG.out.next cF);have iM:=cF.size;clear cF;by_cases xG:i<nq
     ·obtain⟨c,hci⟩:∃c,ps[i]?=some c:=⟨_,dR (by have:=nH.out;omega)⟩
      obtain⟨⟨g,o,eY,cR,c0,c1,c2,c3,c4,c5⟩,oJ,WA,DP,Sd,NT⟩:=HQ.out i c hci;subst eY;have jL:Below B w wr:=HB.out.trans (Vu.out.mono bC);have d0:=(jL.cell (p:=⟨g,o+i*6,none⟩) cR).trans c0;have d1:=(jL.cell (p:=⟨g,o+i*6+1,none⟩) cR).trans c1;have d2:=(jL.cell (p:=⟨g,o+i*6+2,none⟩) cR).trans c2;have d3:=(jL.cell (p:=⟨g,o+i*6+3,none⟩) cR).trans c3;have d4:=(jL.cell (p:=⟨g,o+i*6+4,none⟩) cR).trans c4;have d5:=(jL.cell (p:=⟨g,o+i*6+5,none⟩) cR).trans c5;have HGB:=aA (fun W hW=>HGP.out c.body NT W hW);have Tw:=aA oJ;have W8:=aA WA;obtain⟨cnm,cV,cn,cc,cvs,⟨bk,bnum,bnm,bA,bn,bc⟩⟩:=c;dsimp only at d0 d1 d2 d3 d4 d5 Sd;have j0:(0:Int)<=(i:Int):=by omega
      have j1:(i:Int)<(nq:Int):=by omega
      clear c0 c1 c2 c3 c4 c5 hci jL oJ WA DP NT;go_upto_region 12 with fail;refine aB ?_;intro w3 dP;have aT:Below wr.heap.size wr w3:=(by rw[dP];go_grown);have dD:Hid (Blk w3 wr.heap.size 64 #[.string cnm,.slice cV cn cc,.int .u8 bk,.int .i64 bnum,.string bnm,.slice bA bn bc]):=aA (by rw[dP];exact Blk.new _ _ _);have bD:=aA (Vu.out.next aT);have iN:=aA (II.out.next aT);clear dP aT d0 d1 d2 d3 d4 d5;obtain⟨rJ,mK,mJ⟩:=dD.out.open_;by_cases rX:cn<=10;rotate_left
      ·have q3:decide (10<(cn:Int))=true:=by simp;omega
       go_wp2_with fail;go_ret;exact⟨1,rfl,bD.out⟩
      have q3:decide (10<(cn:Int))=false:=by simp;omega
      by_cases rY:cnm.size<=40;rotate_left
      ·have q4:decide (40<(cnm.size:Int))=true:=by simp;omega
       go_wp2_with fail;go_ret;exact⟨1,rfl,bD.out⟩
      have q4:decide (40<(cnm.size:Int))=false:=by simp;omega
      go_wp2_with fail;refine(HGB.out w3 (HB.out.trans (bD.out.mono bC))).mono ?_;rintro en w4 ⟨b,rfl,bV⟩;have dQ:=aA (bD.out.next bV);have eG:=aA (dD.out.next bV);have EY:=aA (iN.out.next bV);clear rJ mK mJ bV q3 q4;cases b with
      |true=>
       go_wp2_with fail;go_ret;exact⟨1,rfl,dQ.out⟩
      |false=>
       obtain⟨rJ,mK,mJ⟩:=eG.out.open_;obtain⟨wi,rfl⟩:∃wi:World,wi=wr:=⟨_,rfl⟩;go_wp2_with fail;clear rJ mK mJ
       go_loopw [61] (fun v61 wr=>∃a:Nat,a<=cn∧v61=.int .i64 a∧Below w4.heap.size w4 wr) (fun v _=>cn-(intOf v).toNat)
       case atStart=>exact⟨0,fI _,rfl,aM _ _⟩
       case round=>
        obtain⟨a,ha,rfl,cF⟩:=hrel;have zH:=aA cF;have Bd:=aA (dQ.out.next cF);clear cF;by_cases han:a<cn
        ·obtain⟨v,hvj⟩:∃v,cvs[a]?=some v:=⟨_,dR (by have:=W8.out;omega)⟩
         obtain⟨gp,op,eY,N8,c0,c1,c2⟩:=Tw.out a v hvj;subst eY;have jL:Below B w wr:=HB.out.trans (Bd.out.mono bC);have d0:=(jL.cell (p:=⟨gp,op+a*3,none⟩) N8).trans c0;have d1:=(jL.cell (p:=⟨gp,op+a*3+1,none⟩) N8).trans c1;have d2:=(jL.cell (p:=⟨gp,op+a*3+2,none⟩) N8).trans c2;obtain⟨nm,k,len⟩:=v;dsimp only at d0 d1 d2;have a0:(0:Int)<=(a:Int):=by omega
         have a1:(a:Int)<(cn:Int):=by omega
         clear c0 c1 c2 hvj jL;by_cases hs:nm.size<=40
         ·have q3:decide (40<(nm.size:Int))=false:=by simp;omega
          go_wp2_with fail;exact⟨⟨a+1,by omega,by first|rfl|go_num,zH.out.next (by go_grown)⟩,by simp[intOf];omega⟩
         ·have q3:decide (40<(nm.size:Int))=true:=by simp;omega
          go_wp2_with fail;go_ret;exact⟨1,rfl,Bd.out.next (by go_grown)⟩
        ·obtain rfl:a=cn:=by omega
         go_wp2_with fail;exact⟨⟨i+1,by omega,by first|rfl|go_num,EY.out.next zH.out⟩,by simp[intOf];omega⟩
     ·obtain rfl:i=nq:=by omega
      go_wp2_with fail;go_ret;exact⟨0,rfl,Vu.out⟩
theorem FT{w:World}{B d:Nat}(bG:B<=w.heap.size)(V:Option Addr)(nv cv:Nat)(vs:List Vr)(hv:VsAt w B V vs)(hnv:vs.length=nv)(Q:Option Addr)(nq cq:Nat)(ps:List Pc)(hq:PrsAt w B d Q ps)(hnq:ps.length=nq)(m:Nd)(hm:KV w B d m){vC vI vO:Value}{cs:List (List Int)}{inp out:List Int}(hS:SW w (·<B) vC vI vO cs inp out)(w':World)(hb:Below B w w'):
  Calls Tryz.prog 15 #[.agg #[.slice V nv cv,.slice Q nq cq,.int .u8 m.k,.int .i64 m.num,.string m.nm,.slice m.A m.n m.cap],.agg #[vC,vI,vO]] w' fun e w''=>YP w' e w'':=by
 have Lk:=aA (fun W hW=>LU (cv:=cv) (cq:=cq) bG V nv vs hv hnv Q nq ps hq hnq m hm W hW);obtain⟨sv,d9,pG⟩:=hS.row;have GN:sv.length=cs.length:=by
  obtain⟨_,_,_,_,_,hR⟩:=d9;have:=hR.1;omega
 have YM:Hid (∀(i:Nat)(u:Value),sv[i]?=some u->∃A n c,u=.slice A n c):=aA fun i u h1=>by
  have hi:=(lgS.1 h1).1;obtain⟨A,c,e,_⟩:=pG i u (cs[i]'(by omega)) h1 (dR (by omega));exact⟨A,_,c,e⟩
 have F2:=aA GN;obtain⟨AC,cC,rfl,_,_,hR⟩:=d9;obtain⟨AI,cI,rfl,_⟩:=hS.inp;obtain⟨AO,cO,rfl,_⟩:=hS.out;have QS:=aA hR;have HB:=aA hb;have bC:B<=w'.heap.size:=by have:=hb.size;omega
 obtain⟨nc,hnc⟩:∃n,cs.length=n:=⟨_,rfl⟩;obtain⟨ni,hni⟩:∃n,inp.length=n:=⟨_,rfl⟩;obtain⟨no,hno⟩:∃n,out.length=n:=⟨_,rfl⟩;rw[hnc]at QS F2⊢;rw[hni,hno];clear pG hS hR hv hnv hq hnq hm hb GN hnc hni hno;obtain⟨mk,mnum,mnm,mA,mn,mcap⟩:=m;dsimp only at *;go_enter Tryz.func15,Tryz.ntmps15;go_upto_region 1 with fail;refine aB ?_;intro w1 aF;have aG:Below w'.heap.size w' w1:=(by rw[aF];go_grown);have bI:Hid (Blk w1 w'.heap.size 28 #[.slice V nv cv,.slice Q nq cq,.int .u8 mk,.int .i64 mnum,.string mnm,.slice mA mn mcap]):=aA (by rw[aF];exact aQ);have dD:Hid (Blk w1 (w'.heap.size+1) 32 #[.slice AC nc cC,.slice AI ni cI,.slice AO no cO]):=aA (by rw[aF];exact(Blk.new' (by simp) _ _));have aO:=aA aG;obtain⟨rJ,mK,mJ⟩:=dD.out.open_;clear aF aG;by_cases h1:nc<=40;rotate_left
 ·have q1:decide (40<(nc:Int))=true:=by simp;omega
  go_wp2_with fail;go_ret;exact⟨1,rfl,aO.out⟩
 have q1:decide (40<(nc:Int))=false:=by simp;omega
 by_cases h2:ni<=40;rotate_left
 ·have q2:decide (40<(ni:Int))=true:=by simp;omega
  go_wp2_with fail;go_ret;exact⟨1,rfl,aO.out⟩
 have q2:decide (40<(ni:Int))=false:=by simp;omega
 by_cases h3:no<=40;rotate_left
 ·have q3:decide (40<(no:Int))=true:=by simp;omega
  go_wp2_with fail;go_ret;exact⟨1,rfl,aO.out⟩
 have q3:decide (40<(no:Int))=false:=by simp;omega
 go_wp2_with fail;clear rJ mK mJ q1 q2 q3
 go_loopw [26] (fun v26 wr=>∃j:Nat,j<=nc∧v26=.int .i64 j∧Below w1.heap.size w1 wr) (fun v _=>nc-(intOf v).toNat)
 case atStart=>exact⟨0,fI _,rfl,aM _ _⟩
 case round=>
  obtain⟨j,hj,rfl,cF⟩:=hrel;have II:=aA cF;have cG:=aA (aO.out.next cF);clear cF;by_cases e9:j<nc
  ·obtain⟨u,huj⟩:∃u,sv[j]?=some u:=⟨_,dR (by have:=F2.out;omega)⟩
   obtain⟨Al,nl,cl,rfl⟩:=YM.out j u huj;obtain⟨g,o,hA,hg,hc⟩:=QS.out.2 (by omega);subst hA;have y0:wr.cell? ⟨g,o+j,none⟩=some (.slice Al nl cl):=((HB.out.trans (cG.out.mono bC)).cell (p:=⟨g,o+j,none⟩) hg).trans (hc j _ huj);have j0:(0:Int)<=(j:Int):=by omega
   have j1:(j:Int)<(nc:Int):=by omega
   clear huj hc;by_cases hs:nl<=40
   ·have q3:decide (40<(nl:Int))=false:=by simp;omega
    go_wp2_with fail;exact⟨⟨j+1,by omega,by first|rfl|go_num,II.out⟩,by simp[intOf];omega⟩
   ·have q3:decide (40<(nl:Int))=true:=by simp;omega
    go_wp2_with fail;go_ret;exact⟨1,rfl,cG.out⟩
  ·obtain rfl:j=nc:=by omega
   obtain⟨eL,eC,eF⟩:=(bI.out.next II.out).open_;go_wp2_with fail;refine(Lk.out wr (HB.out.trans (cG.out.mono bC))).mono ?_;rintro en w5 ⟨gg,rfl,cW⟩;have gL:=aA (cG.out.next cW);clear cW eL eC eF;go_wp2_with fail;go_ret;exact⟨gg,rfl,gL.out⟩
end Go.Proofs.YtakfdnnlhjhcfaaGreatDoor
