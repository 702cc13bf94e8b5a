/- Part of the proof. -/
import Derived.BigRegion
import Derived.Test.YtakfdnnlhjhcfaaGreatDoorA1
set_option linter.unusedVariables false
set_option linter.unusedSimpArgs false
set_option maxRecDepth 100000
set_option maxHeartbeats 4000000
namespace Bk
open Go Go.RowKit
def Ex.kids:Ex->List Ex
 |.item _ a=> [a]
 |.un _ a=> [a]
 |.bin _ a b=> [a,b]
 |_=> []
def Ex.sz:Ex->Nat
 |.item _ a=>1+a.sz
 |.un _ a=>1+a.sz
 |.bin _ a b=>1+(a.sz+b.sz)
 |_=>1
def Ex.dp:Ex->Nat
 |.item _ a=>a.dp+1
 |.un _ a=>a.dp+1
 |.bin _ a b=>max a.dp b.dp+1
 |_=>1
theorem Ex.ind{P:Ex->Prop}(h:∀e,(∀k∈e.kids,P k)->P e):∀e,P e:=by
 intro e
 induction e with
 |num v=>exact h _ (by simp[Ex.kids])
 |var s=>exact h _ (by simp[Ex.kids])
 |top s=>exact h _ (by simp[Ex.kids])
 |size s=>exact h _ (by simp[Ex.kids])
 |item s a ih=>exact h _ (by simpa[Ex.kids]using ih)
 |un op a ih=>exact h _ (by simpa[Ex.kids]using ih)
 |bin op a b iha ihb=>exact h _ (by simp[Ex.kids];exact⟨iha,ihb⟩)
theorem EV.kids{w:World}{B:Nat}{nb:ByteArray->Bool}{e:Ex}{x:Nd}(h:EV w B nb e x):x.n=e.kids.length∧∀i a,e.kids[i]?=some a->∃y,Kid w B x i y∧EV w B nb a y:=by
 cases e with
 |num v=>exact⟨h.2.2.2.2,fun i a ha=>by simp[Ex.kids]at ha⟩
 |var s=>exact⟨h.2.2.2.2,fun i a ha=>by simp[Ex.kids]at ha⟩
 |top s=>exact⟨h.2.2.2.2,fun i a ha=>by simp[Ex.kids]at ha⟩
 |size s=>exact⟨h.2.2.2.2,fun i a ha=>by simp[Ex.kids]at ha⟩
 |item s b=>
  obtain⟨_,_,_,_,h5,y,h6,h7⟩:=h;exact⟨h5,fun i a ha=>by rcases i with _|i<;>simp[Ex.kids]at ha;subst ha;exact⟨y,h6,h7⟩⟩
 |un op b=>
  obtain⟨_,_,_,_,h5,y,h6,h7⟩:=h;exact⟨h5,fun i a ha=>by rcases i with _|i<;>simp[Ex.kids]at ha;subst ha;exact⟨y,h6,h7⟩⟩
 |bin op b c=>
  obtain⟨_,_,_,_,h5,y,z,h6,h7,h8,h9⟩:=h;exact⟨h5,fun i a ha=>by
   rcases i with _|_|i<;>simp[Ex.kids]at ha
   ·subst ha;exact⟨y,h6,h8⟩
   ·subst ha;exact⟨z,h7,h9⟩⟩
theorem Kid.cells{w w':World}{B i:Nat}{x y:Nd}(h:Kid w B x i y)(hb:Below B w w'):∃g o,x.A=some ⟨g,o,none⟩∧g<B∧w'.cell? ⟨g,o+i*4,none⟩=some (.int .u8 y.k)∧w'.cell? ⟨g,o+i*4+1,none⟩=some (.int .i64 y.num)∧w'.cell? ⟨g,o+i*4+2,none⟩=some (.string y.nm)∧w'.cell? ⟨g,o+i*4+3,none⟩=some (.slice y.A y.n y.cap):=by
 obtain⟨g,o,h1,h2,h3⟩:=h.next hb;exact⟨g,o,h1,h2,h3 0 _ rfl,h3 1 _ rfl,h3 2 _ rfl,h3 3 _ rfl⟩
end Bk
namespace Go.Proofs.YtakfdnnlhjhcfaaGreatDoor
open Go.RowKit Bk
end Go.Proofs.YtakfdnnlhjhcfaaGreatDoor
namespace Bk
open Go Go.RowKit
structure Vr where
 nm:ByteArray
 k:Int
 len:Int
def aU(l:List Vr):List Value:=l.flatMap fun v=> [.string v.nm,.int .u8 v.k,.int .i64 v.len]
theorem l8(l:List Vr):(aU l).length=l.length*3:=by
 induction l with
 |nil=>rfl
 |cons a l ih=>simp[aU]at ih⊢;omega
theorem fS(l:List Vr):∀i v,l[i]?=some v->(aU l)[i*3]?=some (.string v.nm)∧(aU l)[i*3+1]?=some (.int .u8 v.k)∧(aU l)[i*3+2]?=some (.int .i64 v.len):=by
 induction l with
 |nil=>intro i v h;simp at h
 |cons a l ih=>
  intro i v h;cases i with
  |zero=>simp at h;subst h;exact⟨rfl,rfl,rfl⟩
  |succ i=>
   have:=ih i v (by simpa using h);have e:(i+1)*3=i*3+1+1+1:=by omega
   rw[e];exact this
def VsAt(w:World)(B:Nat)(A:Option Addr)(l:List Vr):Prop:=∀i v,l[i]?=some v->∃g o,A=some ⟨g,o,none⟩∧g<B∧w.cell? ⟨g,o+i*3,none⟩=some (.string v.nm)∧w.cell? ⟨g,o+i*3+1,none⟩=some (.int .u8 v.k)∧w.cell? ⟨g,o+i*3+2,none⟩=some (.int .i64 v.len)
theorem VsAt.next{w w':World}{B:Nat}{A:Option Addr}{l:List Vr}(h:VsAt w B A l)(hb:Below B w w'):VsAt w' B A l:=fun i v hi=>by
 obtain⟨g,o,h1,h2,h3,h4,h5⟩:=h i v hi;exact⟨g,o,h1,h2,(hb.cell (p:=⟨g,o+i*3,none⟩) h2).trans h3,(hb.cell (p:=⟨g,o+i*3+1,none⟩) h2).trans h4,(hb.cell (p:=⟨g,o+i*3+2,none⟩) h2).trans h5⟩
def Ex.vk:Ex->Int
 |.var _=>1
 |.item _ _=>2
 |.top _=>3
 |.size _=>3
 |_=>0
def Ex.nam:Ex->ByteArray
 |.var s=>s
 |.item s _=>s
 |.top s=>s
 |.size s=>s
 |_=>ByteArray.empty
def Ex.known(vs:List Vr):Ex->Prop
 |.var s=>∃v∈vs,v.nm=s∧v.k=1
 |.item s a=>(∃v∈vs,v.nm=s∧v.k=2)∧a.known vs
 |.top s=>∃v∈vs,v.nm=s∧v.k=3
 |.size s=>∃v∈vs,v.nm=s∧v.k=3
 |.num _=>True
 |.un _ a=>a.known vs
 |.bin _ a b=>a.known vs∧b.known vs
theorem EV.kind{w:World}{B:Nat}{nb:ByteArray->Bool}{e:Ex}{x:Nd}(h:EV w B nb e x):(x.k=2∧e.vk=1∧x.nm=e.nam)∨(x.k=3∧e.vk=2∧x.nm=e.nam)∨(x.k=4∧e.vk=3∧x.nm=e.nam)∨(x.k=5∧e.vk=3∧x.nm=e.nam)∨((x.k==2)=false∧(x.k==3)=false∧(x.k==4)=false∧(x.k==5)=false∧e.vk=0):=by
 cases e with
 |num v=>have:=h.1;exact .inr (.inr (.inr (.inr (by rw[this];exact⟨rfl,rfl,rfl,rfl,rfl⟩))))
 |var s=>exact .inl ⟨h.1,rfl,h.2.2.1⟩
 |item s a=>exact .inr (.inl ⟨h.1,rfl,h.2.2.1⟩)
 |top s=>exact .inr (.inr (.inl ⟨h.1,rfl,h.2.2.1⟩))
 |size s=>exact .inr (.inr (.inr (.inl ⟨h.1,rfl,h.2.2.1⟩)))
 |un op a=>have h1:=h.1;have h2:=h.2.1;exact .inr (.inr (.inr (.inr ⟨by simp;omega,by simp;omega,by simp;omega,by simp;omega,rfl⟩)))
 |bin op a b=>have h1:=h.1;have h2:=h.2.1;exact .inr (.inr (.inr (.inr ⟨by simp;omega,by simp;omega,by simp;omega,by simp;omega,rfl⟩)))
end Bk
namespace Go.Proofs.YtakfdnnlhjhcfaaGreatDoor
open Go.RowKit Bk
def CL(w:World)(B:Nat)(y:Nd)(R:Nat->Nat->Bool->Nat->Prop):Prop:=
 ∀dp lf:Nat,dp<=1000->lf<=1000000->∀(w':World)(bl:Nat),Below B w w'->B<=bl->Blk w' bl 3 #[.int .i64 (lf:Int)]->
  Calls Tryz.prog 53 #[.agg #[.int .u8 y.k,.int .i64 y.num,.string y.nm,.slice y.A y.n y.cap],.int .i64 (dp:Int),.pointer (some ⟨bl,0,none⟩)] w' fun en w''=>∃(b:Bool)(lf':Nat),en=.returned (.bool b)∧lf'<=lf∧R dp lf b lf'∧Blk w'' bl 3 #[.int .i64 (lf':Int)]∧Fr (fun k=>k=bl) w' w''
theorem Fe{w:World}{B:Nat}(bG:B<=w.heap.size)(x:Nd)(hn:x.n<=9223372036854775807){R:Nat->Nat->Bool->Nat->Prop}{Rk:Nat->Nat->Nat->Bool->Nat->Prop}{I:Nat->Nat->Nat->Nat->Prop}
  (dE:∀i,i<x.n->∃y,Kid w B x i y∧CL w B y (Rk i))
  (hz:∀dp lf,dp=0∨lf=0->R dp lf false lf)
  (h0:∀dp lf,I (dp+1) (lf+1) 0 lf)
  (hs:∀dp lf j c c',j<x.n->I (dp+1) lf j c->Rk j dp c true c'->I (dp+1) lf (j+1) c')
  (hf:∀dp lf j c c',j<x.n->I (dp+1) lf j c->Rk j dp c false c'->R (dp+1) lf false c')
  (ht:∀dp lf c,I (dp+1) lf x.n c->R (dp+1) lf true c):CL w B x R:=by
 intro dp lf hdp hlf w' bl hb f8 hk;obtain⟨k,num,nm,A,n,cap⟩:=x;have HB:=aA hb;have HK:=aA hk;have uB:=aA dE;have HZ:=aA hz;have H0:=aA h0;have HS:=aA hs;have HF:=aA hf;have HTT:=aA ht;have jL:=hk.lt;have bC:B<=w'.heap.size:=by have:=hb.size;omega
 dsimp only at *;clear hb dE hz h0 hs hf ht;obtain⟨G2,xT,E0⟩:=hk.open_;clear hk;by_cases Gg:dp=0
 ·subst Gg
  go_enter Tryz.func53,Tryz.ntmps53;go_wp2_with fail;go_ret;exact⟨false,lf,rfl,aH _,HZ.out 0 lf (.inl rfl),HK.out.next (by go_grown),Fr.of (by go_grown)⟩
 have ZB:((dp:Int)==0)=false:=by simpa using Gg
 by_cases hl0:lf=0
 ·subst hl0
  go_enter Tryz.func53,Tryz.ntmps53;go_wp2_with fail;go_ret;exact⟨false,0,rfl,aH _,HZ.out dp 0 (.inr rfl),HK.out.next (by go_grown),Fr.of (by go_grown)⟩
 have hl1:((lf:Int)==0)=false:=by simpa using hl0
 obtain⟨d1,rfl⟩:∃d1,dp=d1+1:=⟨dp-1,by omega⟩;obtain⟨l1,rfl⟩:∃l1,lf=l1+1:=⟨lf-1,by omega⟩;have aF:IntKind.i64.wrap (((l1+1:Nat):Int)-1)=(l1:Int):=by rw[wrap_small _ (by omega) (by omega)];omega
 have eD:IntKind.i64.wrap (((d1+1:Nat):Int)-1)=(d1:Int):=by rw[wrap_small _ (by omega) (by omega)];omega
 obtain⟨di,hdi⟩:∃di:Int,((d1+1:Nat):Int)=di:=⟨_,rfl⟩;obtain⟨li,hli⟩:∃li:Int,((l1+1:Nat):Int)=li:=⟨_,rfl⟩;rw[hdi]at ZB eD⊢;rw[hli]at hl1 aF xT HK;clear hdi hli;go_enter Tryz.func53,Tryz.ntmps53;go_upto_region 4 with fail;refine aB ?_;intro w1 hw;have K1:Blk w1 w'.heap.size 26 #[.int .u8 k,.int .i64 num,.string nm,.slice A n cap]:=by rw[hw];exact aQ
 have KL:Blk w1 bl 3 #[.int .i64 (l1:Int)]:=by rw[hw];exact Blk.next (show Blk (w'.setCell ⟨bl,0,none⟩ (.int .i64 (l1:Int))) bl 3 #[.int .i64 (l1:Int)] by simpa using HK.out.set_ 0 (.int .i64 (l1:Int))) ((aM _ _).alloc (aH _) _)
 have rU:Fr (fun k=>k=bl) w' w1:=by rw[hw];exact(Fr.set (O:=fun k=>k=bl) (Fr.refl _ _) (show bl=bl from rfl) _).alloc _
 have CF:=aA KL;have iL:=aA rU;have vV:w'.heap.size<w1.heap.size:=K1.lt;clear xT G2 E0 hw KL rU Gg hl0 ZB hl1 HK;obtain⟨aL,aJ,aK⟩:=K1.open_;clear K1;go_wp2_with fail;clear aJ aL aK
 go_loopw [25] (fun v25 wr=>∃(j c:Nat),j<=n∧v25=.int .i64 j∧c<=l1∧I (d1+1) (l1+1) j c∧Blk wr bl 3 #[.int .i64 (c:Int)]∧Fr (fun k=>k=bl) w' wr) (fun v _=>n-(intOf v).toNat)
 case atStart=>exact⟨0,l1,fI _,rfl,aH _,H0.out d1 l1,CF.out,iL.out⟩
 case round=>
  obtain⟨j,c,hj,rfl,hc,hI,NU,gD⟩:=hrel;have HI:=aA hI;have fL:=aA NU;have s8:=aA gD;have pD:Below B w wr:=HB.out.trans (gD.below bC (fun k hk=>hk▸f8));have cG:=aA pD;have wT:=gD.size;clear hI NU gD pD;by_cases e9:j<n
  ·obtain⟨y,cS,yP⟩:=uB.out j e9
   obtain⟨g,o,eY,cR,c0,c1,c2,c3⟩:=cS.cells cG.out;simp only at eY;subst eY;have CH:=aA yP;have j0:(0:Int)<=(j:Int):=by omega
   have j1:(j:Int)<(n:Int):=by omega
   clear cS yP;go_upto_region 7 with fail;refine aB ?_;intro w2 hw;have hb2:Below wr.heap.size wr w2:=by rw[hw];go_grown
   have K2:Blk w2 wr.heap.size 26 #[.int .u8 y.k,.int .i64 y.num,.string y.nm,.slice y.A y.n y.cap]:=by rw[hw];exact aQ
   have aP:=aA hb2;clear hw c0 c1 c2 c3 hb2;obtain⟨eL,eC,eF⟩:=K2.open_;clear K2;go_wp2_with fail;refine(CH.out d1 c (by omega) (by omega) w2 bl (cG.out.trans (aP.out.mono (by omega))) f8 (fL.out.next aP.out)).mono ?_;rintro en w3 ⟨b,c',rfl,yK,hR,NU,gD⟩;have HR:=aA hR;have dD:=aA NU;have jK:=aA ((s8.out.next aP.out).trans gD);clear eC eL eF hR NU gD;cases b with
   |false=>
    go_wp2_with fail;go_ret;exact⟨false,c',rfl,by omega,HF.out d1 (l1+1) j c c' e9 HI.out HR.out,dD.out,jK.out⟩
   |true=>
    go_wp2_with fail;exact⟨⟨j+1,c',by omega,by go_num,by omega,HS.out d1 (l1+1) j c c' e9 HI.out HR.out,dD.out,jK.out⟩,by simp[intOf];omega⟩
  ·obtain rfl:j=n:=by omega
   go_wp2_with fail;go_ret;exact⟨true,c,rfl,by omega,HTT.out d1 (l1+1) c HI.out,fL.out,s8.out⟩
def aY(s:Nat->Nat):Nat->Nat
 |0=>0
 |n+1=>aY s n+s n
def kU(d:Nat->Nat):Nat->Nat
 |0=>0
 |n+1=>max (kU d n) (d n)
theorem iC{s:Nat->Nat}{j n:Nat}(h:j<=n):aY s j<=aY s n:=by
 induction h with
 |refl=>exact aH _
 |step _ ih=>exact fC ih (by simp[aY])
theorem OR{d:Nat->Nat}{j n:Nat}(h:j<=n):kU d j<=kU d n:=by
 induction h with
 |refl=>exact aH _
 |step _ ih=>exact fC ih (by simp only[kU];omega)
def bX(r:Nat->Bool):Nat->Bool
 |0=>true
 |n+1=>bX r n&&r n
theorem sN{r:Nat->Bool}{j n:Nat}(h:j<n)(hr:r j=false):bX r n=false:=by
 induction n with
 |zero=>omega
 |succ n ih=>
  simp only[bX];by_cases e:j=n
  ·subst e;rw[hr,Bool.and_false]
  ·rw[ih (by omega),Bool.false_and]
theorem UY{w:World}{B:Nat}(bG:B<=w.heap.size)(x:Nd)(m:Nat)(hn:x.n=m)(hm:m<=1000)(fn:Nat->FuncId)(r:Nat->Bool)(ZC:∀i,i<m->∀args W,(callFunc (fn i) args).run Tryz.prog W=.ok (.enter (fn i) args) W)
  (dE:∀i,i<m->∃y,Kid w B x i y∧∀W,Below B w W->Calls Tryz.prog (fn i) #[.agg #[.int .u8 y.k,.int .i64 y.num,.string y.nm,.slice y.A y.n y.cap]] W fun en w''=>en=.returned (.bool (r i))∧Below W.heap.size W w'') (w':World) (hb:Below B w w') (h:Nat) (t:TypeId) (fs:Array Value) (hf:Blk w' h t fs) (ZH:∀i,i<m->fs[i]?=some (.func (.func (fn i)) #[] #[])):
  Calls Tryz.prog 120 #[.agg #[.int .u8 x.k,.int .i64 x.num,.string x.nm,.slice x.A x.n x.cap],.slice (some ⟨h,0,none⟩) m m] w' fun en w''=>en=.returned (.bool (bX r m))∧Below w'.heap.size w' w'':=by
 obtain⟨k,num,nm,A,n,cap⟩:=x;have HK:=aA dE;have HB:=aA hb;have HF:=aA hf;have V9:=aA ZH;have HEG:=aA ZC;have eI:=hf.lt;have Kb:Hid (∀j,j<m->r j=false->bX r m=false):=aA fun j h1 h2=>sN h1 h2
 obtain⟨rr,hrr⟩:∃rr,bX r m=rr:=⟨_,rfl⟩;have YJ:=aA hrr;dsimp only at *;rw[hrr]at Kb⊢;have C5:((n:Int) !=(m:Int))=false:=by simp;omega
 have HN:=aA hn;clear dE hb hf ZH hrr hn ZC;go_enter Tryz.func120,Tryz.ntmps120;go_upto_region 1 with fail;refine aB ?_;intro w1 aF;have lO:Below w'.heap.size w' w1:=by rw[aF];go_grown
 have K1:Blk w1 w'.heap.size 26 #[.int .u8 k,.int .i64 num,.string nm,.slice A n cap]:=by rw[aF];exact aQ
 clear aF;obtain⟨aL,aJ,aK⟩:=K1.open_;have tJ:=aA K1;clear K1;go_wp2_with fail;clear aJ aL aK
 go_loopw [15] (fun v15 wr=>∃j:Nat,j<=m∧v15=.int .i64 j∧bX r j=true∧Below w1.heap.size w1 wr) (fun v _=>m-(intOf v).toNat)
 case atStart=>exact⟨0,fI _,rfl,rfl,aM _ _⟩
 case round=>
  obtain⟨j,hj,rfl,fQ,cF⟩:=hrel;have cG:=aA cF;have gO:=aA fQ;have pD:Below w'.heap.size w' wr:=lO.next cF;clear cF fQ;by_cases NS:j<m
  ·obtain⟨y,cS,yP⟩:=HK.out j NS
   obtain⟨g,o,eY,cR,c0,c1,c2,c3⟩:=cS.cells (HB.out.trans (pD.mono (by have:=HB.out.size;omega)));simp only at eY;subst eY;have CH:=aA yP;have K2:=tJ.out.next cG.out;obtain⟨eL,eC,eF⟩:=K2.open_;have cf:wr.cell? ⟨h,j,none⟩=some (.func (.func (fn j)) #[] #[]):=((HF.out.next pD).cell j).trans (V9.out j NS);have j0:(0:Int)<=(j:Int):=by omega
   have j1:(j:Int)<(m:Int):=by omega
   have j2:(j:Int)<(n:Int):=by have:=HN.out;omega
   have eg':=HEG.out j NS;obtain⟨fj,hfj⟩:∃fj,fn j=fj:=⟨_,rfl⟩;rw[hfj]at cf eg' CH;clear cS yP K2 hfj;go_wp2_with fail;refine(CH.out _ (HB.out.trans (pD.mono (by have:=HB.out.size;omega)))).mono ?_;rintro en w2 ⟨rfl,hb2⟩;obtain⟨rj,hrj⟩:∃rj,r j=rj:=⟨_,rfl⟩;have o0:=aA hrj;have bD:=aA (cG.out.next hb2);rw[hrj];clear eC eL eF cf c0 c1 c2 c3 hrj;cases rj with
   |false=>
    obtain rfl:rr=false:=Kb.out j NS o0.out;go_wp2_with fail;go_ret;exact⟨rfl,pD.next hb2⟩
   |true=>
    go_wp2_with fail;exact⟨⟨j+1,by omega,by go_num,by simp only[bX];rw[gO.out,o0.out];rfl,bD.out⟩,by simp[intOf];omega⟩
  ·obtain rfl:j=m:=by omega
   obtain rfl:rr=true:=by rw[<-YJ.out];exact gO.out
   go_wp2_with fail;go_ret;exact⟨rfl,pD⟩
end Go.Proofs.YtakfdnnlhjhcfaaGreatDoor
namespace Bk
open Go Go.RowKit
structure JE(w:World) where
 out:World
 below:Below w.heap.size w out
def grow(w:World)(z:JE w):World:=z.out
theorem dM(w:World)(z:JE w):Below w.heap.size w (grow w z):=z.below
section
variable{P:Program}{f:FuncId}{args:Array Value}{w:World}{z:JE w}{v:Value}
theorem gS(h:Calls P f args (grow w z) fun e w'=>e=.returned v∧Below (grow w z).heap.size (grow w z) w'):Calls P f args (grow w z) fun e w''=>e=.returned v∧∃z':JE w,w''=grow w z':=
 h.mono fun _ w'⟨he,hb⟩=>⟨he,⟨w',z.below.next hb⟩,rfl⟩
end
theorem gJ{P:Program}{id:Nat}{Q:Exit->Act->World->Prop}{a:Act}{w:World}{l:List Oper}(hm:P.follows .mixedOrders=true)(hB:Region.lexB .any l.toArray=true)
  (h:∀W,W=w->wpQuiet P l.toArray (fun w'=>∃z:JE W,w'=grow W z) (fun a'=>∀w',(∃z:JE W,w'=grow W z)->Q .normal a' w') l a):(Code.region id l.toArray true).wp P Q a w:=
 wp_region_quiet (C:=fun w'=>∃z:JE w,w'=grow w z) hm hB ⟨⟨{w with drawn:=w.drawn+1},(aM _ _).drew⟩,rfl⟩ (by simpa using h w rfl)
def IntsAt(w:World)(B:Nat)(A:Option Addr)(l:List Int):Prop:=∀i(h:i<l.length),∃g o,A=some ⟨g,o,none⟩∧g<B∧w.cell? ⟨g,o+i,none⟩=some (.int .i64 l[i])
theorem IntsAt.next{w w':World}{B:Nat}{A:Option Addr}{l:List Int}(h:IntsAt w B A l)(hb:Below B w w'):IntsAt w' B A l:=fun i hi=>by
 obtain⟨g,o,h1,h2,h3⟩:=h i hi;exact⟨g,o,h1,h2,(hb.cell (p:=⟨g,o+i,none⟩) h2).trans h3⟩
def CsAt(w:World)(B:Nat)(A:Option Addr)(l:List (List Int)):Prop:=∀i c,l[i]?=some c->∃g o A' cap,A=some ⟨g,o,none⟩∧g<B∧w.cell? ⟨g,o+i,none⟩=some (.slice A' c.length cap)∧c.length<=cap∧(A'=none->cap=0)∧IntsAt w B A' c
theorem CsAt.next{w w':World}{B:Nat}{A:Option Addr}{l:List (List Int)}(h:CsAt w B A l)(hb:Below B w w'):CsAt w' B A l:=fun i c hi=>by
 obtain⟨g,o,A',cap,h1,h2,h3,h4,h5,h6⟩:=h i c hi;exact⟨g,o,A',cap,h1,h2,(hb.cell (p:=⟨g,o+i,none⟩) h2).trans h3,h4,h5,h6.next hb⟩
def Vr.fixed(v:Vr):Int:=if v.k=1 then 1 else v.len
def Vr.Ok(v:Vr):Prop:=((v.k=1∨v.k=3)∧v.len=0)∨(v.k=2∧1<=v.len∧v.len<=16)
structure aAS(vs:List Vr)(cs:List (List Int)):Prop where
 le:vs.length<=32
 ok:∀v∈vs,v.Ok
 len:cs.length=vs.length
 stk:∀(i:Nat)(v:Vr)(c:List Int),vs[i]?=some v->cs[i]?=some c->v.k=3->c.length<=1000
 fix:∀(i:Nat)(v:Vr)(c:List Int),vs[i]?=some v->cs[i]?=some c->v.k≠3->(c.length:Int)=v.fixed
end Bk
namespace Go.Proofs.YtakfdnnlhjhcfaaGreatDoor
open Go.RowKit Bk
end Go.Proofs.YtakfdnnlhjhcfaaGreatDoor
namespace Bk
open Go Go.RowKit
structure zM(k:Int)(n:Nat)(y:Nd):Prop where
 k:y.k=k
 num:y.num=0
 nm:y.nm.toList.isEmpty=true
 n:y.n=n
structure Zs(w:World)(B:Nat)(i x:Nd):Prop where
 p:zM 52 4 i
 k0:Kid w B i 0 x
 k1:∃b,Kid w B i 1 b∧zM 57 0 b
 k2:∃b,Kid w B i 2 b∧zM 57 0 b
 k3:Kid w B i 3 x
structure Zv(w:World)(B:Nat)(m x:Nd):Prop where
 p:zM 57 1 m
 k0:∃i,Kid w B m 0 i∧Zs w B i x
def uY(nb:ByteArray->Bool)(v:Vr):Bool:=nb v.nm&&(if v.k=1∨v.k=3 then decide (v.len=0)else if v.k=2 then decide (1<=v.len∧v.len<=16)else false)
end Bk
namespace Go.Proofs.YtakfdnnlhjhcfaaGreatDoor
open Go.RowKit Bk
theorem ML{w:World}{B:Nat}(bG:B<=w.heap.size)(m:Nd){R:Nat->Nat->Bool->Nat->Prop}(hl:CL w B m R)(rB:Bool)(hib:∀W,Below B w W->Calls Tryz.prog 54 #[.agg #[.int .u8 m.k,.int .i64 m.num,.string m.nm,.slice m.A m.n m.cap]] W fun en w''=>en=.returned (.bool rB)∧Below W.heap.size W w'')(w':World)(hb:Below B w w'):
  Calls Tryz.prog 28 #[.agg #[.int .u8 m.k,.int .i64 m.num,.string m.nm,.slice m.A m.n m.cap]] w' fun en w''=>(∃b lf,R 80 2000 b lf∧en=.returned (.bool (b&&rB)))∧Below w'.heap.size w' w'':=by
 have HL:Hid (∀W bl,Below B w W->B<=bl->Blk W bl 3 #[.int .i64 2000]->Calls Tryz.prog 53 #[.agg #[.int .u8 m.k,.int .i64 m.num,.string m.nm,.slice m.A m.n m.cap],.int .i64 80,.pointer (some ⟨bl,0,none⟩)] W fun en w''=>∃(b:Bool)(lf':Nat),en=.returned (.bool b)∧lf'<=2000∧R 80 2000 b lf'∧Blk w'' bl 3 #[.int .i64 (lf':Int)]∧Fr (fun k=>k=bl) W w''):=aA fun W bl h1 h2 h3=>hl 80 2000 (by omega) (by omega) W bl h1 h2 h3
 have HI:=aA hib;have HB:=aA hb;have bC:B<=w'.heap.size:=by have:=hb.size;omega
 clear hl hib hb;obtain⟨k,num,nm,A,n,cap⟩:=m;dsimp only at *;go_enter Tryz.func28,Tryz.ntmps28;go_upto_region 2 with fail;refine aB ?_;intro w1 aF;have aG:Below w'.heap.size w' w1:=by rw[aF];go_grown
 have K1:Blk w1 w'.heap.size 26 #[.int .u8 k,.int .i64 num,.string nm,.slice A n cap]:=by rw[aF];exact aQ
 have KL:Blk w1 (w'.heap.size+1) 3 #[.int .i64 2000]:=by rw[aF];exact Blk.new' (by simp) _ _
 have a9:=aA K1;have aO:=aA aG;have CF:=aA KL;clear aF aG KL;obtain⟨aL,aJ,aK⟩:=K1.open_;clear K1;go_wp2_with fail;refine(HL.out w1 (w'.heap.size+1) (HB.out.trans (aO.out.mono bC)) (by omega) CF.out).mono ?_;rintro en w2 ⟨b,lf,rfl,_,hR,_,iJ⟩;have hb2:Below w'.heap.size w' w2:=aO.out.trans (iJ.below (by have:=aO.out.size;omega) (fun k hk=>by omega));have aP:=aA hb2;have HR:=aA hR;have K2:=iJ.blk a9.out (by show¬w'.heap.size=w'.heap.size+1;omega);clear aJ aL aK hb2 iJ hR;obtain⟨aL,aJ,aK⟩:=K2.open_;clear K2;cases b with
 |false=>
  go_wp2_with fail;go_ret;exact⟨⟨false,lf,HR.out,by simp⟩,aP.out⟩
 |true=>
  go_wp2_with fail;refine(HI.out w2 (HB.out.trans (aP.out.mono bC))).mono ?_;rintro en w3 ⟨rfl,aT⟩;have bD:=aA (aP.out.next aT);clear aJ aL aK aT;go_wp2_with fail;go_ret;exact⟨⟨true,lf,HR.out,by simp⟩,bD.out⟩
theorem Z2{w:World}{B:Nat}(bG:B<=w.heap.size)(V:Option Addr)(nv cv:Nat)(vs:List Vr)(hv:VsAt w B V vs)(hnv:vs.length=nv)(d8:nv<=17592186043904)(r:Bool)(hr:r=true↔∀v∈vs,uY aS v=true)(w':World)(hb:Below B w w'):
  Calls Tryz.prog 26 #[.slice V nv cv] w' fun en w''=>en=.returned (.bool r)∧Below w'.heap.size w' w'':=by
 have HV:=aA hv;have oG:=aA hnv;have HB:=aA hb;have HR:=aA hr;clear hv hnv hb hr;go_enter Tryz.func26,Tryz.ntmps26;go_wp2_with fail
 go_loopw [7] (fun v7 wr=>∃j:Nat,j<=nv∧v7=.int .i64 j∧(∀i v,i<j->vs[i]?=some v->uY aS v=true)∧Below w'.heap.size w' wr) (fun v _=>nv-(intOf v).toNat)
 case atStart=>exact⟨0,fI _,rfl,(fun i v hi=>absurd hi (Nat.not_lt_zero _)),aM _ _⟩
 case round=>
  obtain⟨j,hj,rfl,jC,cF⟩:=hrel;have HP:=aA jC;have cG:=aA cF;clear jC;by_cases e9:j<nv
  ·obtain⟨v,hvj⟩:∃v,vs[j]?=some v:=⟨_,dR (by have:=oG.out;omega)⟩
   obtain⟨g,o,eY,cR,c0,c1,c2⟩:=(HV.out.next HB.out) j v hvj;subst eY;have oR:g<w'.heap.size:=by have:=HB.out.size;omega
   have d0:=(cF.cell (p:=⟨g,o+j*3,none⟩) oR).trans c0;have d1:=(cF.cell (p:=⟨g,o+j*3+1,none⟩) oR).trans c1;have d2:=(cF.cell (p:=⟨g,o+j*3+2,none⟩) oR).trans c2;have HF:Hid (uY aS v=false->r=false):=aA fun h=>by
    cases r with
    |false=>rfl
    |true=>have:=HR.out.1 rfl v (List.mem_of_getElem? hvj);rw[h]at this;cases this
   have HS:Hid (uY aS v=true->∀i u,i<j+1->vs[i]?=some u->uY aS u=true):=aA fun h i u hi hu=>(Nat.lt_succ_iff_lt_or_eq.1 hi).elim (fun h1=>HP.out i u h1 hu) (fun h1=>by subst h1;rw[hvj]at hu;injection hu with hu;subst hu;exact h)
   obtain⟨nm,k,len⟩:=v;dsimp only at d0 d1 d2;have j0:(0:Int)<=(j:Int):=by omega
   have j1:(j:Int)<(nv:Int):=by omega
   clear c0 c1 c2 hvj cF;go_upto_region 4 with fail;refine aB ?_;intro w2 eD;have hb2:Below wr.heap.size wr w2:=by rw[eD];go_grown
   have K2:Blk w2 wr.heap.size 72 #[.string nm,.int .u8 k,.int .i64 len]:=by rw[eD];exact aQ
   have aP:=aA (cG.out.next hb2);have bI:=aA K2;clear eD d0 d1 d2 hb2;obtain⟨eL,eC,eF⟩:=K2.open_;clear K2;go_wp2_with fail;refine(zY nm w2).mono ?_;rintro en w3 ⟨rfl,aT⟩;have bD:=aA (aP.out.next aT);have K3:=bI.out.next aT;clear eC eL eF aT;obtain⟨eL,eC,eF⟩:=K3.open_;clear K3;unfold uY at HF HS;dsimp only at HF HS;obtain⟨nb,hnb⟩:∃nb,aS nm=nb:=⟨_,rfl⟩;rw[hnb]at HF HS⊢;clear hnb;cases nb with
   |false=>
    obtain rfl:r=false:=HF.out (by simp);go_wp2_with fail;go_ret;exact⟨rfl,bD.out⟩
   |true=>
    by_cases U4:k=1∨k=3
    ·by_cases hl:len=0
     ·subst hl
      have mH:=aA (HS.out (by rw[if_pos U4];simp));clear HS HF;rcases U4 with rfl|rfl
      ·go_wp2_with fail
       exact⟨⟨j+1,by omega,by go_num,mH.out,bD.out⟩,by simp[intOf];omega⟩
      ·go_wp2_with fail
       exact⟨⟨j+1,by omega,by go_num,mH.out,bD.out⟩,by simp[intOf];omega⟩
     ·obtain rfl:r=false:=HF.out (by rw[if_pos U4];simp[hl])
      have oS:(len !=0)=true:=by simpa using hl
      clear HS HF;rcases U4 with rfl|rfl
      ·go_wp2_with fail
       go_ret;exact⟨rfl,bD.out⟩
      ·go_wp2_with fail
       go_ret;exact⟨rfl,bD.out⟩
    ·by_cases h2:k=2
     ·subst h2
      by_cases hl:1<=len∧len<=16
      ·have mH:=aA (HS.out (by rw[if_neg U4,if_pos rfl];simp[hl]))
       have l1:decide (len<1)=false:=by simp;omega
       have l2:decide (16<len)=false:=by simp;omega
       clear HS HF;go_wp2_with fail;exact⟨⟨j+1,by omega,by go_num,mH.out,bD.out⟩,by simp[intOf];omega⟩
      ·obtain rfl:r=false:=HF.out (by rw[if_neg U4,if_pos rfl];simpa using hl)
       clear HS HF;by_cases l1:len<1
       ·have l1':decide (len<1)=true:=by simpa using l1
        go_wp2_with fail;go_ret;exact⟨rfl,bD.out⟩
       ·have l1':decide (len<1)=false:=by simpa using l1
        have l2:decide (16<len)=true:=by simp;omega
        go_wp2_with fail;go_ret;exact⟨rfl,bD.out⟩
     ·obtain rfl:r=false:=HF.out (by rw[if_neg U4,if_neg h2];rfl)
      have e1:(k==1)=false:=by simp;omega
      have e2:(k==2)=false:=by simpa using h2
      have e3:(k==3)=false:=by simp;omega
      clear HS HF;go_wp2_with fail;go_ret;exact⟨rfl,bD.out⟩
  ·obtain rfl:j=nv:=by omega
   obtain rfl:r=true:=HR.out.2 fun v hv=>by
    obtain⟨i,hi⟩:=List.getElem?_of_mem hv;exact HP.out i v (by have:=(lgS.1 hi).1;have:=oG.out;omega) hi
   go_wp2_with fail;go_ret;exact⟨rfl,cG.out⟩
open Classical in
noncomputable def bO(w:World)(B:Nat)(x:Nd)(i:Nat):Nd:=if h:∃y,Kid w B x i y then Classical.choose h else⟨0,0,⟨#[]⟩,none,0,0⟩
theorem gH{w:World}{B i:Nat}{x y:Nd}(h:Kid w B x i y):bO w B x i=y:=by
 unfold bO;rw[dif_pos ⟨y,h⟩];exact Kid.one (Classical.choose_spec (⟨y,h⟩:∃y,Kid w B x i y)) h
theorem bE{w:World}{B d i:Nat}{x:Nd}(h:KV w B (d+1) x)(hi:i<x.n):Kid w B x i (bO w B x i)∧KV w B d (bO w B x i):=by
 obtain⟨_,_,_,_,_,hk⟩:=h;obtain⟨y,h1,h2⟩:=hk i hi;rw[gH h1];exact⟨h1,h2⟩
open Classical in
noncomputable def j8(w:World)(B:Nat)(x:Nd):Bool:=decide (zL w B aS x)
noncomputable def oU(w:World)(B:Nat)(x:Nd):Bool:=(decide (x.k=2)||decide (x.k=3))&&j8 w B x
noncomputable def T4(w:World)(B:Nat)(x:Nd):Bool:=decide (x.k=2)&&j8 w B x
def d7(x:Nd):Bool:=decide (x.num=0)&&x.nm.toList.isEmpty
def jE(x:Nd):Bool:=decide (x.num=0)&&aS x.nm
inductive Ts where
 |ex|pl|bl
deriving DecidableEq
mutual
noncomputable def D3(w:World)(B:Nat):Nat->Nd->Bool
 |0,_=>false
 |d+1,x=>
  let kids:=fun(m:Nat)(t:Nat->Nd->Bool)=>decide (x.n=m)&&bX (fun i=>t i (bO w B x i)) m
  if x.k=40∨x.k=41∨x.k=42∨x.k=56 then d7 x&&kids 2 (fun i y=>if i=0 then oU w B y else j8 w B y)
  else if x.k=43 then d7 x&&kids 2 (fun _ y=>oU w B y)
  else if x.k=44∨x.k=45 then jE x&&kids 1 (fun _ y=>oU w B y)
  else if x.k=46∨x.k=47∨x.k=48∨x.k=49 then d7 x&&kids 1 (fun _ y=>oU w B y)
  else if x.k=50∨x.k=51 then jE x&&(decide (x.n<=8)&&bX (fun i=>T4 w B (bO w B x i)) x.n)
  else if x.k=52∨x.k=53 then d7 x&&kids 4 (fun i y=>if i=0∨i=3 then j8 w B y else p7 w B d y)
  else if x.k=54 then jE x&&kids 3 (fun i y=>if i=1 then p7 w B d y else j8 w B y)
  else if x.k=55 then jE x&&kids 1 (fun _ y=>p7 w B d y)
  else false
noncomputable def p7(w:World)(B:Nat):Nat->Nd->Bool
 |0,_=>false
 |d+1,x=>decide (x.k=57)&&(d7 x&&bX (fun i=>D3 w B d (bO w B x i)) x.n)
end
theorem sS{w:World}{B d:Nat}(bG:B<=w.heap.size)(x:Nd)(hx:KV w B d x)(w':World)(hb:Below B w w'):
  Calls Tryz.prog 122 #[.agg #[.int .u8 x.k,.int .i64 x.num,.string x.nm,.slice x.A x.n x.cap]] w' fun en w''=>en=.returned (.bool (j8 w B x))∧Below w'.heap.size w' w'':=
 uZ bG d x hx w' hb _ (by simp[j8])
theorem iU{w:World}{B d:Nat}(bG:B<=w.heap.size)(x:Nd)(hx:KV w B d x)(w':World)(hb:Below B w w'):
  Calls Tryz.prog 121 #[.agg #[.int .u8 x.k,.int .i64 x.num,.string x.nm,.slice x.A x.n x.cap]] w' fun en w''=>en=.returned (.bool (oU w B x))∧Below w'.heap.size w' w'':=by
 have HE:Hid (∀W,Below B w W->Calls Tryz.prog 122 #[.agg #[.int .u8 x.k,.int .i64 x.num,.string x.nm,.slice x.A x.n x.cap]] W fun en w''=>en=.returned (.bool (j8 w B x))∧Below W.heap.size W w''):=aA fun W hW=>sS bG x hx W hW
 have HB:=aA hb;have bC:B<=w'.heap.size:=by have:=hb.size;omega
 unfold oU;obtain⟨rE,hrE⟩:∃r,j8 w B x=r:=⟨_,rfl⟩;rw[hrE]at HE⊢;clear hx hb hrE;obtain⟨k,num,nm,A,n,cap⟩:=x;dsimp only at *;by_cases h2:k=2∨k=3
 ·have e0:(decide (k=2)||decide (k=3))=true:=by simpa using h2
  rw[e0];clear e0;go_enter Tryz.func121,Tryz.ntmps121;go_upto_region 1 with fail;refine aB ?_;intro w1 aF;have aG:Below w'.heap.size w' w1:=by rw[aF];go_grown
  have K1:Blk w1 w'.heap.size 26 #[.int .u8 k,.int .i64 num,.string nm,.slice A n cap]:=by rw[aF];exact aQ
  have aO:=aA aG;clear aF aG;obtain⟨aL,aJ,aK⟩:=K1.open_;clear K1;rcases h2 with rfl|rfl
  all_goals
   go_wp2_with fail;refine(HE.out w1 (HB.out.trans (aO.out.mono bC))).mono ?_;rintro en w2 ⟨rfl,hb2⟩;have aP:=aA (aO.out.next hb2);clear aJ aL aK hb2;go_wp2_with fail;go_ret;exact⟨by simp,aP.out⟩
 ·have e1:(k==2)=false:=by simp;omega
  have e2:(k==3)=false:=by simp;omega
  have e0:(decide (k=2)||decide (k=3))=false:=by simp;omega
  rw[e0];go_enter Tryz.func121,Tryz.ntmps121;go_wp2_with fail;go_ret;exact⟨by simp,by go_grown⟩
theorem UX{w:World}{B d:Nat}(bG:B<=w.heap.size)(x:Nd)(hx:KV w B d x)(w':World)(hb:Below B w w'):
  Calls Tryz.prog 124 #[.agg #[.int .u8 x.k,.int .i64 x.num,.string x.nm,.slice x.A x.n x.cap]] w' fun en w''=>en=.returned (.bool (T4 w B x))∧Below w'.heap.size w' w'':=by
 have HE:Hid (∀W,Below B w W->Calls Tryz.prog 122 #[.agg #[.int .u8 x.k,.int .i64 x.num,.string x.nm,.slice x.A x.n x.cap]] W fun en w''=>en=.returned (.bool (j8 w B x))∧Below W.heap.size W w''):=aA fun W hW=>sS bG x hx W hW
 have HB:=aA hb;have bC:B<=w'.heap.size:=by have:=hb.size;omega
 unfold T4;obtain⟨rE,hrE⟩:∃r,j8 w B x=r:=⟨_,rfl⟩;rw[hrE]at HE⊢;clear hx hb hrE;obtain⟨k,num,nm,A,n,cap⟩:=x;dsimp only at *;by_cases h2:k=2
 ·subst h2
  go_enter Tryz.func124,Tryz.ntmps124;go_upto_region 1 with fail;refine aB ?_;intro w1 aF;have aG:Below w'.heap.size w' w1:=by rw[aF];go_grown
  have K1:Blk w1 w'.heap.size 26 #[.int .u8 2,.int .i64 num,.string nm,.slice A n cap]:=by rw[aF];exact aQ
  have aO:=aA aG;clear aF aG;obtain⟨aL,aJ,aK⟩:=K1.open_;clear K1;go_wp2_with fail;refine(HE.out w1 (HB.out.trans (aO.out.mono bC))).mono ?_;rintro en w2 ⟨rfl,hb2⟩;have aP:=aA (aO.out.next hb2);clear aJ aL aK hb2;go_wp2_with fail;go_ret;exact⟨by simp,aP.out⟩
 ·have e1:(k==2)=false:=by simpa using h2
  go_enter Tryz.func124,Tryz.ntmps124;go_wp2_with fail;go_ret;exact⟨by simp[h2],by go_grown⟩
theorem lL{w:World}{B:Nat}(bG:B<=w.heap.size)(x:Nd)(m:Nat)(hm:m<=1000)(fn:Nat->FuncId)(r:Nat->Bool)(ZC:∀i,i<m->∀args W,(callFunc (fn i) args).run Tryz.prog W=.ok (.enter (fn i) args) W)
  (dE:x.n=m->∀i,i<m->∃y,Kid w B x i y∧∀W,Below B w W->Calls Tryz.prog (fn i) #[.agg #[.int .u8 y.k,.int .i64 y.num,.string y.nm,.slice y.A y.n y.cap]] W fun en w''=>en=.returned (.bool (r i))∧Below W.heap.size W w'') (w':World) (hb:Below B w w') (h:Nat) (t:TypeId) (fs:Array Value) (hf:Blk w' h t fs) (ZH:∀i,i<m->fs[i]?=some (.func (.func (fn i)) #[] #[])):
  Calls Tryz.prog 120 #[.agg #[.int .u8 x.k,.int .i64 x.num,.string x.nm,.slice x.A x.n x.cap],.slice (some ⟨h,0,none⟩) m m] w' fun en w''=>en=.returned (.bool (decide (x.n=m)&&bX r m))∧Below w'.heap.size w' w'':=by
 by_cases hn:x.n=m
 ·rw[show(decide (x.n=m))=true by simpa using hn,Bool.true_and]
  exact UY bG x m hn hm fn r ZC (dE hn) w' hb h t fs hf ZH
 ·rw[show(decide (x.n=m))=false by simpa using hn,Bool.false_and]
  obtain⟨k,num,nm,A,n,cap⟩:=x;dsimp only at *;have C5:((n:Int) !=(m:Int))=true:=by simp;omega
  clear dE ZC ZH hf hb;go_enter Tryz.func120,Tryz.ntmps120;go_wp2_with fail;go_ret;exact⟨rfl,by go_grown⟩
end Go.Proofs.YtakfdnnlhjhcfaaGreatDoor
