/- Part of the proof. -/
import Derived.Test.YtakfdnnlhjhcfaaGreatDoorCards
import Derived.Test.YtakfdnnlhjhcfaaGreatDoorTie
import Derived.Below
import Derived.ChangeSame
import Derived.ChangeArms
import Derived.OpenShut
import Derived.WideKeyArgs
import Derived.ProofKit
import Derived.Lib.LaidTab
import Derived.SizedLaws
import Derived.Deep.DeepHandedRow
import Derived.Test.YtakfdnnlhjhcfaaGreatDoorA42
set_option linter.unusedVariables false
set_option linter.unusedSimpArgs false
set_option maxRecDepth 100000
namespace Bk
open Go Go.RowKit
theorem KV.le{w:World}{B:Nat}:∀{d d':Nat}{x:Nd},d<=d'->KV w B d x->KV w B d' x
 |0,_,_,_,h=>h.elim
 |d+1,0,_,hd,_=>by omega
 |d+1,d'+1,x,hd,h=>by
  obtain⟨h1,h2,h3,h4,h5,h6⟩:=h;exact⟨h1,h2,h3,h4,h5,fun i hi=>let ⟨y,hy,hk⟩:=h6 i hi;⟨y,hy,KV.le (by omega) hk⟩⟩
end Bk
namespace Go.Proofs.YtakfdnnlhjhcfaaGreatDoor
open Go.RowKit Go.ChangeShapes Go.WideShapes Go.ChangeAt Bk
theorem WK:laidOutB Tryz.prog=true:=by kernel_rfl
section
variable{H:Type}{enc:TypeId×Value->H}{w:World}{base:Nat}{spare:Nat->Bool}{pH:Bool}
theorem aAN{n:Int}(h:(Lit.int .i64 n).wf=true): -9223372036854775808<=n∧n<=9223372036854775807:=by
 simp[Lit.wf,IntKind.min,IntKind.max,IntKind.signed,IntKind.bits]at h;omega
theorem wf8{n:Int}(h:(Lit.int .u8 n).wf=true):0<=n∧n<=255:=by
 simp[Lit.wf,IntKind.min,IntKind.max,IntKind.signed,IntKind.bits]at h;omega
theorem uK{a:Addr}(h:a.spot=none)(j:Nat):a.add j=⟨a.block,a.off+j,none⟩:=by
 obtain⟨b,o,s⟩:=a;simp only at h;subst h;unfold Addr.add;split
 ·rename_i h0;subst h0;rfl
 ·rfl
theorem aAM{n:Int}(h:(Lit.int .u16 n).wf=true):0<=n∧n<=65535:=by
 simp[Lit.wf,IntKind.min,IntKind.max,IntKind.signed,IntKind.bits]at h;omega
theorem uW{α:Type}(x0:α){P:Nat->α->Prop}:∀n,(∀i,i<n->∃x,P i x)->∃l:List α,l.length=n∧∀i,i<n->P i (l.getD i x0)
 |0,_=>⟨[],rfl,fun i hi=>by omega⟩
 |n+1,h=>by
  obtain⟨l,hl,hp⟩:=uW x0 n fun i hi=>h i (by omega)
  obtain⟨x,hx⟩:=h n (by omega);refine⟨l++ [x],by simp[hl],fun i hi=>?_⟩;rcases Nat.lt_or_ge i n with eI|mS
  ·have:(l++ [x]).getD i x0=l.getD i x0:=by
    rw[eX,eX,List.getElem?_append_left (by omega)]
   rw[this];exact hp i eI
  ·obtain rfl:i=n:=by omega
   have:(l++ [x]).getD i x0=x:=by
    rw[eX,List.getElem?_append_right (by omega)];simp[hl]
   rw[this];exact hx
theorem vL{α:Type}(f:α->List Value)(sz:Nat)(hf:∀x,(f x).length=sz)(x0:α):∀(l:List α)(i j:Nat),i<l.length->j<sz->(l.flatMap f)[i*sz+j]?=(f (l.getD i x0))[j]?
 |a::l,0,j,_,hj=>by simp[List.flatMap_cons,List.getElem?_append_left,hf,hj]
 |a::l,i+1,j,hi,hj=>by
  rw[List.flatMap_cons,List.getElem?_append_right (by rw[hf];simp[Nat.succ_mul];omega),hf,show(i+1)*sz+j-sz=i*sz+j by rw[Nat.succ_mul];omega];rw[vL f sz hf x0 l i j (by simpa using hi) hj];rfl
 | [],i,j,hi,_=>by simp at hi
theorem vM{α:Type}(f:α->List Value)(sz:Nat)(hf:∀x,(f x).length=sz):∀(l:List α),(l.flatMap f).length=l.length*sz
 | []=>by simp
 |a::l=>by rw[List.flatMap_cons,List.length_append,vM f sz hf l,hf,List.length_cons,Nat.succ_mul];omega
def I64(n:Int):Prop:= -9223372036854775808<=n∧n<=9223372036854775807
theorem rQ:Tryz.prog.cellsOf 3=1:=by kernel_rfl
theorem L1:Tryz.prog.cellsOf 5=1:=by kernel_rfl
theorem uT:Tryz.prog.cellsOf 64=6:=by kernel_rfl
theorem J8:Tryz.prog.cellsOf 23=1:=by kernel_rfl
theorem Y9:Tryz.prog.cellsOf 28=6:=by kernel_rfl
theorem J9:Tryz.prog.cellsOf 32=3:=by kernel_rfl
theorem I5:8<=Tryz.prog.bytesOf 72:=of_decide_eq_true (by kernel_rfl)
theorem Y3:8<=Tryz.prog.bytesOf 64:=of_decide_eq_true (by kernel_rfl)
theorem qX{t e:TypeId}{sz:Nat}(ht:Tryz.prog.underlying t=some (.slice e))(hce:Tryz.prog.cellsOf e=sz)(h0:0<sz){α:Type}(x0:α){Q:α->DataW H->Prop}(f:α->List Value)(hfl:∀x,(f x).length=sz)
  (pG:∀fuel cs x,DataW.trod enc Tryz.prog w base spare pH fuel e cs=some x->∃y,Q y x.1∧cs=f y) {fuel:Nat} {c:Value} {x:DataW H×List MemPlace} (h:DataW.trod enc Tryz.prog w base spare pH fuel t [c]=some x):
  ∃(A:Option Addr)(n cap:Nat)(l:List α),c=.slice A n cap∧l.length=n∧n<=cap∧(A=none->cap=0)∧Rd w (·<w.heap.size) sz A n (l.flatMap f)∧
   (n=0∨∃ds sp,x.1=.slice ds sp∧ds.length=n∧∀i,i<n->∃di,ds[i]?=some di∧Q (l.getD i x0) di):=by
 rcases DataW.trod_slice ht h with⟨hc,_⟩|⟨a,len,cap,elems,rest,n,_,hc,hx,_,hlc,_,hlen,aAp,_⟩
 ·exact⟨none,0,0,[],by simpa using hc,rfl,aH _,fun _=>rfl,Rd.none_ _,.inl rfl⟩
 ·have one:∀i,i<len->∃y:α,(∃di,(elems.map (·.1))[i]?=some di∧Q y di)∧∀j,j<sz->w.cell? (a.add (i*sz+j))=(f y)[j]?:=by
   intro i hi;have h1:=aAp i hi;have N6:=dR (l:=elems) (i:=i) (by omega);rw[N6,hce]at h1;obtain⟨cs',yK,hto⟩:=Option.bind_eq_some_iff.1 h1;obtain⟨y,hy,rfl⟩:=pG _ _ _ hto;obtain⟨_,_,nS⟩:=World.cells?_some yK;refine⟨y,⟨_,by rw[List.getElem?_map,N6];rfl,hy⟩,fun j hj=>?_⟩;rw[<-nS j hj];congr 1;unfold Addr.add;split<;>split<;>(try split)<;>simp_all<;>omega
  obtain⟨l,hl,hp⟩:=uW x0 len one;refine⟨some a,len,cap,l,by simpa using hc,hl,hlc,(fun e=>by cases e),⟨by rw[vM f sz hfl,hl],fun hn=>?_⟩,.inr ⟨elems.map (·.1),rest.map (·.1),by rw[hx],by simpa using hlen,fun i hi=>(hp i hi).1⟩⟩;have NC:=(hp 0 hn).2 0 h0;have Ru:∃u,(f (l.getD 0 x0))[0]?=some u:=⟨_,dR (by rw[hfl];exact h0)⟩;obtain⟨u0,hu0⟩:=Ru;rw[hu0]at NC;have AR:a.spot=none:=by
   cases hs:a.spot with
   |none=>rfl
   |some s=>simp[Addr.add,World.cell?,hs]at NC;split at NC<;>simp at NC
  have C4:a.block<w.heap.size:=by
   rcases Nat.lt_or_ge a.block w.heap.size with eI|mS
   ·exact eI
   ·simp[Addr.add,World.cell?,Array.getElem?_eq_none mS]at NC
  refine⟨a.block,a.off,by rw[<-AR],C4,fun j u hu=>?_⟩;have hj:j<len*sz:=by
   rcases Nat.lt_or_ge j (l.flatMap f).length with eI|mS
   ·rw[vM f sz hfl,hl]at eI;exact eI
   ·rw[List.getElem?_eq_none mS]at hu;cases hu
  have e:j=j/sz*sz+j%sz:=by rw[Nat.mul_comm];exact(Nat.div_add_mod j sz).symm
  have hd:j/sz<len:=(Nat.div_lt_iff_lt_mul h0).2 hj;have hm:j%sz<sz:=Nat.mod_lt _ h0;rw[e,vL f sz hfl x0 l (j/sz) (j%sz) (by omega) hm,<-(hp (j/sz) hd).2 (j%sz) hm,<-e]at hu;rw[<-hu,uK AR]
theorem o7:Tryz.prog.cellsOf 30=1:=by kernel_rfl
theorem J6:Tryz.prog.cellsOf 29=1:=by kernel_rfl
theorem Hj{n:Int}(h:(Lit.int .i64 n).wf=true):I64 n:=by have:=aAN h;unfold I64;omega
theorem BW{fuel:Nat}{cs:List Value}{x:DataW H×List MemPlace}(h:DataW.trod enc Tryz.prog w base spare pH fuel 3 cs=some x):∃n,I64 n∧cs= [.int .i64 n]:=by
 obtain⟨n,hc,_,hw⟩:=DataW.trod_int Tryz.underlying3 h;exact⟨n,Hj hw,hc⟩
theorem GE(l:List Int):(l.flatMap fun x=> [Value.int .i64 x])=aC l:=by
 unfold aC
 induction l with
 |nil=>rfl
 |cons a l ih=>rw[List.flatMap_cons,ih];rfl
theorem sL{fuel:Nat}{c:Value}{x:DataW H×List MemPlace}(h:DataW.trod enc Tryz.prog w base spare pH fuel 30 [c]=some x):
  ∃l:List Int,(∀y∈l,I64 y)∧Sl w (·<w.heap.size) 1 c l.length (aC l)∧(l.length=0∨∃ds sp,x.1=.slice ds sp∧ds.length=l.length):=by
 obtain⟨A,n,cap,l,rfl,rfl,h1,h2,h3,h4⟩:=qX (Q:=fun y _=>I64 y) Tryz.underlying30 rQ Nat.one_pos (0:Int) (fun x=> [.int .i64 x]) (fun _=>rfl) (fun _ _ _ h=>BW h) h;rw[GE]at h3;refine⟨l,fun y hy=>?_,⟨A,cap,rfl,h1,h2,h3⟩,h4.imp id fun⟨ds,sp,e1,e2,_⟩=>⟨ds,sp,e1,e2⟩⟩;obtain⟨i,hi,rfl⟩:=List.mem_iff_getElem.1 hy;rcases h4 with h4|⟨ds,sp,_,_,h5⟩
 ·omega
 ·obtain⟨_,_,hq⟩:=h5 i hi
  rwa [eX,dR hi]at hq
theorem BX{fuel:Nat}{c:Value}{x:DataW H×List MemPlace}(h:DataW.trod enc Tryz.prog w base spare pH fuel 29 [c]=some x):
  ∃(ss:List (List Int))(sv:List Value),(∀l∈ss,∀y∈l,I64 y)∧Sl w (·<w.heap.size) 1 c ss.length sv∧SvRd w (·<w.heap.size) sv ss∧∀l∈ss,l.length=0∨∃ds sp d' GY,x.1=.slice ds sp∧DataW.slice d' GY∈ds∧d'.length=l.length:=by
 obtain⟨A,n,cap,l,rfl,rfl,h1,h2,h3,h4⟩:=qX
  (Q:=fun(y:Value×List Int) d=>(∀z∈y.2,I64 z)∧Sl w (·<w.heap.size) 1 y.1 y.2.length (aC y.2)∧(y.2.length=0∨∃d' GY,d=DataW.slice d' GY∧d'.length=y.2.length))
  Tryz.underlying29 o7 Nat.one_pos ((Value.slice none 0 0,[]):Value×List Int) (fun y=> [y.1]) (fun _=>rfl)
  (fun fuel cs x hx=>by
   have hl:cs.length=1:=by
    rcases DataW.trod_slice Tryz.underlying30 hx with⟨hc,_⟩|⟨_,_,_,_,_,_,_,hc,_⟩<;>rw[hc]<;>rfl
   match cs,hl with
   | [c'],_=>
    obtain⟨l,k1,k2,k3⟩:=sL hx;exact⟨(c',l),⟨k1,k2,k3⟩,rfl⟩) h
 have key:∀i,i<l.length->(∀z∈(l.getD i (Value.slice none 0 0,[])).2,I64 z)∧Sl w (·<w.heap.size) 1 (l.getD i (Value.slice none 0 0,[])).1 (l.getD i (Value.slice none 0 0,[])).2.length (aC (l.getD i (Value.slice none 0 0,[])).2)∧((l.getD i (Value.slice none 0 0,[])).2.length=0∨∃ds sp d' GY,x.1=.slice ds sp∧DataW.slice d' GY∈ds∧d'.length=(l.getD i (Value.slice none 0 0,[])).2.length):=by
  intro i hi;rcases h4 with h4|⟨ds,sp,hx,_,h5⟩
  ·omega
  ·obtain⟨di,hdi,q1,q2,q3⟩:=h5 i hi
   refine⟨q1,q2,q3.imp id fun⟨d',GY,e1,e2⟩=>⟨ds,sp,d',GY,hx,?_,e2⟩⟩;rw[<-e1];exact List.mem_of_getElem? hdi
 have get:∀i(hi:i<l.length),l.getD i (Value.slice none 0 0,[])=l[i]:=fun i hi=>by rw[eX,dR hi];rfl
 have hsv:(l.flatMap fun y=> [y.1])=l.map (·.1):=by
  generalize l=l'
  induction l' with
  |nil=>rfl
  |cons a l ih=>rw[List.flatMap_cons,ih];rfl
 rw[hsv]at h3;refine⟨l.map (·.2),l.map (·.1),fun m hm=>?_,⟨A,cap,by rw[List.length_map],by rw[List.length_map];exact h1,h2,by rw[List.length_map];exact h3⟩,⟨by simp,fun k hk=>?_⟩,fun m hm=>?_⟩
 ·obtain⟨y,hy,rfl⟩:=List.mem_map.1 hm
  obtain⟨i,hi,rfl⟩:=List.mem_iff_getElem.1 hy;have:=(key i hi).1;rwa [get i hi]at this
 ·rw[List.length_map]at hk
  have tB:=(key k hk).2.1;rw[get k hk]at tB;refine⟨l[k].1,by rw[List.getElem?_map,dR hk];rfl,?_⟩;have e:(l.map (·.2)).getD k []=l[k].2:=by rw[eX,List.getElem?_map,dR hk];rfl
  rw[e];exact tB
 ·obtain⟨y,hy,rfl⟩:=List.mem_map.1 hm
  obtain⟨i,hi,rfl⟩:=List.mem_iff_getElem.1 hy;have:=(key i hi).2.2;rwa [get i hi]at this
theorem nD{P:Program}{e:TypeId}:∀{elems:List (DataW H)}{d:DataW H},d∈elems->∀n∈d.weights P e,n∈DataW.weightsAll P e elems
 |d0::r,d,hd,n,hn=>by
  simp only[DataW.weightsAll,List.mem_append];rcases List.mem_cons.1 hd with rfl|h
  ·exact Or.inl hn
  ·exact Or.inr (nD h n hn)
 | [],_,hd,_,_=>by cases hd
theorem lK:Tryz.prog.cellsOf 26=4:=by kernel_rfl
theorem J7:Tryz.prog.cellsOf 24=1:=by kernel_rfl
theorem nN:Tryz.prog.cellsOf 9=1:=by kernel_rfl
theorem L3:Tryz.prog.cellsOf 72=3:=by kernel_rfl
theorem x6:Tryz.prog.cellsOf 22=1:=by kernel_rfl
theorem QF{fuel:Nat}{cs:List Value}{x:DataW H×List MemPlace}(h:DataW.trod enc Tryz.prog w base spare pH fuel 5 cs=some x):∃n,(0<=n∧n<=255)∧cs= [.int .u8 n]:=by
 obtain⟨n,hc,_,hw⟩:=DataW.trod_int Tryz.underlying5 h;exact⟨n,wf8 hw,hc⟩
theorem BY{fuel:Nat}{cs:List Value}{x:DataW H×List MemPlace}(h:DataW.trod enc Tryz.prog w base spare pH fuel 9 cs=some x):∃s:ByteArray,cs= [.string s]:=by
 obtain⟨s,hc,_,_⟩:=DataW.trod_string Tryz.underlying9 h;exact⟨s,hc⟩
theorem zB:∀(fuel:Nat)(cs:List Value)(x:DataW H×List MemPlace),DataW.trod enc Tryz.prog w base spare pH fuel 26 cs=some x->∃y:Nd,cs=y.cells∧KV w w.heap.size fuel y:=by
 intro fuel
 induction fuel using Nat.strongRecOn with
 |ind fuel ih=>
  intro cs x h;obtain⟨ys,n,hn,_,hcl,hl,hf⟩:=DataW.trod_struct Tryz.underlying26 h;rw[lK]at hcl
  match cs,hcl with
  | [c0,c1,c2,c3],_=>
   have g:∀(i:Nat),i<4->∃y,ys[i]?=some y:=fun i hi=>⟨_,dR (by rw[hl];exact hi)⟩
   obtain⟨y0,e0⟩:=g 0 (by decide);obtain⟨y1,e1⟩:=g 1 (by decide);obtain⟨y2,e2⟩:=g 2 (by decide);obtain⟨y3,e3⟩:=g 3 (by decide);obtain⟨k,hk,h0⟩:=QF (by have:=hf 0 _ rfl;rw[e0]at this;simpa[L1]using this);obtain⟨num,AN,h1⟩:=BW (by have:=hf 1 _ rfl;rw[e1]at this;simpa[rQ]using this);obtain⟨nm,h2⟩:=BY (by have:=hf 2 _ rfl;rw[e2]at this;simpa[nN]using this);have h3:DataW.trod enc Tryz.prog w base spare pH n 24 [c3]=some y3:=by have:=hf 3 _ rfl;rw[e3]at this;simpa[J7]using this
   simp only[List.cons.injEq,and_true]at h0 h1 h2;subst h0;subst h1;subst h2;rcases DataW.trod_slice Tryz.underlying24 h3 with⟨hc,_⟩|⟨a,len,cap,elems,rest,m,hm,hc,_,_,hlc,GI,hlen,pG,_⟩
   ·simp only[List.cons.injEq,and_true]at hc
    subst hc;refine⟨⟨k,num,nm,none,0,0⟩,rfl,?_⟩;rw[hn];exact⟨hk,AN,aH _,by simp[maxLen],fun _=>rfl,fun i hi=>absurd hi (Nat.not_lt_zero _)⟩
   ·simp only[List.cons.injEq,and_true]at hc
    subst hc;refine⟨⟨k,num,nm,some a,len,cap⟩,rfl,?_⟩;rw[hn];have one:∀i,i<len->∃y:Nd,KV w w.heap.size m y∧∀j,j<4->w.cell? (a.add (i*4+j))=y.cells[j]?:=by
     intro i hi;have h1:=pG i hi;rw[dR (by omega),lK]at h1;obtain⟨cs',yK,ht⟩:=Option.bind_eq_some_iff.1 h1;obtain⟨y,rfl,cS⟩:=ih m (by omega) _ _ ht;obtain⟨_,_,nS⟩:=World.cells?_some yK;refine⟨y,cS,fun j hj=>?_⟩;rw[<-nS j hj];congr 1;unfold Addr.add;split<;>split<;>(try split)<;>simp_all<;>omega
    refine⟨hk,AN,hlc,GI,(fun e=>by cases e),fun i hi=>?_⟩;have hi:i<len:=hi;obtain⟨y9,_,h9⟩:=one 0 (by omega);have NC:w.cell? (a.add (0*4+0))=some (.int .u8 y9.k):=h9 0 (by decide);have AR:a.spot=none:=by
     cases hs:a.spot with
     |none=>rfl
     |some s=>simp[Addr.add,World.cell?,hs]at NC;split at NC<;>simp at NC
    have C4:a.block<w.heap.size:=by
     rcases Nat.lt_or_ge a.block w.heap.size with eI|mS
     ·exact eI
     ·rw[uK AR]at NC
      simp[World.cell?,Array.getElem?_eq_none mS]at NC
    obtain⟨y,cS,bM⟩:=one i hi;refine⟨y,⟨a.block,a.off,by show some a=_;rw[<-AR],C4,fun j v hv=>?_⟩,KV.le (by omega) cS⟩;have hj:j<4:=(lgS.1 hv).1;rw[<-hv,<-bM j hj,uK AR,Nat.add_assoc]
theorem XJ{fuel:Nat}{cs:List Value}{x:DataW H×List MemPlace}(h:DataW.trod enc Tryz.prog w base spare pH fuel 72 cs=some x):∃v:Vr,cs= [.string v.nm,.int .u8 v.k,.int .i64 v.len]:=by
 obtain⟨ys,n,_,_,hcl,hl,hf⟩:=DataW.trod_struct Tryz.underlying72 h;rw[L3]at hcl
 match cs,hcl with
 | [c0,c1,c2],_=>
  have g:∀(i:Nat),i<3->∃y,ys[i]?=some y:=fun i hi=>⟨_,dR (by rw[hl];exact hi)⟩
  obtain⟨y0,e0⟩:=g 0 (by decide);obtain⟨y1,e1⟩:=g 1 (by decide);obtain⟨y2,e2⟩:=g 2 (by decide);obtain⟨nm,h0⟩:=BY (by have:=hf 0 _ rfl;rw[e0]at this;simpa[nN]using this);obtain⟨k,_,h1⟩:=QF (by have:=hf 1 _ rfl;rw[e1]at this;simpa[L1]using this);obtain⟨len,_,h2⟩:=BW (by have:=hf 2 _ rfl;rw[e2]at this;simpa[rQ]using this);simp at h0 h1 h2;exact⟨⟨nm,k,len⟩,by rw[h0,h1,h2]⟩
theorem xQ(l:List Vr):(l.flatMap fun v:Vr=> [Value.string v.nm,.int .u8 v.k,.int .i64 v.len])=aU l:=rfl
theorem Tc{A:Option Addr}{n:Nat}{l:List Vr}(hl:l.length=n)(hr:Rd w (·<w.heap.size) 3 A n (aU l)):VsAt w w.heap.size A l:=fun i v hv=>by
 obtain⟨g,o,e,hg,hc⟩:=hr.2 (by have:=(lgS.1 hv).1;omega);obtain⟨t0,t1,t2⟩:=fS l i v hv;exact⟨g,o,e,hg,hc _ _ t0,hc _ _ t1,hc _ _ t2⟩
theorem zC{fuel:Nat}{c:Value}{x:DataW H×List MemPlace}(h:DataW.trod enc Tryz.prog w base spare pH fuel 22 [c]=some x):∃(A:Option Addr)(n cap:Nat)(l:List Vr),c=.slice A n cap∧l.length=n∧n<=cap∧(A=none->cap=0)∧VsAt w w.heap.size A l∧(n=0∨∃ds sp,x.1=.slice ds sp∧ds.length=n):=by
 obtain⟨A,n,cap,l,rfl,hl,h1,h2,hr,h3⟩:=qX (Q:=fun _ _=>True) Tryz.underlying22 L3 (by decide) (⟨⟨#[]⟩,0,0⟩:Vr) (fun v=> [.string v.nm,.int .u8 v.k,.int .i64 v.len]) (fun _=>rfl) (fun _ _ _ h=>let ⟨a,ha⟩:=XJ h;⟨a,trivial,ha⟩) h;rw[xQ]at hr;exact⟨A,n,cap,l,rfl,hl,h1,h2,Tc hl hr,h3.imp id fun⟨ds,sp,e1,e2,_⟩=>⟨ds,sp,e1,e2⟩⟩
def qQ(p:Pc):List Value:= [.string p.nm,.slice p.V p.nv p.cv,.int .u8 p.body.k,.int .i64 p.body.num,.string p.body.nm,.slice p.body.A p.body.n p.body.cap]
def No(w:World)(fuel:Nat)(p:Pc)(d:DataW H):Prop:=VsAt w w.heap.size p.V p.vs∧p.vs.length=p.nv∧p.nv<=p.cv∧(p.V=none->p.cv=0)∧KV w w.heap.size fuel p.body∧(p.nv=0∨∃l ds sp,d=.agg l∧l[1]?=some (.slice ds sp)∧ds.length=p.nv)
theorem IA{F fuel:Nat}(hF:fuel<=F){cs:List Value}{x:DataW H×List MemPlace}(h:DataW.trod enc Tryz.prog w base spare pH fuel 64 cs=some x):∃p:Pc,No w F p x.1∧cs=qQ p:=by
 obtain⟨ys,n,hn,hx,hcl,hl,hf⟩:=DataW.trod_struct Tryz.underlying64 h;rw[uT]at hcl
 match cs,hcl with
 | [c0,c1,c2,c3,c4,c5],_=>
  have g:∀(i:Nat),i<3->∃y,ys[i]?=some y:=fun i hi=>⟨_,dR (by rw[hl];exact hi)⟩
  obtain⟨y0,e0⟩:=g 0 (by decide);obtain⟨y1,e1⟩:=g 1 (by decide);obtain⟨y2,e2⟩:=g 2 (by decide);obtain⟨nm,h0⟩:=BY (by have:=hf 0 _ rfl;rw[e0]at this;simpa[nN]using this);obtain⟨V,nv,cv,vs,h1,h2,h3,h4,h5,h6⟩:=zC (c:=c1) (x:=y1) (by have:=hf 1 _ rfl;rw[e1]at this;simpa[x6]using this);obtain⟨b,hb,hk⟩:=zB n [c2,c3,c4,c5] y2 (by have:=hf 2 _ rfl;rw[e2]at this;simpa[lK]using this);simp only[Nd.cells,List.cons.injEq,and_true]at h0 hb;obtain⟨rfl,rfl,rfl,rfl⟩:=hb;subst h0;subst h1;refine⟨⟨nm,V,nv,cv,vs,b⟩,⟨h5,h2,h3,h4,KV.le (by omega) hk,h6.imp id fun⟨ds,sp,q1,q2⟩=>⟨ys.map (·.1),ds,sp,congrArg Prod.fst hx,?_,q2⟩⟩,rfl⟩;rw[List.getElem?_map,e1];simp[q1]
theorem sH(l:List Pc)(i:Nat)(p:Pc)(h:l[i]?=some p)(j:Nat)(hj:j<6):(l.flatMap qQ)[i*6+j]?=(qQ p)[j]?:=by
 have hi:=(lgS.1 h).1;rw[vL qQ 6 (fun _=>rfl) p l i j hi hj,eX,h];rfl
theorem yX{r:Reach}{b0:Nat}{v:Value}{d:DataW H}{ps:List MemPlace}(hv:Value.okWide Tryz.prog w r b0 28 v)(h:DataW.Trod enc Tryz.prog w base spare pH 28 v d ps)(l6:∀n∈d.weights Tryz.prog 28,n<=reachBytes):
  ∃(dd:Nat)(V:Option Addr)(nv cv:Nat)(vs:List Vr)(Q:Option Addr)(nq cq:Nat)(pcs:List Pc)(m:Nd),v=.agg #[.slice V nv cv,.slice Q nq cq,.int .u8 m.k,.int .i64 m.num,.string m.nm,.slice m.A m.n m.cap]∧
   VsAt w w.heap.size V vs∧vs.length=nv∧nv<=17592186043904∧nv<=cv∧(V=none->cv=0)∧PrsAt w w.heap.size (dd+1) Q pcs∧pcs.length=nq∧nq<=17592186043904∧(∀p∈pcs,p.V=none->p.cv=0)∧KV w w.heap.size (dd+1) m:=by
 obtain⟨cs,rfl,_⟩:=okWide_struct Tryz.underlying28 hv;obtain⟨fuel,hn⟩:=h;obtain⟨ys,n,_,hd,hcl,hl,hf⟩:=DataW.trod_struct Tryz.underlying28 hn;obtain⟨cs⟩:=cs;have NK:cs.length=6:=by rw[<-Y9];exact hcl
 have ZB:d=.agg (ys.map (·.1)):=congrArg Prod.fst hd
 match cs,NK with
 | [c0,c1,c2,c3,c4,c5],_=>
  have g:∀(i:Nat),i<3->∃y,ys[i]?=some y:=fun i hi=>⟨_,dR (by rw[hl];exact hi)⟩
  obtain⟨y0,e0⟩:=g 0 (by decide);obtain⟨y1,e1⟩:=g 1 (by decide);obtain⟨y2,e2⟩:=g 2 (by decide);obtain⟨V,nv,cv,vs,rfl,v2,v3,v4,v5,v6⟩:=zC (c:=c0) (x:=y0) (by have:=hf 0 _ rfl;rw[e0]at this;simpa[x6,Value.cells]using this);obtain⟨Q,nq,cq,l,rfl,q2,q3,q4,q5,q6⟩:=qX (sz:=6) (Q:=fun p d=>∃F,No w F p d) Tryz.underlying23 uT (by decide) (⟨⟨#[]⟩,none,0,0,[],⟨0,0,⟨#[]⟩,none,0,0⟩⟩:Pc) qQ (fun _=>rfl) (fun f _ _ h=>let ⟨a,ha,hb⟩:=IA (aH f) h;⟨a,⟨f,ha⟩,hb⟩) (c:=c1) (x:=y1) (by have:=hf 1 _ rfl;rw[e1]at this;simpa[J8,Value.cells]using this);obtain⟨m,hm,hk⟩:=zB n [c2,c3,c4,c5] y2 (by have:=hf 2 _ rfl;rw[e2]at this;simpa[lK,Value.cells]using this);simp only[Nd.cells,List.cons.injEq,and_true]at hm;obtain⟨rfl,rfl,rfl,rfl⟩:=hm;have bv:nv<=17592186043904:=by
   rcases v6 with h0|⟨ds,sp,hx,hlen⟩
   ·omega
   ·have O8:(ys.map (·.1))[0]?=some (.slice ds sp):=by rw[List.getElem?_map,e0];simp[hx]
    have aF:(ds.length+sp.length)*Tryz.prog.bytesOf 72∈(DataW.slice ds sp).weights Tryz.prog 22:=by
     simp[DataW.weights,Tryz.underlying22]
    have eD:=l6 _ (by rw[ZB];simp only[DataW.weights,Tryz.underlying28];exact DataW.weights_mem_each (j:=0) rfl O8 _ aF);have dP:(ds.length+sp.length)*8<=reachBytes:=fC (Nat.mul_le_mul_left _ I5) eD;unfold reachBytes at dP;omega
  have bq:nq<=17592186043904:=by
   rcases q6 with h0|⟨ds,sp,hx,hlen,_⟩
   ·omega
   ·have O8:(ys.map (·.1))[1]?=some (.slice ds sp):=by rw[List.getElem?_map,e1];simp[hx]
    have aF:(ds.length+sp.length)*Tryz.prog.bytesOf 64∈(DataW.slice ds sp).weights Tryz.prog 23:=by
     simp[DataW.weights,Tryz.underlying23]
    have eD:=l6 _ (by rw[ZB];simp only[DataW.weights,Tryz.underlying28];exact DataW.weights_mem_each (j:=1) rfl O8 _ aF);have dP:(ds.length+sp.length)*8<=reachBytes:=fC (Nat.mul_le_mul_left _ Y3) eD;unfold reachBytes at dP;omega
  have one:∀(i:Nat)(p:Pc),l[i]?=some p->(∃F,KV w w.heap.size F p.body)∧VsAt w w.heap.size p.V p.vs∧p.vs.length=p.nv∧p.nv<=p.cv∧(p.V=none->p.cv=0)∧p.nv<=17592186043904:=by
   intro i p hp;have hi:=(lgS.1 hp).1;rcases q6 with h0|⟨ds,sp,hx,hlen,hq⟩
   ·omega
   ·obtain⟨di,hdi,F,k1,k2,k3,k4,k5,k6⟩:=hq i (by omega)
    rw[eX,hp]at k1 k2 k3 k4 k5 k6;simp only[Option.getD_some]at k1 k2 k3 k4 k5 k6;refine⟨⟨F,k5⟩,k1,k2,k3,k4,?_⟩;rcases k6 with h0|⟨l',Iz,GY,rfl,Vh,ZK⟩
    ·omega
    ·have O8:(ys.map (·.1))[1]?=some (.slice ds sp):=by rw[List.getElem?_map,e1];simp[hx]
     have qH:(Iz.length+GY.length)*Tryz.prog.bytesOf 72∈(DataW.slice Iz GY).weights Tryz.prog 22:=by
      simp[DataW.weights,Tryz.underlying22]
     have aAI:(Iz.length+GY.length)*Tryz.prog.bytesOf 72∈(DataW.agg l').weights Tryz.prog 64:=by
      simp only[DataW.weights,Tryz.underlying64];exact DataW.weights_mem_each (j:=1) rfl Vh _ qH
     have aF:(Iz.length+GY.length)*Tryz.prog.bytesOf 72∈(DataW.slice ds sp).weights Tryz.prog 23:=by
      simp only[DataW.weights,Tryz.underlying23,List.mem_cons,List.mem_append];exact Or.inr (Or.inl (nD (List.mem_of_getElem? hdi) _ aAI))
     have eD:=l6 _ (by rw[ZB];simp only[DataW.weights,Tryz.underlying28];exact DataW.weights_mem_each (j:=1) rfl O8 _ aF);have dP:(Iz.length+GY.length)*8<=reachBytes:=fC (Nat.mul_le_mul_left _ I5) eD;unfold reachBytes at dP;omega
  have all:∃F,∀(i:Nat)(p:Pc),l[i]?=some p->KV w w.heap.size F p.body:=by
   have:∀k,k<=l.length->∃F,∀(i:Nat)(p:Pc),i<k->l[i]?=some p->KV w w.heap.size F p.body:=by
    intro k
    induction k with
    |zero=>exact fun _=>⟨0,fun i p hi=>by omega⟩
    |succ k ih=>
     intro hk;obtain⟨F,hF⟩:=ih (by omega);obtain⟨G,hG⟩:=(one k l[k] (dR (by omega))).1;refine⟨max F G,fun i p hi hp=>?_⟩;rcases Nat.lt_or_ge i k with eI|mS
     ·exact KV.le (Nat.le_max_left _ _) (hF i p eI hp)
     ·obtain rfl:i=k:=by omega
      rw[dR (by omega)]at hp;obtain rfl:=Option.some.inj hp;exact KV.le (Nat.le_max_right _ _) hG
   obtain⟨F,hF⟩:=this l.length (aH _);exact⟨F,fun i p hp=>hF i p (lgS.1 hp).1 hp⟩
  obtain⟨F,hF⟩:=all;refine⟨max F n,V,nv,cv,vs,Q,nq,cq,l,m,rfl,v5,v2,bv,v3,v4,fun i p hp=>?_,q2,bq,fun p hp=>?_,KV.le (by have:=Nat.le_max_right F n;omega) hk⟩
  ·obtain⟨_,o2,o3,o4,_,o6⟩:=one i p hp
   have hi:=(lgS.1 hp).1;obtain⟨g',o',eA,hg,hc⟩:=q5.2 (by omega);exact⟨⟨g',o',eA,hg,hc (i*6) _ (sH l i p hp 0 (by decide)),(by rw[Nat.add_assoc];exact hc _ _ (sH l i p hp 1 (by decide))),(by rw[Nat.add_assoc];exact hc _ _ (sH l i p hp 2 (by decide))),(by rw[Nat.add_assoc];exact hc _ _ (sH l i p hp 3 (by decide))),(by rw[Nat.add_assoc];exact hc _ _ (sH l i p hp 4 (by decide))),(by rw[Nat.add_assoc];exact hc _ _ (sH l i p hp 5 (by decide)))⟩,o2,o3,o4,o6,KV.le (by have:=Nat.le_max_left F n;omega) (hF i p hp)⟩
  ·obtain⟨i,hi⟩:=List.getElem?_of_mem hp
   exact(one i p hi).2.2.2.2.1
theorem pN{r:Reach}{b0:Nat}{v:Value}{d:DataW H}{ps:List MemPlace}(hv:Value.okWide Tryz.prog w r b0 32 v)(h:DataW.Trod enc Tryz.prog w base spare pH 32 v d ps):
  ∃(vC vI vO:Value)(cs:List (List Int))(inp out:List Int),v=.agg #[vC,vI,vO]∧SW w (·<w.heap.size) vC vI vO cs inp out∧(∀l,l∈cs->∀y,y∈l->I64 y)∧(∀y,y∈inp->I64 y)∧∀y,y∈out->I64 y:=by
 obtain⟨cs,rfl,_⟩:=okWide_struct Tryz.underlying32 hv;obtain⟨fuel,hn⟩:=h;obtain⟨ys,n,_,hd,hcl,hl,hf⟩:=DataW.trod_struct Tryz.underlying32 hn;obtain⟨cs⟩:=cs;have NK:cs.length=3:=by rw[<-J9];exact hcl
 match cs,NK with
 | [c0,c1,c2],_=>
  have g:∀(i:Nat),i<3->∃y,ys[i]?=some y:=fun i hi=>⟨_,dR (by rw[hl];exact hi)⟩
  obtain⟨y0,e0⟩:=g 0 (by decide);obtain⟨y1,e1⟩:=g 1 (by decide);obtain⟨y2,e2⟩:=g 2 (by decide);obtain⟨ss,sv,s1,s2,s3,_⟩:=BX (c:=c0) (x:=y0) (by have:=hf 0 _ rfl;rw[e0]at this;simpa[J6,Value.cells]using this);obtain⟨inp,i1,i2,_⟩:=sL (c:=c1) (x:=y1) (by have:=hf 1 _ rfl;rw[e1]at this;simpa[o7,Value.cells]using this);obtain⟨out,o1,o2,_⟩:=sL (c:=c2) (x:=y2) (by have:=hf 2 _ rfl;rw[e2]at this;simpa[o7,Value.cells]using this);refine⟨c0,c1,c2,ss,inp,out,rfl,⟨⟨sv,s2,fun i u l h1 h2=>?_⟩,i2,o2⟩,s1,i1,o1⟩;obtain⟨u',hu,hs⟩:=s3.2 i (lgS.1 h2).1;rw[hu]at h1;obtain rfl:=Option.some.inj h1;rw[eX,h2]at hs;exact hs
theorem OW{r:Reach}{b0:Nat}{v:Value}{d:DataW H}{ps:List MemPlace}(hv:Value.okWide Tryz.prog w r b0 33 v)(h:DataW.Trod enc Tryz.prog w base spare pH 33 v d ps):
  ∃n:Nat,v=.int .u16 (n:Int)∧n<=65535:=by
 obtain⟨n,rfl,_,_,hw⟩:=open_int Tryz.underlying33 hv h;have:=aAM hw;exact⟨n.toNat,by rw[Int.toNat_of_nonneg this.1],by omega⟩
theorem qW{W W':World}(hb:Below W.heap.size W W'){sp:Nat->Bool}:∀{ts:List TypeId}{vs:List Value}{ds:List (DataW H)}{ps:List MemPlace},(∀t∈ts,Tryz.prog.readableRec t=true∧t<Tryz.prog.types.size)->
  DataW.TrodAll enc Tryz.prog W 0 (fun _=>true) true ts vs ds ps->(∀p∈ps,p.block<W.heap.size)->(∀p∈ps,sp p.block=true)->DataW.TrodAll enc Tryz.prog W' 0 sp true ts vs ds ps
 | [],vs,ds,ps,_,h,_,_=>by obtain⟨rfl,rfl,rfl⟩:=trodAll_nil h;exact trodAll_mk0
 |t::ts,vs,ds,ps,ht,h,eI,hs=>by
  obtain⟨v,vs',d,Iz,p,q,rfl,rfl,rfl,h0,hr⟩:=trodAll_cons h;refine trodAll_cons_mk (WideElems.Trod_stays WK (ht t (by simp)).1 (ht t (by simp)).2 h0 (fun x hx=>hb.same (eI x (by simp[hx]))) (fun x hx=>hs x (by simp[hx]))) ?_;exact qW hb (fun t h=>ht t (by simp[h])) hr (fun x hx=>eI x (by simp[hx])) (fun x hx=>hs x (by simp[hx]))
theorem Q3{f:Func}{s:ChangeSpec}{apart fresh VQ again:Bool}{W W':World}{args:Array Value}{ds gs:List (DataW H)}{before p:List MemPlace}
  (hW:DataW.Whole enc Tryz.prog f.params.toList s.vars apart W args.toList ds gs before) (hA:DataW.TrodAll enc Tryz.prog W 0 (fun _=>true) true f.params.toList args.toList ds p)
  (ht:∀t∈f.params.toList,Tryz.prog.readableRec t=true∧t<Tryz.prog.types.size) (hv:s.vars= []) (hg:gs= []) (hp:before=p)
  (hs:s.fn H (ds++gs)={results:= [.lit (.bool true)],args:=ds}) (hr:f.resultTypes=#[4]) (hb:Below W.heap.size W W'):
  s.post enc Tryz.prog f apart fresh VQ again W args (.bool true) W':=by
 subst hg;subst hp;have eI:∀p∈before,p.block<W.heap.size:=fun p hp=>hW.lt p hp
 have aAC:∀p∈before,(fun b=>decide (b<W.heap.size)) p.block=true:=fun p hp=>by simpa using eI p hp
 have mE:∀(b:Nat)(sp:Nat->Bool)(hd:Bool),DataW.TrodAll enc Tryz.prog W' b sp hd f.resultTypes.toList ((Value.bool true).resultList f.resultTypes.size) (s.fn H (ds++ [])).results []:=by
  intro b sp hd;rw[hr,hs];exact trodAll_cons_mk (shut_bool Tryz.underlying4 _) trodAll_mk0
 have N3:∀sp:Nat->Bool,(∀p∈before,sp p.block=true)->DataW.TrodAll enc Tryz.prog W' 0 sp true f.params.toList args.toList (s.fn H (ds++ [])).args before:=fun sp h=>by
  rw[hs];exact qW hb ht hA eI h
 have ZQ:∀sp:Nat->Bool,DataW.TrodVars enc Tryz.prog W' sp s.vars (s.fn H (ds++ [])).vars []:=fun sp=>by rw[hs,hv];rfl
 refine⟨ds,[],before,[],before,[],hW,mE _ _ _,N3 _ aAC,ZQ _,World.keptBut_mono (fun p hp=>⟨hp,Or.inr (Or.inl hp)⟩) (hb.frame (·∈before)),fun _=>?_⟩;obtain⟨_,_,_,_,_,hz,hn⟩:=hW;refine⟨?_,_,_,([]++before)++ [],⟨[]++before,[],trodAll_append (N3 _ (fun _ _=>rfl)) (mE _ _ _),ZQ _,rfl,?_,?_⟩,?_⟩
 ·exact ok_one hr rfl (okWide_bool_mk Tryz.underlying4 _)
 ·intro b off hp
  have xG:MemPlace.cell b off∈before:=by simpa using hp
  rw[hb.frozen (eI _ xG)];exact hz b off xG
 ·intro ha
  have:=hn ha;simpa using this
 ·intro p hp _
  simpa using hp
end
theorem R3:ownKnob Tryz.prog.godebug=none:=by kernel_rfl
theorem aAc:Tryz.prog.globalNamed "backstep/arith.symbols" =some 0:=by kernel_rfl
theorem PW{W:World}{L:List (String×DataW Unit)}(h:laidMetH Tryz.prog (("backstep/arith.symbols",Rows.laid_backstep_arith_symbols)::L) W)(hL:(L.all fun x=>x.2.handleName?.isNone)=true):SymAt W:=by
 have h:laidMet Tryz.prog (("backstep/arith.symbols",Rows.laid_backstep_arith_symbols)::L) W:=by
  rw[MakeChecks.laidMetH_plain _ _ _ (by rw[List.all_cons,hL];rfl)]at h;exact h
 obtain⟨ps,⟨g',t',cs,fuel,p,q,Qh,ht',aAH,hd,_,_⟩,_⟩:=h;obtain rfl:=Option.some.inj (aAc.symm.trans Qh);obtain rfl:169=t':=Option.some.inj ((show(Tryz.prog.globals[0]?).map (·.type)=some 169 by kernel_rfl).symm.trans ht');obtain⟨xs,m,_,hx,hcl,hl,hf⟩:=DataW.trod_array Tryz.underlying169 hd;intro k rH yN;have bM:=World.var?_cell aAc aAH k;rw[bM];have h1:=hf k (by omega);have Jo:(xs.map (·.1))[k]?=(match Rows.laid_backstep_arith_symbols (H:=Unit)with|.agg l=>l[k]?|_=>none):=by
  have:=(Prod.ext_iff.1 hx).1;simp only at this;rw[this]
 have key:∀k,8<=k->k<=23->∃s,s≠ [59]∧(match Rows.laid_backstep_arith_symbols (H:=Unit)with|.agg l=>l[k]?|_=>none)=some (.lit (.string s)):=by
  intro k rH yN
  match k with
  |8=>exact⟨_,by decide,rfl⟩
  |9=>exact⟨_,by decide,rfl⟩
  |10=>exact⟨_,by decide,rfl⟩
  |11=>exact⟨_,by decide,rfl⟩
  |12=>exact⟨_,by decide,rfl⟩
  |13=>exact⟨_,by decide,rfl⟩
  |14=>exact⟨_,by decide,rfl⟩
  |15=>exact⟨_,by decide,rfl⟩
  |16=>exact⟨_,by decide,rfl⟩
  |17=>exact⟨_,by decide,rfl⟩
  |18=>exact⟨_,by decide,rfl⟩
  |19=>exact⟨_,by decide,rfl⟩
  |20=>exact⟨_,by decide,rfl⟩
  |21=>exact⟨_,by decide,rfl⟩
  |22=>exact⟨_,by decide,rfl⟩
  |23=>exact⟨_,by decide,rfl⟩
  |0=>exact absurd rH (by decide)
  |1=>exact absurd rH (by decide)
  |2=>exact absurd rH (by decide)
  |3=>exact absurd rH (by decide)
  |4=>exact absurd rH (by decide)
  |5=>exact absurd rH (by decide)
  |6=>exact absurd rH (by decide)
  |7=>exact absurd rH (by decide)
  |k+24=>exact absurd yN (by omega)
 obtain⟨s,hs0,hs⟩:=key k rH yN;rw[hs,List.getElem?_map]at Jo;obtain⟨y,hy,hy1⟩:=Option.map_eq_some_iff.1 Jo;rw[hy,nN]at h1;obtain⟨d,p⟩:=y;simp only at hy1;subst hy1;obtain⟨s',hc,hd',_⟩:=DataW.trod_string Tryz.underlying9 h1;have F9:=congrArg (fun l=>l[0]?) hc;simp only[Nat.mul_one,List.getElem?_take,List.getElem?_drop,Nat.zero_lt_one,if_true,List.getElem?_cons_zero,Nat.add_zero,Array.getElem?_toList]at F9;refine⟨s',F9,fun e=>hs0 ?_⟩;subst e;exact(by simpa using hd':_∧_).1
def P9:DataW Unit->Value
 |.lit (.string s)=>.string ⟨s.toArray⟩
 |.lit (.int k n)=>.int k n
 |_=>.nilIface
def iX:DataW Unit->Array Value
 |.agg l=>(l.map P9).toArray
 |.iface _ (.ptr (.agg l))=>(l.map P9).toArray
 |_=> #[]
def kW(c:Array Value):Obj->Obj
 |.cells _ t frozen=>.cells c t frozen
 |o=>o
noncomputable def iY(os:Os):World:=
 let W:=World.holding Tryz.prog os ⟨#[.cells (iX Rows.laid_strconv_ErrRange) 248,.cells (iX Rows.laid_strconv_ErrSyntax) 248],#[],[]⟩
 {W with heap:=(((((W.heap.modify 0 (kW (iX Rows.laid_backstep_arith_symbols))).modify 5 (kW (iX Rows.laid_math_bits_deBruijn32tab))).modify 6 (kW (iX Rows.laid_math_bits_deBruijn64tab))).modify 4 (kW (iX Rows.laid_internal_strconv_uint64pow10))).modify 3 (kW #[.iface 246 (.pointer (some ⟨W.heap.size-2,0,none⟩))])).modify 2 (kW #[.iface 246 (.pointer (some ⟨W.heap.size-1,0,none⟩))])}
end Go.Proofs.YtakfdnnlhjhcfaaGreatDoor
