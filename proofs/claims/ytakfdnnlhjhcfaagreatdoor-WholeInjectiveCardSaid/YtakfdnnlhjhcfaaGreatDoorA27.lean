/- Part of the proof. -/
import Derived.Test.YtakfdnnlhjhcfaaGreatDoorA16
import Derived.Test.YtakfdnnlhjhcfaaGreatDoorA26
set_option linter.unusedVariables false
set_option linter.unusedSimpArgs false
set_option maxRecDepth 100000
set_option maxHeartbeats 4000000
namespace Bk
open Go Go.RowKit
theorem e8{P:Program}{w:World}{o:Oper}{a:Act}{K:Act->World->Prop}{Q:Exit->Act->World->Prop}(s x:Operand)(t:TypeId)(ho:o.op=.call {callee:=.builtin .append,args:=#[s,x],argTypes:=#[t,t]})
  (e:TypeId) (i:TypeInfo) (z:Value) (size bytes:Nat) (ht:P.underlying t=some (.slice e)) (hi:P.info? e=some i) (hz:i.zero=some z) (qG:i.size=size) (NH:i.bytes=bytes) (RD:z.cells.size=size) (l6:0<size)
  {D:Nat->Prop} {A:Option Addr} {n:Nat} {xs:List Value} (hs:a.eval s=.slice A n n) (hS:Sl w D size (.slice A n n) n xs)
  (ad:Addr) (m c:Nat) (news:List Value) (hx:a.eval x=.slice (some ad) m c) (hm:0<m) (hl:news.length=m*size) (O1:∀j u,news[j]?=some u->w.cell? (ad.add j)=some u)
  (IX:n+m<=maxLen) (iI:(n+m)*bytes<=140737488355328)
  (h:∀v' w',w'.ownsRow w.heap.size e size v' (n+m) (xs++news)->Below w.heap.size w w'->K (a.put o.dst v') w'):o.wp P a w K Q:=by
 subst qG;subst NH;have Hd:n+m<=9223372036854775807:=by simp only[maxLen]at IX;omega
 obtain⟨A',cap',hv,f9,hA,hR⟩:=hS;injection hv with hv1 _ hv3;subst hv1;subst hv3;have xK:xs.length=n*i.size:=hR.1;have hlen:(xs++news).length=(n+m)*i.size:=by rw[List.length_append,xK,hl,Nat.add_mul]
 have grown:∀(old:Nat),old<n+m->
   (w.drew.alloc (.cells (xs.toArray++news.toArray++Builtin.zeroCells z.cells (grownCap w (n+m) old e-(n+m))) e)).ownsRow w.heap.size e i.size
    (.slice (some ⟨w.heap.size,0,none⟩) (n+m) (grownCap w (n+m) old e)) (n+m) (xs++news)∧
   Below w.heap.size w (w.drew.alloc (.cells (xs.toArray++news.toArray++Builtin.zeroCells z.cells (grownCap w (n+m) old e-(n+m))) e)):=by
  intro old eI;have mS:=grownCap_ge w (n+m) old e;have GI:grownCap w (n+m) old e<=maxLen:=grownCap_le_maxLen w (n+m) old e IX;refine⟨⟨hlen,.inr ⟨w.heap.size,_,_,rfl,aH _,heap_alloc_new w.drew _,mS,GI,?_,?_⟩⟩,(aM _ _).drew.alloc (aH _) _⟩
  ·simp only[Array.size_append,List.size_toArray,size_zeroCells,RD,xK,hl,<-Nat.add_mul]
   congr 1;omega
  ·simp only[Array.toList_append,List.append_assoc]
   rw[<-List.append_assoc,<-hlen];exact List.take_left
 cases A with
 |none=>
  have Qw:n=0:=hA rfl;subst Qw;have xJ:xs= []:=List.eq_nil_of_length_eq_zero (by simpa using xK);subst xJ;have hr:=run_append_nil (P:=P) w t o.type e i z ht hi hz ad m c news hl O1 hm (by omega) (by have hb:=iI;simp only[Nat.zero_add]at hb;omega);have eH:=grown 0 (by omega);simp only[Nat.zero_add,List.nil_append,Array.empty_append]at eH h;unfold Oper.wp execOp;simp only[ho,resolve,invoke,builtin,Sem.run_bind,Sem.run_pure,Result.andThen_ok,List.map_toArray,List.map_cons,List.map_nil,hs,hx,hr];exact h _ _ eH.1 eH.2
 |some b=>
  have holds:∀j u,xs[j]?=some u->w.cell? (b.add j)=some u:=fun j u hu=>by
   have hj:=(lgS.1 hu).1;have h0:0<n:=by rcases Nat.eq_zero_or_pos n with h|h;(subst h;omega);exact h
   obtain⟨g,off,eb,_,hc⟩:=hR.2 h0;injection eb with eb;subst eb;rw[Addr.add_lit];exact hc j u hu
  have hr:=run_append_grow (P:=P) w t o.type e i z ht hi hz b n n xs xK holds ad m c news hl O1 (by omega) (by omega) (growslice_fits (by omega) iI);have eH:=grown n (by omega);unfold Oper.wp execOp;simp only[ho,resolve,invoke,builtin,Sem.run_bind,Sem.run_pure,Result.andThen_ok,List.map_toArray,List.map_cons,List.map_nil,hs,hx,hr];exact h _ _ eH.1 eH.2
def bJ(x:Nd)(i:Nat)(vs:List Vr):List Vr:=if x.k=54∧i=1 then vs++ [⟨x.nm,1,0⟩]else if x.k=55∧i=0 then vs++ [⟨x.nm,3,0⟩]else vs
theorem BF(x:Nd)(i:Nat)(vs:List Vr):(bJ x i vs).length<=vs.length+1:=by
 unfold bJ;split
 ·simp
 ·split<;>simp
def one(e:Int):Nat:=if e=0 then 0 else 1
theorem sG(e:Int):one e<=1:=by unfold one;split<;>omega
open Go.Proofs.YtakfdnnlhjhcfaaGreatDoor
noncomputable def dL(w:World)(B:Nat)(ps:List Pc):Nat->Nd->List Vr->Nat
 |0,_,_=>0
 |d+1,x,vs=>one (cY vs ps x)+(if x.k=50∨x.k=51 then aY (fun i=>one (zO vs ps x.nm x.n i (bO w B x i).nm)) x.n else aY (fun i=>dL w B ps d (bO w B x i) (bJ x i vs)) x.n)
theorem kR{f:Nat->Nat->Bool×Nat}{g:Nat->Nat}:∀{n lf c:Nat},(∀i,i<n->∀lf c,f i lf=(true,c)->g i+c<=lf)->dS f n lf=(true,c)->aY g n+c<=lf
 |0,lf,c,_,h=>by simp only[dS,Prod.mk.injEq]at h;simp only[aY];omega
 |n+1,lf,c,hf,h=>by
  simp only[dS]at h;split at h
  ·rename_i h1
   have h2:=kR (n:=n) (fun i hi=>hf i (by omega)) (show dS f n lf=(true,(dS f n lf).2) by rw[<-h1]);have h3:=hf n (by omega) _ _ h;simp only[aY];omega
  ·rename_i h1
   rw[h]at h1;exact absurd rfl h1
theorem Q4{f:Nat->Nat->Bool×Nat}:∀{n lf c:Nat},dS f n lf=(true,c)->∀i,i<n->∃lf' c',f i lf'=(true,c')
 |0,_,_,_,i,hi=>absurd hi (Nat.not_lt_zero _)
 |n+1,lf,c,h,i,hi=>by
  simp only[dS]at h;split at h
  ·rename_i h1
   rcases Nat.lt_succ_iff_lt_or_eq.1 hi with h2|rfl
   ·exact Q4 (show dS f n lf=(true,(dS f n lf).2) by rw[<-h1]) i h2
   ·exact⟨_,_,h⟩
  ·rename_i h1
   rw[h]at h1;exact absurd rfl h1
theorem tR{w:World}{B d dp lf c:Nat}{x:Nd}(h:f6 w B (d+1) x dp lf=(true,c)):1<=dp∧1<=lf∧dS (fun i=>f6 w B d (bO w B x i) (dp-1)) x.n (lf-1)=(true,c):=by
 rw[f6]at h;split at h
 ·cases h
 ·rename_i h0;exact⟨by omega,by omega,h⟩
theorem kK{w:World}{B:Nat}(ps:List Pc):∀(d:Nat)(x:Nd)(vs:List Vr)(dp lf c:Nat),f6 w B d x dp lf=(true,c)->dL w B ps d x vs+c<=lf∧c<lf
 |0,_,_,_,_,_,h=>by rw[f6]at h;cases h
 |d+1,x,vs,dp,lf,c,h=>by
  obtain⟨h1,h2,h3⟩:=tR h;have hc:aY (fun _=>1) x.n+c<=lf-1:=kR (fun i _ lf c h=>by have:=(kK ps d _ vs _ _ _ h).2;omega) h3;rw[dL];have h5:=sG (cY vs ps x);have mono:∀(g:Nat->Nat),(∀i,g i<=1)->∀n,aY g n<=aY (fun _=>1) n:=fun g hg n=>by
   induction n with
   |zero=>exact aH _
   |succ n ih=>have:=hg n;simp only[aY];omega
  split
  ·have:=mono (fun i=>one (zO vs ps x.nm x.n i (bO w B x i).nm)) (fun i=>sG _) x.n
   omega
  ·have:=kR (g:=fun i=>dL w B ps d (bO w B x i) (bJ x i vs)) (fun i _ lf c h=>(kK ps d _ _ _ _ _ h).1) h3
   omega
theorem gW{bf size:Nat}{q:Value}{w w':World}{v:Value}{n:Nat}{xs:List Value}(h:Sl w (Dn bf q w) size v n xs)(hb:Below w.heap.size w w'):Sl w' (Dn bf q w') size v n xs:=
 h.keep (fun b o hd=>hb.cell (p:=⟨b,o,none⟩) hd.1) (fun k hk=>⟨dX hk.1 hb.size,hk.2⟩)
theorem LR{bf size:Nat}{q q':Value}{w w':World}{v:Value}{n:Nat}{xs:List Value}(h:Sl w (Dn bf q w) size v n xs)(he:Emt bf w w' q q'):Sl w' (Dn bf q' w') size v n xs:=
 h.keep (fun b o hd=>he.1.cell hd.1 hd.2 o) (fun k hk=>⟨dX hk.1 he.1.size,fun ho=>by
  rcases ho with ho|ho
  ·exact hk.2 (.inl ho)
  ·rcases he.2 with e|e
   ·exact hk.2 (.inr (by rw[<-e];exact ho))
   ·have:=e k ho;have:=hk.1;omega⟩)
theorem PK{w:World}{D:Nat->Prop}{A:Option Addr}{n c:Nat}{vs:List Vr}(h:Sl w D 3 (.slice A n c) n (aU vs))(hn:vs.length=n){B:Nat}(hD:∀k,D k->k<B):VsAt w B A vs:=fun i v hi=>by
 obtain⟨A',c',e,_,_,hR⟩:=h;injection e with e1 _ _;subst e1;have mT:=(lgS.1 hi).1;obtain⟨b,o,rfl,hb,hc⟩:=hR.2 (by omega);obtain⟨t0,t1,t2⟩:=fS vs i v hi;exact⟨b,o,rfl,hD b hb,hc _ _ t0,hc _ _ t1,hc _ _ t2⟩
theorem Td{w:World}{B:Nat}{A:Option Addr}{n c:Nat}{vs:List Vr}(h:VsAt w B A vs)(hn:vs.length=n)(hc:n<=c)(hA:A=none->c=0):Sl w (fun k=>k<B) 3 (.slice A n c) n (aU vs):=by
 refine⟨A,c,rfl,hc,hA,by rw[l8,hn],fun h0=>?_⟩;obtain⟨g,o,e,hg,_⟩:=h 0 _ (dR (by omega));refine⟨g,o,e,hg,fun j u hu=>?_⟩;have hj:j<vs.length*3:=by have:=(lgS.1 hu).1;rw[l8]at this;exact this
 obtain⟨g',o',e',_,c0,c1,c2⟩:=h (j/3) _ (dR (show j/3<vs.length by omega));rw[e]at e';injection e' with e';injection e' with e1 e2;subst e1;subst e2;obtain⟨t0,t1,t2⟩:=fS vs (j/3) _ (dR (show j/3<vs.length by omega));have hm:j=j/3*3∨j=j/3*3+1∨j=j/3*3+2:=by omega
 rcases hm with hm|hm|hm
 ·rw[hm]at hu⊢;rw[t0]at hu;rw[<-hu];rw[show o+(j/3*3)=o+j/3*3 by omega];exact c0
 ·rw[hm]at hu⊢;rw[t1]at hu;rw[<-hu];rw[show o+(j/3*3+1)=o+j/3*3+1 by omega];exact c1
 ·rw[hm]at hu⊢;rw[t2]at hu;rw[<-hu];rw[show o+(j/3*3+2)=o+j/3*3+2 by omega];exact c2
end Bk
namespace Go.Proofs.YtakfdnnlhjhcfaaGreatDoor
open Go.RowKit Bk
theorem tL(w:World){D:Nat->Prop}{A:Option Addr}{n c:Nat}{xs:List Value}(h:Sl w D 3 (.slice A n c) n xs)(hn:n<=1000000):
  Calls Tryz.prog 96 #[.slice A n c] w fun en w'=>en=.returned (.slice A n n)∧Below w.heap.size w w':=by
 obtain⟨A',cap,e,f9,hA,hR⟩:=h;injection e with e1 _ e2;subst e1;subst e2;cases A with
 |none=>
  obtain rfl:=hA rfl;obtain rfl:n=0:=by omega
  clear hR hA f9;go_enter Tryz.func96,Tryz.ntmps96;go_wp2_with fail;go_ret;exact⟨rfl,by go_grown⟩
 |some b=>
  have q0:(0:Int)<=(n:Int):=by omega
  have q1:(n:Int)<=(c:Int):=by omega
  clear hR hA;obtain⟨g,o,sp⟩:=b;go_enter Tryz.func96,Tryz.ntmps96;go_wp2_with fail;go_ret;exact⟨by simp,by go_grown⟩
theorem MJ(x:Nd)(i:Nat)(hx:¬(x.k=54∧i=1))(RC:¬(x.k=55∧i=0)){w:World}{D:Nat->Prop}{A:Option Addr}{na ca:Nat}{vs:List Vr}(h:Sl w D 3 (.slice A na ca) na (aU vs))(hD:∀k,D k->k<w.heap.size)(oJ:vs.length=na):
  Calls Tryz.prog 61 #[.agg #[.int .u8 x.k,.int .i64 x.num,.string x.nm,.slice x.A x.n x.cap],.int .i64 i,.slice A na ca] w fun en w'=>∃A' c',en=.returned (.slice A' (bJ x i vs).length c')∧Sl w' (fun k=>D k∨w.heap.size<=k∧k<w'.heap.size) 3 (.slice A' (bJ x i vs).length c') (bJ x i vs).length (aU (bJ x i vs))∧Below w.heap.size w w':=by
 have e0:bJ x i vs=vs:=by unfold bJ;rw[if_neg hx,if_neg RC]
 rw[e0,oJ];have HS:Hid (∀w',Below w.heap.size w w'->Sl w' (fun k=>D k∨w.heap.size<=k∧k<w'.heap.size) 3 (.slice A na ca) na (aU vs)):=aA fun w' hb=>h.keep (fun b o hd=>hb.cell (p:=⟨b,o,none⟩) (hD b hd)) (fun k hk=>.inl hk)
 clear h hD e0 oJ;obtain⟨k,num,nm,XA,n,cap⟩:=x;dsimp only at *;obtain⟨q1,hq1⟩:∃q,(k==54)=q:=⟨_,rfl⟩;obtain⟨q2,hq2⟩:∃q,((i:Int)==1)=q:=⟨_,rfl⟩;obtain⟨q3,hq3⟩:∃q,(k==55)=q:=⟨_,rfl⟩;obtain⟨q4,hq4⟩:∃q,((i:Int)==0)=q:=⟨_,rfl⟩;have g1:¬(q1=true∧q2=true):=by rintro⟨rfl,rfl⟩;simp at hq1 hq2;omega
 have g2:¬(q3=true∧q4=true):=by rintro⟨rfl,rfl⟩;simp at hq3 hq4;omega
 clear hx RC;cases q1<;>cases q2<;>cases q3<;>cases q4<;>first|exact absurd ⟨rfl,rfl⟩ g1|exact absurd ⟨rfl,rfl⟩ g2|skip
 all_goals
  clear g1 g2;go_enter Tryz.func61,Tryz.ntmps61;go_wp2_with fail;go_ret;exact⟨_,_,rfl,HS.out _ (by go_grown),by go_grown⟩
theorem tU{w:World}{D:Nat->Prop}{size n c:Nat}{A:Option Addr}{xs:List Value}(h:Sl w D size (.slice A n c) n xs):Sl w D size (.slice A n n) n xs:=by
 obtain⟨A',c',e,h1,h2,h3⟩:=h;injection e with e1 _ e2;subst e1;subst e2;exact⟨A,n,rfl,aH _,fun e=>by have:=h2 e;omega,h3⟩
theorem FX(x:Nd)(i:Nat)(hx:x.k=54)(hi:i=1){w:World}{D:Nat->Prop}{A:Option Addr}{na ca:Nat}{vs:List Vr}(h:Sl w D 3 (.slice A na ca) na (aU vs))(hD:∀k,D k->k<w.heap.size)(oJ:vs.length=na)(xH:na<=100000):
  Calls Tryz.prog 61 #[.agg #[.int .u8 x.k,.int .i64 x.num,.string x.nm,.slice x.A x.n x.cap],.int .i64 i,.slice A na ca] w fun en w'=>∃A' c',en=.returned (.slice A' (bJ x i vs).length c')∧Sl w' (fun k=>D k∨w.heap.size<=k∧k<w'.heap.size) 3 (.slice A' (bJ x i vs).length c') (bJ x i vs).length (aU (bJ x i vs))∧Below w.heap.size w w':=by
 have e0:bJ x i vs=vs++ [⟨x.nm,1,0⟩]:=by unfold bJ;simp[hx,hi]
 have e1:(vs++ [(⟨x.nm,1,0⟩:Vr)]).length=na+1:=by simp[oJ]
 have e2:aU (vs++ [(⟨x.nm,1,0⟩:Vr)])=aU vs++ [.string x.nm,.int .u8 1,.int .i64 0]:=by simp[aU]
 rw[e0,e1,e2];have HS:=aA h;have HD:=aA hD;obtain⟨i3,li,lz,ls,lb⟩:=info_parts nU;have HI:=aA li;have HZ:=aA lz;have lI:=aA ls;have jY:=aA lb;clear h hD e0 e1 e2 oJ li lz ls lb;obtain⟨k,num,nm,XA,n,cap⟩:=x;dsimp only at *;subst hx;subst hi;go_enter Tryz.func61,Tryz.ntmps61;go_upto_region 1 with fail;refine aB ?_;intro w1 aF;have aG:Below w.heap.size w w1:=by rw[aF];go_grown
 have K1:Blk w1 w.heap.size 26 #[.int .u8 54,.int .i64 num,.string nm,.slice XA n cap]:=by rw[aF];exact aQ
 have a9:=aA K1;have aO:=aA aG;have vV:w.heap.size<w1.heap.size:=K1.lt;have F1:=aA (HS.out.keep (w':=w1) (D':=D) (fun b o hd=>aG.cell (p:=⟨b,o,none⟩) (HD.out b hd)) (fun k hk=>hk));clear aF aG;obtain⟨aL,aJ,aK⟩:=K1.open_;clear K1;go_upto_region 2 with fail;clear aL aJ aK;refine wp_region_held_drew (S:=fun W=>Below w1.heap.size w1 W) (by kernel_rfl) ((aM _ _).drew) (fun hH=>?_);refine aE ?_;intro wa bP;have hX:Below w1.heap.size w1 wa:=by rw[bP];exact(aM _ _).drew
 replace hH:Below w1.heap.size w1 wa:=hX;clear bP;refine aW 0 (v:=?_) rfl hH ?_;(try simp only[PU,aD])
 refine aW 2 (v:=?_) rfl hH ?_;(try simp only[PU,aD])
 refine cH 3 (v:=?_) rfl ?hy hH ?_
 case hy=>(intro bW aN;have t:=(aN.cell (p:=⟨w.heap.size,2,none⟩) vV).trans (a9.out.cell 2);clear aN;go_simp;try with_reducible rfl)
 (try simp only[PU,aD])
 refine aW 4 (v:=?_) rfl hH ?_;(try simp only[PU,aD])
 refine wpAnyH_ready (rs:= [1,5]) (by kernel_rfl) (by simp) ?_;refine AllReadyH.cons rfl (fun K hK=>?_) (AllReadyH.cons rfl (fun K hK=>?_) (AllReadyH.nil))
 ·go_simp
  refine(tL wa (F1.out.keep (w':=wa) (D':=D) (fun b o hd=>hX.cell (p:=⟨b,o,none⟩) (Nat.lt_trans (HD.out b hd) vV)) (fun k hk=>hk)) (by omega)).mono ?_;rintro en wb ⟨rfl,aR⟩;replace hX:=hX.next aR;clear aR;refine hK.out _ _ hX (fun hH=>?_);clear hK;(try simp only[PU,aD])
  refine cE 5 (by kernel_rfl) rfl (fun K hK=>?_);go_simp;replace hH:Below w1.heap.size w1 _:=hX.alloc hX.size (.cells #[.string nm,.int .u8 1,.int .i64 0] 72);refine hK.out _ _ hH (fun hH=>?_);clear hK;(try simp only[PU,aD])
  refine aE ?_;intro wc bS;have W6:=aA (show Blk wc wb.heap.size 72 #[.string nm,.int .u8 1,.int .i64 0] by rw[bS];exact Blk.new _ _ _);replace hX:Below w1.heap.size w1 wc:=by rw[bS];exact hX.alloc hX.size _
  have Hh:=hX.size;clear bS;refine cE 6 (by kernel_rfl) rfl (fun K hK=>?_);rw[if_pos (by rfl)];refine e8 (.tmp 16) (.tmp 20) 22 rfl 72 i3 _ 3 32 Tryz.underlying22 HI.out HZ.out lI.out jY.out rfl (by decide) (D:=D) (A:=A) (n:=na) (xs:=aU vs) (by simp[Act.eval]) (tU (F1.out.keep (fun b o hd=>hX.cell (p:=⟨b,o,none⟩) (Nat.lt_trans (HD.out b hd) vV)) (fun k hk=>hk))) ⟨wb.heap.size,0,none⟩ 1 1 [.string nm,.int .u8 1,.int .i64 0] (by simp[Act.eval]) (by decide) rfl (by intro j u hu;rw[Addr.add_lit,Nat.zero_add];exact(W6.out.cell j).trans (by rw[List.getElem?_toArray];exact hu)) (by unfold maxLen;omega) (by omega) ?_;intro v_2 wd bB aR;obtain⟨iS,iT,rfl⟩:=aI bB;have lY:=aA bB;have zH:=aA hX.size;replace hX:=hX.next aR;clear bB aR;refine hK.out _ _ hX (fun hH=>?_);clear hK;(try simp only[PU,aD])
  refine aW 7 (v:=?_) rfl hH ?_;(try simp only[PU,aD])
  refine wpAnyH_done (by kernel_rfl) ?_ _;have HX:=aA hX;clear hX hH;go_wp2_with fail;go_ret;refine⟨iS,iT,rfl,?_,aO.out.next HX.out⟩;exact(Sl.of_own lY.out).keep (fun _ _ _=>rfl) (fun kk hk=>.inr ⟨by have:=zH.out;have:=aO.out.size;omega,hk.2⟩)
 ·go_simp
  replace hH:Below w1.heap.size w1 _:=hX.alloc hX.size (.cells #[.string nm,.int .u8 1,.int .i64 0] 72);refine hK.out _ _ hH (fun hH=>?_);clear hK;(try simp only[PU,aD])
  refine aE ?_;intro wb bS;have W6:=aA (show Blk wb wa.heap.size 72 #[.string nm,.int .u8 1,.int .i64 0] by rw[bS];exact Blk.new _ _ _);replace hX:Below w1.heap.size w1 wb:=by rw[bS];exact hX.alloc hX.size _
  have Hh:=hX.size;clear bS;refine cE 1 (by kernel_rfl) rfl (fun K hK=>?_);go_simp;refine(tL wb (F1.out.keep (w':=wb) (D':=D) (fun b o hd=>hX.cell (p:=⟨b,o,none⟩) (Nat.lt_trans (HD.out b hd) vV)) (fun k hk=>hk)) (by omega)).mono ?_;rintro en wc ⟨rfl,aR⟩;replace hX:=hX.next aR;replace W6:=aA (W6.out.next aR);clear aR;refine hK.out _ _ hX (fun hH=>?_);clear hK;(try simp only[PU,aD])
  refine cE 6 (by kernel_rfl) rfl (fun K hK=>?_);rw[if_pos (by rfl)];refine e8 (.tmp 16) (.tmp 20) 22 rfl 72 i3 _ 3 32 Tryz.underlying22 HI.out HZ.out lI.out jY.out rfl (by decide) (D:=D) (A:=A) (n:=na) (xs:=aU vs) (by simp[Act.eval]) (tU (F1.out.keep (fun b o hd=>hX.cell (p:=⟨b,o,none⟩) (Nat.lt_trans (HD.out b hd) vV)) (fun k hk=>hk))) ⟨wa.heap.size,0,none⟩ 1 1 [.string nm,.int .u8 1,.int .i64 0] (by simp[Act.eval]) (by decide) rfl (by intro j u hu;rw[Addr.add_lit,Nat.zero_add];exact(W6.out.cell j).trans (by rw[List.getElem?_toArray];exact hu)) (by unfold maxLen;omega) (by omega) ?_;intro v_2 wd bB aR;obtain⟨iS,iT,rfl⟩:=aI bB;have lY:=aA bB;have zH:=aA hX.size;replace hX:=hX.next aR;clear bB aR;refine hK.out _ _ hX (fun hH=>?_);clear hK;(try simp only[PU,aD])
  refine aW 7 (v:=?_) rfl hH ?_;(try simp only[PU,aD])
  refine wpAnyH_done (by kernel_rfl) ?_ _;have HX:=aA hX;clear hX hH;go_wp2_with fail;go_ret;refine⟨iS,iT,rfl,?_,aO.out.next HX.out⟩;exact(Sl.of_own lY.out).keep (fun _ _ _=>rfl) (fun kk hk=>.inr ⟨by have:=zH.out;have:=aO.out.size;omega,hk.2⟩)
theorem FY(x:Nd)(i:Nat)(hx:x.k=55)(hi:i=0){w:World}{D:Nat->Prop}{A:Option Addr}{na ca:Nat}{vs:List Vr}(h:Sl w D 3 (.slice A na ca) na (aU vs))(hD:∀k,D k->k<w.heap.size)(oJ:vs.length=na)(xH:na<=100000):
  Calls Tryz.prog 61 #[.agg #[.int .u8 x.k,.int .i64 x.num,.string x.nm,.slice x.A x.n x.cap],.int .i64 i,.slice A na ca] w fun en w'=>∃A' c',en=.returned (.slice A' (bJ x i vs).length c')∧Sl w' (fun k=>D k∨w.heap.size<=k∧k<w'.heap.size) 3 (.slice A' (bJ x i vs).length c') (bJ x i vs).length (aU (bJ x i vs))∧Below w.heap.size w w':=by
 have e0:bJ x i vs=vs++ [⟨x.nm,3,0⟩]:=by unfold bJ;simp[hx,hi]
 have e1:(vs++ [(⟨x.nm,3,0⟩:Vr)]).length=na+1:=by simp[oJ]
 have e2:aU (vs++ [(⟨x.nm,3,0⟩:Vr)])=aU vs++ [.string x.nm,.int .u8 3,.int .i64 0]:=by simp[aU]
 rw[e0,e1,e2];have HS:=aA h;have HD:=aA hD;obtain⟨i3,li,lz,ls,lb⟩:=info_parts nU;have HI:=aA li;have HZ:=aA lz;have lI:=aA ls;have jY:=aA lb;clear h hD e0 e1 e2 oJ li lz ls lb;obtain⟨k,num,nm,XA,n,cap⟩:=x;dsimp only at *;subst hx;subst hi;go_enter Tryz.func61,Tryz.ntmps61;go_upto_region 1 with fail;refine aB ?_;intro w1 aF;have aG:Below w.heap.size w w1:=by rw[aF];go_grown
 have K1:Blk w1 w.heap.size 26 #[.int .u8 55,.int .i64 num,.string nm,.slice XA n cap]:=by rw[aF];exact aQ
 have a9:=aA K1;have aO:=aA aG;have vV:w.heap.size<w1.heap.size:=K1.lt;have F1:=aA (HS.out.keep (w':=w1) (D':=D) (fun b o hd=>aG.cell (p:=⟨b,o,none⟩) (HD.out b hd)) (fun k hk=>hk));clear aF aG;obtain⟨aL,aJ,aK⟩:=K1.open_;clear K1;go_upto_region 4 with fail;clear aL aJ aK;refine wp_region_held_drew (S:=fun W=>Below w1.heap.size w1 W) (by kernel_rfl) ((aM _ _).drew) (fun hH=>?_);refine aE ?_;intro wa bP;have hX:Below w1.heap.size w1 wa:=by rw[bP];exact(aM _ _).drew
 replace hH:Below w1.heap.size w1 wa:=hX;clear bP;refine aW 0 (v:=?_) rfl hH ?_;(try simp only[PU,aD])
 refine aW 2 (v:=?_) rfl hH ?_;(try simp only[PU,aD])
 refine cH 3 (v:=?_) rfl ?hy hH ?_
 case hy=>(intro bW aN;have t:=(aN.cell (p:=⟨w.heap.size,2,none⟩) vV).trans (a9.out.cell 2);clear aN;go_simp;try with_reducible rfl)
 (try simp only[PU,aD])
 refine aW 4 (v:=?_) rfl hH ?_;(try simp only[PU,aD])
 refine wpAnyH_ready (rs:= [1,5]) (by kernel_rfl) (by simp) ?_;refine AllReadyH.cons rfl (fun K hK=>?_) (AllReadyH.cons rfl (fun K hK=>?_) (AllReadyH.nil))
 ·go_simp
  refine(tL wa (F1.out.keep (w':=wa) (D':=D) (fun b o hd=>hX.cell (p:=⟨b,o,none⟩) (Nat.lt_trans (HD.out b hd) vV)) (fun k hk=>hk)) (by omega)).mono ?_;rintro en wb ⟨rfl,aR⟩;replace hX:=hX.next aR;clear aR;refine hK.out _ _ hX (fun hH=>?_);clear hK;(try simp only[PU,aD])
  refine cE 5 (by kernel_rfl) rfl (fun K hK=>?_);go_simp;replace hH:Below w1.heap.size w1 _:=hX.alloc hX.size (.cells #[.string nm,.int .u8 3,.int .i64 0] 72);refine hK.out _ _ hH (fun hH=>?_);clear hK;(try simp only[PU,aD])
  refine aE ?_;intro wc bS;have W6:=aA (show Blk wc wb.heap.size 72 #[.string nm,.int .u8 3,.int .i64 0] by rw[bS];exact Blk.new _ _ _);replace hX:Below w1.heap.size w1 wc:=by rw[bS];exact hX.alloc hX.size _
  have Hh:=hX.size;clear bS;refine cE 6 (by kernel_rfl) rfl (fun K hK=>?_);rw[if_pos (by rfl)];refine e8 (.tmp 31) (.tmp 35) 22 rfl 72 i3 _ 3 32 Tryz.underlying22 HI.out HZ.out lI.out jY.out rfl (by decide) (D:=D) (A:=A) (n:=na) (xs:=aU vs) (by simp[Act.eval]) (tU (F1.out.keep (fun b o hd=>hX.cell (p:=⟨b,o,none⟩) (Nat.lt_trans (HD.out b hd) vV)) (fun k hk=>hk))) ⟨wb.heap.size,0,none⟩ 1 1 [.string nm,.int .u8 3,.int .i64 0] (by simp[Act.eval]) (by decide) rfl (by intro j u hu;rw[Addr.add_lit,Nat.zero_add];exact(W6.out.cell j).trans (by rw[List.getElem?_toArray];exact hu)) (by unfold maxLen;omega) (by omega) ?_;intro v_2 wd bB aR;obtain⟨iS,iT,rfl⟩:=aI bB;have lY:=aA bB;have zH:=aA hX.size;replace hX:=hX.next aR;clear bB aR;refine hK.out _ _ hX (fun hH=>?_);clear hK;(try simp only[PU,aD])
  refine aW 7 (v:=?_) rfl hH ?_;(try simp only[PU,aD])
  refine wpAnyH_done (by kernel_rfl) ?_ _;have HX:=aA hX;clear hX hH;go_wp2_with fail;go_ret;refine⟨iS,iT,rfl,?_,aO.out.next HX.out⟩;exact(Sl.of_own lY.out).keep (fun _ _ _=>rfl) (fun kk hk=>.inr ⟨by have:=zH.out;have:=aO.out.size;omega,hk.2⟩)
 ·go_simp
  replace hH:Below w1.heap.size w1 _:=hX.alloc hX.size (.cells #[.string nm,.int .u8 3,.int .i64 0] 72);refine hK.out _ _ hH (fun hH=>?_);clear hK;(try simp only[PU,aD])
  refine aE ?_;intro wb bS;have W6:=aA (show Blk wb wa.heap.size 72 #[.string nm,.int .u8 3,.int .i64 0] by rw[bS];exact Blk.new _ _ _);replace hX:Below w1.heap.size w1 wb:=by rw[bS];exact hX.alloc hX.size _
  have Hh:=hX.size;clear bS;refine cE 1 (by kernel_rfl) rfl (fun K hK=>?_);go_simp;refine(tL wb (F1.out.keep (w':=wb) (D':=D) (fun b o hd=>hX.cell (p:=⟨b,o,none⟩) (Nat.lt_trans (HD.out b hd) vV)) (fun k hk=>hk)) (by omega)).mono ?_;rintro en wc ⟨rfl,aR⟩;replace hX:=hX.next aR;replace W6:=aA (W6.out.next aR);clear aR;refine hK.out _ _ hX (fun hH=>?_);clear hK;(try simp only[PU,aD])
  refine cE 6 (by kernel_rfl) rfl (fun K hK=>?_);rw[if_pos (by rfl)];refine e8 (.tmp 31) (.tmp 35) 22 rfl 72 i3 _ 3 32 Tryz.underlying22 HI.out HZ.out lI.out jY.out rfl (by decide) (D:=D) (A:=A) (n:=na) (xs:=aU vs) (by simp[Act.eval]) (tU (F1.out.keep (fun b o hd=>hX.cell (p:=⟨b,o,none⟩) (Nat.lt_trans (HD.out b hd) vV)) (fun k hk=>hk))) ⟨wa.heap.size,0,none⟩ 1 1 [.string nm,.int .u8 3,.int .i64 0] (by simp[Act.eval]) (by decide) rfl (by intro j u hu;rw[Addr.add_lit,Nat.zero_add];exact(W6.out.cell j).trans (by rw[List.getElem?_toArray];exact hu)) (by unfold maxLen;omega) (by omega) ?_;intro v_2 wd bB aR;obtain⟨iS,iT,rfl⟩:=aI bB;have lY:=aA bB;have zH:=aA hX.size;replace hX:=hX.next aR;clear bB aR;refine hK.out _ _ hX (fun hH=>?_);clear hK;(try simp only[PU,aD])
  refine aW 7 (v:=?_) rfl hH ?_;(try simp only[PU,aD])
  refine wpAnyH_done (by kernel_rfl) ?_ _;have HX:=aA hX;clear hX hH;go_wp2_with fail;go_ret;refine⟨iS,iT,rfl,?_,aO.out.next HX.out⟩;exact(Sl.of_own lY.out).keep (fun _ _ _=>rfl) (fun kk hk=>.inr ⟨by have:=zH.out;have:=aO.out.size;omega,hk.2⟩)
theorem MK(x:Nd)(i:Nat){w:World}{D:Nat->Prop}{A:Option Addr}{na ca:Nat}{vs:List Vr}(h:Sl w D 3 (.slice A na ca) na (aU vs))(hD:∀k,D k->k<w.heap.size)(oJ:vs.length=na)(xH:na<=100000):
  Calls Tryz.prog 61 #[.agg #[.int .u8 x.k,.int .i64 x.num,.string x.nm,.slice x.A x.n x.cap],.int .i64 i,.slice A na ca] w fun en w'=>∃A' c',en=.returned (.slice A' (bJ x i vs).length c')∧Sl w' (fun k=>D k∨w.heap.size<=k∧k<w'.heap.size) 3 (.slice A' (bJ x i vs).length c') (bJ x i vs).length (aU (bJ x i vs))∧Below w.heap.size w w':=by
 by_cases h1:x.k=54∧i=1
 ·exact FX x i h1.1 h1.2 h hD oJ xH
 by_cases h2:x.k=55∧i=0
 ·exact FY x i h2.1 h2.2 h hD oJ xH
 ·exact MJ x i h1 h2 h hD oJ
end Go.Proofs.YtakfdnnlhjhcfaaGreatDoor
