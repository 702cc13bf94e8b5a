/- Part of the proof. -/
import Derived.Laws.OwnMore
import Derived.Laws.AppendOwnNone
import Derived.Lib.SliceRun
import Derived.Outline
import Derived.Deep.DeepAppendWide
import Derived.Test.YtakfdnnlhjhcfaaGreatDoorA6
import Derived.Test.YtakfdnnlhjhcfaaGreatDoorA8
set_option linter.unusedVariables false
set_option linter.unusedSimpArgs false
set_option maxRecDepth 100000
set_option maxHeartbeats 4000000
namespace Bk
open Go Go.RowKit
theorem xO{P:Program}(w:World)(base:Nat)(t ty e:TypeId)(i:TypeInfo)(z:Value)(size bytes:Nat)(ht:P.underlying t=some (.slice e))(hi:P.info? e=some i)(hz:i.zero=some z)(qG:i.size=size)(NH:i.bytes=bytes)(RD:z.cells.size=size)(l6:0<size)
  (v:Value) (n:Nat) (xs:List Value) (bB:w.ownsRow base e size v n xs) {D:Nat->Prop} {u:Value} {m:Nat} {ys:List Value} (hu:Sl w D size u m ys) (h1:∀u∈ys,u.oneCell'=true) (IX:n+m<=maxLen) (iI:(n+m)*bytes<=140737488355328) (hbase:base<=w.heap.size):
  ∃v' w',(Builtin.append_ #[t,t] ty #[v,u]).run P w=.ok v' w'∧w'.ownsRow base e size v' (n+m) (xs++ys)∧w.grownBy w' v.ownBlock∧(v'.ownBlock=v.ownBlock∨v'.ownBlock=some w.heap.size):=by
 obtain⟨A,cap,rfl,f9,hA,hR⟩:=hu;have hl:=hR.1;cases A with
 |none=>
  obtain rfl:=hA rfl;obtain rfl:m=0:=by omega
  obtain rfl:ys= []:=List.eq_nil_of_length_eq_zero (by rw[hl,Nat.zero_mul]);exact⟨v,w,run_append_owned_none w base t ty e i size ht hi v n xs bB,by simpa using bB,World.grownBy.refl _ _,.inl rfl⟩
 |some ad=>
  obtain⟨v',w',h2,h3,h4,_,h5⟩:=run_append_own_at (P:=P) w base t ty e i z size bytes ht hi hz qG NH RD l6 v n xs bB ad m cap ys hl (fun j u hu=>by
   have hj:j<ys.length:=(lgS.1 hu).1;have h0:0<m:=by rcases Nat.eq_zero_or_pos m with h|h;(subst h;rw[hl]at hj;omega);exact h
   obtain⟨b,off,e,_,hc⟩:=hR.2 h0;injection e with e;subst e;rw[Addr.add_lit];exact hc j u hu) h1 IX iI hbase
  exact⟨v',w',h2,h3,h4,h5⟩
theorem oE{P:Program}{o:Oper}{a:Act}{w:World}{K:Act->World->Prop}{Q:Exit->Act->World->Prop}(s x:Operand)(t:TypeId)(ho:o.op=.call {callee:=.builtin .append,args:=#[s,x],argTypes:=#[t,t]})
  (base:Nat) (e:TypeId) (i:TypeInfo) (z:Value) (size bytes:Nat) (ht:P.underlying t=some (.slice e)) (hi:P.info? e=some i) (hz:i.zero=some z) (qG:i.size=size) (NH:i.bytes=bytes) (RD:z.cells.size=size) (l6:0<size)
  (v:Value) (n:Nat) (xs:List Value) (hs:a.eval s=v) (bB:w.ownsRow base e size v n xs) {D:Nat->Prop} {u:Value} {m:Nat} {ys:List Value} (hx:a.eval x=u) (hu:Sl w D size u m ys) (h1:∀u∈ys,u.oneCell'=true) (IX:n+m<=maxLen) (iI:(n+m)*bytes<=140737488355328) (hbase:base<=w.heap.size)
  (h:∀v' w',w'.ownsRow base e size v' (n+m) (xs++ys)->w.grownBy w' v.ownBlock->(v'.ownBlock=v.ownBlock∨v'.ownBlock=some w.heap.size)->K (a.put o.dst v') w'):o.wp P a w K Q:=by
 obtain⟨v',w',hr,h2,h3,h5⟩:=xO (P:=P) w base t o.type e i z size bytes ht hi hz qG NH RD l6 v n xs bB hu h1 IX iI hbase;unfold Oper.wp execOp;simp only[ho,resolve,invoke,builtin,Sem.run_bind,Sem.run_pure,Result.andThen_ok,List.map_toArray,List.map_cons,List.map_nil,hs,hx,hr];exact h v' w' h2 h3 h5
theorem oB{w:World}{g:Nat}{t:TypeId}{u:Value}(h:Blk w g t #[u]):Sl w (fun _=>True) 1 (.slice (some ⟨g,0,none⟩) 1 1) 1 [u]:=
 ⟨_,1,rfl,aH _,(fun e=>by cases e),rfl,fun _=>⟨g,0,rfl,trivial,fun j v hv=>by
  match j,hv with
  |0,hv=>simp at hv;subst hv;exact h.cell 0⟩⟩
theorem bH{w:World}{base:Nat}{e:TypeId}{size n:Nat}{v:Value}{xs:List Value}(h:w.ownsRow base e size v n xs){k:Nat}(hk:v.ownBlock=some k):base<=k∧k<w.heap.size:=by
 rcases h.2 with⟨rfl,_⟩|⟨g,cap,cur,rfl,hg,hh,_⟩
 ·cases hk
 ·injection hk with hk;subst hk
  exact⟨hg,Blk.lt (cs:=cur) hh⟩
theorem dZ{w:World}{base base':Nat}{e:TypeId}{size n:Nat}{v:Value}{xs:List Value}(h:w.ownsRow base e size v n xs)(hb:base'<=base):w.ownsRow base' e size v n xs:=by
 refine⟨h.1,?_⟩;rcases h.2 with h0|⟨g,cap,cur,e1,hg,r⟩
 ·exact .inl h0
 ·exact .inr ⟨g,cap,cur,e1,fC hb hg,r⟩
end Bk
namespace Bk
open Go
theorem xU(b off j:Nat):(⟨b,off,none⟩:Addr).add j=⟨b,off+j,none⟩:=by
 unfold Addr.add;split
 ·rename_i h0;subst h0;rfl
 ·rfl
end Bk
namespace Go.Proofs.YtakfdnnlhjhcfaaGreatDoor
open Go.RowKit Bk
theorem pL:(Tryz.prog.info? 3).map (fun i=>(i.zero,i.size,i.bytes))=some (some (.int .i64 0),1,8):=by kernel_rfl
theorem Hn(l:List Int):∀u∈aC l,u.oneCell'=true:=by
 intro u hu;simp[aC]at hu;obtain⟨x,_,rfl⟩:=hu;rfl
theorem CloneI.some_(ad:Addr)(n cap:Nat)(l:List Int)(w:World)(mD:n<=17592186044400)(hl:(aC l).length=n*1)(hc:∀j u,(aC l)[j]?=some u->w.cell? (ad.add j)=some u):
  Calls Tryz.prog 30 #[.slice (some ad) n cap] w fun e w'=>∃v,e=.returned v∧w'.ownsRow w.heap.size 3 1 v n (aC l)∧Below w.heap.size w w':=by
 obtain⟨i2,li,lz,ls,lb⟩:=info_parts pL;have q28:∀(w:World)(a:Option Addr)(n c n' c':Nat),(binOp .eql 30 (.slice a n c) (.slice none n' c')).run Tryz.prog w=.ok (.bool a.isNone) w:=fun w a n c n' c'=>Lib.run_eql_slice_nil w _ _ a n c n' c' Tryz.underlying30
 have HC:=aA hc;clear hc;have HL:=aA hl;clear hl;go_enter Tryz.func30,Tryz.ntmps30;go_wp2_with (at_builtin;refine wpList_append_own_wide _ rfl _ _ 30 rfl w.heap.size 3 i2 _ 1 8 Tryz.underlying30 li lz ls lb rfl (by decide) _ _ _ rfl (World.ownsRow_made w #[] 0 (aH _) (fI _) rfl) ad n cap (aC l) rfl ?qc1 ?qc2 ?qc3 ?qc4 ?qc5 ?qc6 ?_)
 case qc1=>exact HL.out
 case qc2=>
  intro j u hj;have h:=HC.out j u hj;refine Lib.cell?_alloc_some _ h
 case qc3=>exact Hn l
 case qc4=>unfold maxLen;omega
 case qc5=>omega
 case qc6=>simp
 intro v' w1 bB Qm GL;go_wp2;go_ret;refine⟨v',rfl,by simpa using bB,?_⟩;exact((aM _ w).alloc (aH _) _).grown Qm (by simp) (by intro k hk;simp[Value.ownBlock]at hk;omega)
theorem eR{w:World}{D:Nat->Prop}{v:Value}{l:List Int}(h:Sl w D 1 v l.length (aC l))(mD:l.length<=17592186044400):
  Calls Tryz.prog 30 #[v] w fun e w'=>∃v,e=.returned v∧w'.ownsRow w.heap.size 3 1 v l.length (aC l)∧Below w.heap.size w w':=by
 obtain⟨A,cap,rfl,f9,hA,hC⟩:=h;cases A with
 |none=>
  have Pv:l= []:=by
   rcases Nat.eq_zero_or_pos l.length with h|h
   ·exact List.eq_nil_of_length_eq_zero h
   ·obtain⟨b,off,e,_⟩:=hC.2 h;cases e
  subst Pv;have q28:∀(w:World)(a:Option Addr)(n c n' c':Nat),(binOp .eql 30 (.slice a n c) (.slice none n' c')).run Tryz.prog w=.ok (.bool a.isNone) w:=fun w a n c n' c'=>Lib.run_eql_slice_nil w _ _ a n c n' c' Tryz.underlying30
  clear hC f9 hA mD;go_enter Tryz.func30,Tryz.ntmps30;go_wp2;go_ret;exact⟨_,rfl,⟨rfl,.inl ⟨rfl,rfl⟩⟩,aM _ _⟩
 |some ad=>
  refine CloneI.some_ ad _ cap l w mD hC.1 fun j u hu=>?_
  rcases Nat.eq_zero_or_pos l.length with h|h
  ·have:l= []:=List.eq_nil_of_length_eq_zero h
   subst this;simp[aC]at hu
  ·obtain⟨b,off,e,_,hc⟩:=hC.2 h
   injection e with e;subst e;rw[xU];exact hc j u hu
def Emt(cb:Nat)(w w':World)(q q':Value):Prop:=Fr (fun k=>k=cb∨q.ownBlock=some k) w w'∧(q'.ownBlock=q.ownBlock∨∀k,q'.ownBlock=some k->w.heap.size<=k)
theorem Emt.refl(cb:Nat)(w:World)(q:Value):Emt cb w w q q:=⟨Fr.refl _ _,.inl rfl⟩
theorem Emt.trans{cb:Nat}{w w' w'':World}{q q' q'':Value}(h:Emt cb w w' q q')(h':Emt cb w' w'' q' q''):Emt cb w w'' q q'':=by
 obtain⟨f1,e1⟩:=h;obtain⟨f2,e2⟩:=h';refine⟨⟨f2.os.trans f1.os,f2.tape.trans f1.tape,f2.output.trans f1.output,fC f1.size f2.size,fun k hk ho=>(f2.block k (dX hk f1.size) fun h=>?_).trans (f1.block k hk ho)⟩,?_⟩
 ·rcases h with h|h
  ·exact ho (.inl h)
  ·rcases e1 with e|e
   ·rw[e]at h;exact ho (.inr h)
   ·have:=e k h;omega
 ·rcases e2 with e|e
  ·rw[e];exact e1
  ·exact .inr fun k hk=>fC f1.size (e k hk)
theorem Emt.next{cb:Nat}{w w' w'':World}{q q':Value}(h:Emt cb w w' q q')(hb:Below w'.heap.size w' w''):Emt cb w w'' q q':=⟨h.1.next hb,h.2⟩
theorem Emt.pre{cb:Nat}{w w' w'':World}{q q':Value}(hb:Below w.heap.size w w')(h:Emt cb w' w'' q q'):Emt cb w w'' q q':=⟨(Fr.of hb).trans h.1,h.2.imp id fun e k hk=>fC hb.size (e k hk)⟩
end Go.Proofs.YtakfdnnlhjhcfaaGreatDoor
namespace Bk
open Go Go.RowKit
theorem qY{P:Program}{w:World}{ops:Array Oper}{rest:List Oper}{o:Oper}{a:Act}{Q:Exit->Act->World->Prop}(Je:o.guard=none)(s x:Operand)(t:TypeId)(ho:o.op=.call {callee:=.builtin .append,args:=#[s,x],argTypes:=#[t,t]})
  (e:TypeId) (i:TypeInfo) (z:Value) (size bytes:Nat) (ht:P.underlying t=some (.slice e)) (hi:P.info? e=some i) (hz:i.zero=some z) (qG:i.size=size) (NH:i.bytes=bytes) (RD:z.cells.size=size) (l6:0<size)
  {D:Nat->Prop} {A:Option Addr} {n:Nat} {xs:List Value} (hs:a.eval s=.slice A n n) (hS:Sl w D size (.slice A n n) n xs)
  (ad:Addr) (m c:Nat) (news:List Value) (hx:a.eval x=.slice (some ad) m c) (hm:0<m) (hl:news.length=m*size) (O1:∀j u,news[j]?=some u->w.cell? (ad.add j)=some u)
  (IX:n+m<=maxLen) (iI:(n+m)*bytes<=140737488355328)
  (h:∀v' w',w'.ownsRow w.heap.size e size v' (n+m) (xs++news)->Below w.heap.size w w'->wpList P ops Q rest (a.put o.dst v') w'):wpList P ops Q (o::rest) a w:=by
 refine wpList_plain Je fun K hK=>?_
 subst qG;subst NH;have Hd:n+m<=9223372036854775807:=by simp only[maxLen]at IX;omega
 obtain⟨A',cap',hv,f9,hA,hR⟩:=hS;injection hv with hv1 _ hv3;subst hv1;subst hv3;have xK:xs.length=n*i.size:=hR.1;have hlen:(xs++news).length=(n+m)*i.size:=by rw[List.length_append,xK,hl,Nat.add_mul]
 have grown:∀(old:Nat),old<n+m->
   (w.drew.alloc (.cells (xs.toArray++news.toArray++Builtin.zeroCells z.cells (grownCap w (n+m) old e-(n+m))) e)).ownsRow w.heap.size e i.size
    (.slice (some ⟨w.heap.size,0,none⟩) (n+m) (grownCap w (n+m) old e)) (n+m) (xs++news)∧
   Below w.heap.size w (w.drew.alloc (.cells (xs.toArray++news.toArray++Builtin.zeroCells z.cells (grownCap w (n+m) old e-(n+m))) e)):=by
  intro old eI;have mS:=grownCap_ge w (n+m) old e;have GI:grownCap w (n+m) old e<=maxLen:=grownCap_le_maxLen w (n+m) old e IX;refine⟨⟨hlen,.inr ⟨w.heap.size,_,_,rfl,aH _,heap_alloc_new w.drew _,mS,GI,?_,?_⟩⟩,(aM _ _).drew.alloc (aH _) _⟩
  ·simp only[Array.size_append,List.size_toArray,size_zeroCells,RD,xK,hl,<-Nat.add_mul]
   congr 1;omega
  ·simp only[Array.toList_append,List.append_assoc]
   rw[<-List.append_assoc,<-hlen];exact List.take_left
 cases A with
 |none=>
  have Qw:n=0:=hA rfl;subst Qw;have xJ:xs= []:=List.eq_nil_of_length_eq_zero (by simpa using xK);subst xJ;have hr:=run_append_nil (P:=P) w t o.type e i z ht hi hz ad m c news hl O1 hm (by omega) (by have hb:=iI;simp only[Nat.zero_add]at hb;omega);have eH:=grown 0 (by omega);simp only[Nat.zero_add,List.nil_append,Array.empty_append]at eH h;unfold Oper.wp execOp;simp only[ho,resolve,invoke,builtin,Sem.run_bind,Sem.run_pure,Result.andThen_ok,List.map_toArray,List.map_cons,List.map_nil,hs,hx,hr];exact hK _ _ (h _ _ eH.1 eH.2)
 |some b=>
  have holds:∀j u,xs[j]?=some u->w.cell? (b.add j)=some u:=fun j u hu=>by
   have hj:=(lgS.1 hu).1;have h0:0<n:=by rcases Nat.eq_zero_or_pos n with h|h;(subst h;omega);exact h
   obtain⟨g,off,eb,_,hc⟩:=hR.2 h0;injection eb with eb;subst eb;rw[Addr.add_lit];exact hc j u hu
  have hr:=run_append_grow (P:=P) w t o.type e i z ht hi hz b n n xs xK holds ad m c news hl O1 (by omega) (by omega) (growslice_fits (by omega) iI);have eH:=grown n (by omega);unfold Oper.wp execOp;simp only[ho,resolve,invoke,builtin,Sem.run_bind,Sem.run_pure,Result.andThen_ok,List.map_toArray,List.map_cons,List.map_nil,hs,hx,hr];exact hK _ _ (h _ _ eH.1 eH.2)
end Bk
namespace Go.Proofs.YtakfdnnlhjhcfaaGreatDoor
open Go.RowKit Bk
theorem Ek(w:World){D:Nat->Prop}{v:Value}{n:Nat}{xs:List Value}(h:Sl w D 1 v n xs)(hn:n<=17592186043904):
  Calls Tryz.prog 95 #[v] w fun en w'=>∃A,en=.returned (.slice A n n)∧Sl w D 1 (.slice A n n) n xs∧Below w.heap.size w w':=by
 obtain⟨A,cap,rfl,f9,hA,hR⟩:=h;cases A with
 |none=>
  obtain rfl:=hA rfl;obtain rfl:n=0:=by omega
  have HR:=aA hR;clear hR hA f9;go_enter Tryz.func95,Tryz.ntmps95;go_wp2_with fail;go_ret;exact⟨none,rfl,⟨none,0,rfl,aH _,fun _=>rfl,HR.out⟩,by go_grown⟩
 |some b=>
  have HR:=aA hR;have q0:(0:Int)<=(n:Int):=by omega
  have q1:(n:Int)<=(cap:Int):=by omega
  clear hR hA;obtain⟨g,o,sp⟩:=b;go_enter Tryz.func95,Tryz.ntmps95;go_wp2_with fail;go_ret;exact⟨_,rfl,⟨_,n,rfl,aH _,(fun e=>by cases e),by simpa using HR.out⟩,by go_grown⟩
theorem DD(w:World){D:Nat->Prop}{v:Value}{n:Nat}{l:List Int}(h:Sl w D 1 v n (aC l))(hD:∀k,D k->k<w.heap.size)(hn:n<=17592186043904)(i:Int):
  Calls Tryz.prog 59 #[v,.int .i64 i] w fun en w'=>∃v',en=.returned v'∧w'.ownsRow w.heap.size 3 1 v' (n+1) (aC (l++ [i]))∧Below w.heap.size w w':=by
 have iK:=aA (Ek w h hn);obtain⟨i1,li,lz,ls,lb⟩:=info_parts pL;have HI:=aA li;have HZ:=aA lz;have lI:=aA ls;have jY:=aA lb;have HD:=aA hD;clear h li lz ls lb hD;go_enter Tryz.func59,Tryz.ntmps59;go_wp2_with fail;refine iK.out.mono ?_;rintro en w1 ⟨A,rfl,hs,aG⟩;have HS:=aA hs;have aO:=aA aG;clear hs aG;go_wp2_with (at_builtin;refine qY rfl (.tmp 6) (.tmp 8) 30 rfl 3 i1 _ 1 8 Tryz.underlying30 HI.out HZ.out lI.out jY.out rfl (by decide) (D:=fun k=>k<w.heap.size) rfl ((HS.out.keep (D':=fun k=>k<w.heap.size) (fun b o hd=>(Below.next aO.out ((aM _ _).alloc (aH _) _)).cell (p:=⟨b,o,none⟩) (HD.out _ hd)) (fun k hk=>HD.out k hk))) ⟨w1.heap.size,0,none⟩ 1 1 [.int .i64 i] rfl (by decide) rfl (cell_one_new _ _ _) (by unfold maxLen;omega) (by omega) ?_);intro v2 w2 bB hb2;have lY:=aA bB;have vV:=aO.out.size;have aP:Hid (Below w.heap.size w w2):=aA (aO.out.trans ((((aM w1.heap.size w1).alloc (aH _) _).trans (hb2.mono (Nat.le_succ _))).mono vV));clear bB hb2;go_wp2_with fail;go_ret;refine⟨v2,rfl,?_,aP.out⟩;have h:=dZ lY.out (base':=w.heap.size) (by omega);rw[show aC (l++ [i])=aC l++ [.int .i64 i] by simp[aC]];exact h
theorem AY:(Tryz.prog.info? 69).map (fun i=>(i.zero,i.size,i.bytes))=some (some (.agg #[.int .i64 0,.slice none 0 0,.int .i64 0,.string ⟨#[]⟩]),4,56):=by kernel_rfl
structure Flt(w:World)(bf base:Nat)(q:Value)(n:Nat):Prop where
 blk:Blk w bf 49 #[q]
 own:∃xs,w.ownsRow base 69 4 q n xs∧∀u∈xs,u.oneCell'=true
theorem Flt.next{w w':World}{bf base:Nat}{q:Value}{n:Nat}(h:Flt w bf base q n)(hb:Below w.heap.size w w'):Flt w' bf base q n:=
 ⟨h.blk.next hb,let ⟨xs,h1,h2⟩:=h.own;⟨xs,aZ h1 hb (aH _),h2⟩⟩
def Dn(bf:Nat)(q:Value)(w:World)(k:Nat):Prop:=k<w.heap.size∧¬(k=bf∨q.ownBlock=some k)
theorem Dn.next{bf:Nat}{q:Value}{w w':World}{v:Value}{n:Nat}{xs:List Value}(h:Sl w (Dn bf q w) 1 v n xs)(hb:Below w.heap.size w w'):Sl w' (Dn bf q w') 1 v n xs:=
 h.keep (fun b o hd=>hb.cell (p:=⟨b,o,none⟩) hd.1) (fun k hk=>⟨dX hk.1 hb.size,hk.2⟩)
theorem Dn.emt{bf:Nat}{q q':Value}{w w':World}{v:Value}{n:Nat}{xs:List Value}(h:Sl w (Dn bf q w) 1 v n xs)(he:Emt bf w w' q q'):Sl w' (Dn bf q' w') 1 v n xs:=
 h.keep (fun b o hd=>he.1.cell hd.1 hd.2 o) (fun k hk=>⟨dX hk.1 he.1.size,fun ho=>by
  rcases ho with ho|ho
  ·exact hk.2 (.inl ho)
  ·rcases he.2 with e|e
   ·exact hk.2 (.inr (by rw[<-e];exact ho))
   ·have:=e k ho;have:=hk.1;omega⟩)
theorem Fr.ofGrownN{w w':World}{row:Option Nat}(hg:w.grownBy w' row):Fr (fun k=>row=some k) w w':=⟨hg.os,hg.tape,hg.output,hg.size,fun k hk ho=>hg.block k hk (fun e=>ho e.symm)⟩
theorem tT{w:World}{g:Nat}{t:TypeId}{u0 u1 u2 u3:Value}(h:Blk w g t #[u0,u1,u2,u3]):Sl w (fun _=>True) 4 (.slice (some ⟨g,0,none⟩) 1 1) 1 [u0,u1,u2,u3]:=
 ⟨_,1,rfl,aH _,(fun e=>by cases e),rfl,fun _=>⟨g,0,rfl,trivial,fun j v hv=>by rw[Nat.zero_add];exact(h.cell j).trans (by rw[List.getElem?_toArray];exact hv)⟩⟩
def RepP(w w':World)(bf base:Nat)(q:Value)(n:Nat)(err:Int):Prop:=
 (err=0∧Below w.heap.size w w')∨err≠0∧∃q',Flt w' bf base q' (n+1)∧Emt bf w w' q q'
theorem kN{w:World}{bf base:Nat}{q:Value}{n:Nat}(hf:Flt w bf base q n)(f8:bf<base)(IY:base<=w.heap.size)(hn:n<=1000000)(pr err:Int)(nm:ByteArray){v:Value}{l:List Int}(hl:l.length<=17592186043904)(hs:Sl w (fun k=>k<w.heap.size) 1 v l.length (aC l)):
  Calls Tryz.prog 29 #[.int .i64 pr,v,.string nm,.int .i64 err,.pointer (some ⟨bf,0,none⟩)] w fun en w'=>en=.returned (.tuple #[])∧RepP w w' bf base q n err:=by
 obtain⟨hfb,xs,bB,WB⟩:=hf;have HF:=aA hfb;have lY:=aA bB;have Nl:=aA WB;have HS:=aA hs;obtain⟨Aq,cq,rfl⟩:=aI bB;have Tt:Hid (∀k,(Value.slice Aq n cq).ownBlock=some k->base<=k):=aA fun k hk=>(bH lY.out hk).1
 obtain⟨z_f,Ui,IG⟩:=hfb.open_;clear hfb bB WB hs;by_cases he:err=0
 ·subst he
  go_enter Tryz.func29,Tryz.ntmps29;go_wp2_with fail;refine bodyPost_end (results_none rfl _ _ _) rfl ?_;exact⟨rfl,.inl ⟨rfl,aM _ _⟩⟩
 ·have he':(err !=0)=true:=by simpa using he
  have YD:=aA he;obtain⟨i4,li,lz,lsz,lb⟩:=info_parts AY;have HI:=aA li;have HZ:=aA lz;have Dd:=aA lsz;have jY:=aA lb;clear li lz lsz lb he Ui IG;go_enter Tryz.func29,Tryz.ntmps29;go_upto_region 1 with fail;refine dN (S:=fun W=>Fr (fun k=>(Value.slice Aq n cq).ownBlock=some k) w W) 9 (by kernel_rfl) ((Fr.refl _ _).drew) (fun hH=>?_);refine dK ?_;intro wa bP;have hX:Fr (fun k=>(Value.slice Aq n cq).ownBlock=some k) w wa:=by rw[bP];exact(Fr.refl _ _).drew
  have HO:wa.ownsRow base 69 4 (.slice Aq n cq) n xs:=by rw[bP];exact mY lY.out
  have Tx:=aA (HS.out.keep (w':=wa) (D':=fun k=>k<w.heap.size) (fun b o hd=>by rw[bP];rfl) (fun k hk=>hk));replace hH:=hX;clear bP;refine Jt 0 (v:=?_) rfl (by kernel_rfl) (fun _ _ _ h=>h) (by rfl) ?hy hH ?_
  case hy=>(intro bW aN;have t:=(aN.blk HF.out (by intro e;have:=Tt.out _ e;omega)).cell;clear aN;go_simp;try with_reducible rfl)
  (try simp only[PU,aD])
  refine Jt 1 (v:=?_) rfl (by kernel_rfl) (fun _ _ _ h=>h) (by rfl) ?hy hH ?_
  case hy=>(intro bW aN;clear aN;go_simp;try with_reducible rfl)
  (try simp only[PU,aD])
  refine Jt 2 (v:=?_) rfl (by kernel_rfl) (fun _ _ _ h=>h) (by rfl) ?hy hH ?_
  case hy=>(intro bW aN;clear aN;go_simp;try with_reducible rfl)
  (try simp only[PU,aD])
  refine Jt 4 (v:=?_) rfl (by kernel_rfl) (fun _ _ _ h=>h) (by rfl) ?hy hH ?_
  case hy=>(intro bW aN;clear aN;go_simp;try with_reducible rfl)
  (try simp only[PU,aD])
  refine Jt 5 (v:=?_) rfl (by kernel_rfl) (fun _ _ _ h=>h) (by rfl) ?hy hH ?_
  case hy=>(intro bW aN;clear aN;go_simp;try with_reducible rfl)
  (try simp only[PU,aD])
  refine bQ (i:=3) rfl (by kernel_rfl) (fun K hK=>?_);go_simp;refine(eR Tx.out (by omega)).mono ?_;rintro en wb ⟨vc,rfl,bB,aR⟩;replace hX:=hX.next aR;replace hH:=hX;replace HO:=aZ HO aR (aH _);obtain⟨Ag,Ea,rfl⟩:=aI bB;clear bB aR;refine hK.out _ _ hH (fun _=>?_);clear hK;(try simp only[PU,aD])
  refine Jt 6 (v:=?_) rfl (by kernel_rfl) (fun _ _ _ h=>h) (by rfl) ?hy hH ?_
  case hy=>(intro bW aN;clear aN;go_simp;try with_reducible rfl)
  (try simp only[PU,aD])
  refine bQ (i:=7) rfl (by kernel_rfl) (fun K hK=>?_);go_simp;replace hH:=hX.alloc (.cells #[.int .i64 pr,.slice Ag l.length Ea,.int .i64 err,.string nm] 69);refine hK.out _ _ hH (fun _=>?_);clear hK;(try simp only[PU,aD])
  refine dK ?_;intro wc bS;have aR:Below wb.heap.size wb wc:=by rw[bS];exact(aM _ _).alloc (aH _) _
  have pX:Blk wc wb.heap.size 69 #[.int .i64 pr,.slice Ag l.length Ea,.int .i64 err,.string nm]:=by rw[bS];exact Blk.new _ _ _
  replace HO:=aZ HO aR (aH _);replace hX:=hX.next aR;replace hH:=hX;clear bS aR;refine bQ (i:=8) rfl (by kernel_rfl) (fun K hK=>?_);rw[if_pos (by rfl)];refine oE (.tmp 11) (.tmp 18) 49 rfl base 69 i4 _ 4 56 Tryz.underlying49 HI.out HZ.out Dd.out jY.out rfl (by decide) (.slice Aq n cq) n xs (by simp[Act.eval]) HO (by simp[Act.eval]) (tT pX) (by intro u hu;simp at hu;rcases hu with rfl|rfl|rfl|rfl<;>rfl) (by unfold maxLen;omega) (by omega) (by have:=hX.size;omega) ?_;intro v_2 wd bB eH nS;have VP:=hX.size;replace hX:Fr (fun k=>(Value.slice Aq n cq).ownBlock=some k) w wd:=hX.trans (Fr.ofGrownN eH);replace hH:=hX;obtain⟨iS,iT,rfl⟩:=aI bB;have tY:=aA nS;have HXB:=aA VP;clear eH nS VP;refine hK.out _ _ hH (fun _=>?_);clear hK;(try simp only[PU,aD])
  refine fK (l:=9) rfl (by kernel_rfl) (by kernel_rfl) (fun K hK=>?_);have IG:wd.frozen? ⟨bf,0,none⟩=false:=(hX.blk HF.out (by intro e;have:=Tt.out _ e;omega)).frozen 0;have C_f:wd.cell? ⟨bf,0,none⟩=some (.slice Aq n cq):=(hX.blk HF.out (by intro e;have:=Tt.out _ e;omega)).cell 0;go_simp;refine hK.out _ _ ?_;clear hK;(try simp only[PU,aD])
  have Cm:=aA bB;have F7:=aA hX;clear bB hX hH;go_wp2_with fail;refine bodyPost_end (results_none rfl _ _ _) rfl ?_;refine⟨rfl,.inr ⟨YD.out,.slice iS (n+1) iT,⟨?_,xs++ [.int .i64 pr,.slice Ag l.length Ea,.int .i64 err,.string nm],?_,?_⟩,⟨?_,?_⟩⟩⟩
  ·simpa using(F7.out.blk HF.out (by intro e;have:=Tt.out _ e;omega)).set_ 0 (.slice iS (n+1) iT)
  ·exact R4 Cm.out f8
  ·intro u hu
   rcases List.mem_append.1 hu with hu|hu
   ·exact Nl.out u hu
   ·simp at hu;rcases hu with rfl|rfl|rfl|rfl<;>rfl
  ·exact Fr.set (F7.out.mono (fun k hk=>.inr hk)) (.inl rfl) _
  ·exact tY.out.imp id (fun e k hk=>by rw[hk]at e;have e:=Option.some.inj e;have:=HXB.out;omega)
def bZ(x:Int):Ending:=.panicked [{v:=.iface 131 (.agg #[.int .i64 x]),recovered:=false}]
theorem Y4(x:Int)(hx:x≠0)(w:World):Calls Tryz.prog 129 #[.int .i64 x] w fun e w'=>e=bZ x∧w'=w:=by
 have h0:(x==0)=false:=by simpa using hx
 unfold bZ;go_enter Tryz.func129,Tryz.ntmps129;go_wp2_with fail;exact⟨rfl,rfl,rfl⟩
structure Rn where
 V:Value
 Q:Value
 m:Nd
 st:Nat
 ent:Value
 X:Nat->Prop
def Rn.cells(R:Rn)(steps fuel:Int):Array Value:=#[R.V,R.Q,.int .u8 R.m.k,.int .i64 R.m.num,.string R.m.nm,.slice R.m.A R.m.n R.m.cap,.pointer (some ⟨R.st,0,none⟩),.int .i64 steps,.int .i64 fuel,R.ent]
theorem kI(p:Value)(w:World):Calls Tryz.prog 104 #[p,.int .i64 0] w fun e w'=>e=.returned (.tuple #[])∧w'=w:=by
 go_enter Tryz.func104,Tryz.ntmps104;go_wp2_with fail;refine bodyPost_end (results_none rfl _ _ _) rfl ?_;exact⟨rfl,rfl⟩
theorem kJ(p:Value)(x:Int)(hx:x≠0)(w:World):Calls Tryz.prog 104 #[p,.int .i64 x] w fun e w'=>e=bZ x∧w'=w:=by
 have h0:(x !=0)=true:=by simpa using hx
 have HF:=aA (Y4 x hx w);unfold bZ at *;go_enter Tryz.func104,Tryz.ntmps104;go_wp2_with fail;refine HF.out.mono ?_;rintro e w1 ⟨rfl,rfl⟩;go_wp2_with fail;exact⟨rfl,rfl,rfl⟩
theorem Eh{w:World}{r:Nat}{R:Rn}{s f:Int}(h:Blk w r 86 (R.cells s f))(hs:s<f)(h0:0<=s)(hf:f<=17592186043904):Calls Tryz.prog 103 #[.pointer (some ⟨r,0,none⟩)] w fun e w'=>e=.returned (.tuple #[])∧Blk w' r 86 (R.cells (s+1) f)∧Fr (fun k=>k=r) w w':=by
 have HK:=aA h;obtain⟨z_,T_,F_⟩:=h.open_;unfold Rn.cells at *;have mS:decide (f<=s)=false:=by simp;omega
 go_enter Tryz.func103,Tryz.ntmps103;go_wp2_with fail;go_region;go_wp2_with fail;refine bodyPost_end (results_none rfl _ _ _) rfl ?_;refine⟨rfl,?_,((Fr.refl _ _).set (by rfl) _).drew⟩;simpa using(HK.out.set_ 7 (.int .i64 (s+1))).drew
theorem TT{w:World}{r:Nat}{R:Rn}{s f:Int}(h:Blk w r 86 (R.cells s f))(hs:f<=s):Calls Tryz.prog 103 #[.pointer (some ⟨r,0,none⟩)] w fun e w'=>e=bZ 18∧Below w.heap.size w w':=by
 have HF:=aA (fun w=>Y4 18 (by decide) w);obtain⟨z_,T_,F_⟩:=h.open_;unfold Rn.cells at *;unfold bZ at *;have mS:decide (f<=s)=true:=by simp;omega
 go_enter Tryz.func103,Tryz.ntmps103;go_wp2_with fail;go_region;go_wp2_with fail;refine(HF.out _).mono ?_;rintro e w1 ⟨rfl,rfl⟩;go_wp2_with fail;exact⟨rfl,rfl,by go_grown⟩
end Go.Proofs.YtakfdnnlhjhcfaaGreatDoor
namespace Bk
open Go Go.RowKit
inductive KG where
 |none|store|tape|tin|tout|calls
 |cell (i:Nat)|items (i:Nat)|vars (d:Nat)|refs (d:Nat)
deriving DecidableEq
structure Sv where
 st:Nat
 tb:Nat
 bv:Value
 bc:Value
 cv:Value
 vi:Value
 vo:Value
 fv:List (Value×Value)
 cb:Nat->Nat
 iv:Nat->Value
 ro:Nat->KG
def Sv.has(S:Sv)(v:Value)(r:KG):Prop:=∀k,v.ownBlock=some k->S.ro k=r
def Sv.ptrs(S:Sv)(l:List Nat):List Value:=l.map fun i=>.pointer (some ⟨S.cb i,0,none⟩)
def eU:List (Value×Value)->List PFr->List Value
 |x::xs,f::fs=>x.1::x.2:: .int .i64 f.locals::eU xs fs
 |_,_=> []
theorem yF:∀{xs:List (Value×Value)}{fs:List PFr}{i:Nat}{x:Value×Value}{f:PFr},xs[i]?=some x->fs[i]?=some f->(eU xs fs)[i*3]?=some x.1∧(eU xs fs)[i*3+1]?=some x.2∧(eU xs fs)[i*3+2]?=some (.int .i64 f.locals)
 | [],_,i,_,_,h,_=>by simp at h
 |_::_,[],i,_,_,_,h=>by simp at h
 |y::xs,g::fs,0,x,f,h1,h2=>by simp at h1 h2;subst h1;subst h2;exact⟨rfl,rfl,rfl⟩
 |y::xs,g::fs,i+1,x,f,h1,h2=>by
  have:=yF (xs:=xs) (fs:=fs) (i:=i) (by simpa using h1) (by simpa using h2);rw[show(i+1)*3=i*3+1+1+1 by omega];simpa[eU]using this
def Sv.Ext(S S':Sv)(w:World):Prop:=S'.st=S.st∧∀k,k<w.heap.size->S'.ro k=S.ro k
def Sv.O(S:Sv):Nat->Prop:=fun k=>S.ro k≠ .none
theorem Sv.Ext.refl(S:Sv)(w:World):S.Ext S w:=⟨rfl,fun _ _=>rfl⟩
theorem Sv.Ext.trans{S S' S'':Sv}{w w':World}(h:S.Ext S' w)(h':S'.Ext S'' w')(hs:w.heap.size<=w'.heap.size):S.Ext S'' w:=
 ⟨h'.1.trans h.1,fun k hk=>(h'.2 k (dX hk hs)).trans (h.2 k hk)⟩
theorem Sv.Ext.fr{S S':Sv}{w w' w'':World}(h:S.Ext S' w)(h1:Fr S.O w w')(h2:Fr S'.O w' w''):Fr S.O w w'':=
 ⟨h2.os.trans h1.os,h2.tape.trans h1.tape,h2.output.trans h1.output,fC h1.size h2.size,fun k hk ho=>(h2.block k (dX hk h1.size) (fun hn=>ho (by unfold Sv.O at *;rwa [h.2 k hk]at hn))).trans (h1.block k hk ho)⟩
theorem Sv.has_ext{S S':Sv}{w:World}{v:Value}{r:KG}(h:S.has v r)(hl:∀k,v.ownBlock=some k->k<w.heap.size)(hr:∀k,k<w.heap.size->S'.ro k=S.ro k):S'.has v r:=fun k hk=>(hr k (hl k hk)).trans (h k hk)
end Bk
namespace Go.Proofs.YtakfdnnlhjhcfaaGreatDoor
open Go.RowKit Bk
structure FrAt(w:World)(B:Nat)(S:Sv)(d:Nat)(v c:Value)(f:PFr):Prop where
 vars:w.ownsRow B 72 3 v f.vars.length (aU f.vars)
 refs:w.ownsRow B 125 1 c f.idx.length (S.ptrs f.idx)
 rv:S.has v (.vars d)
 rc:S.has c (.refs d)
structure CellAt(w:World)(B:Nat)(S:Sv)(i:Nat)(l:List Int):Prop where
 blk:Blk w (S.cb i) 127 #[S.iv i]
 own:w.ownsRow B 3 1 (S.iv i) l.length (aC l)
 rb:S.ro (S.cb i)=.cell i
 ri:S.has (S.iv i) (.items i)
structure SOn(w:World)(B:Nat)(S:Sv)(σ:PSt):Prop where
 top:Blk w S.st 123 #[S.bv,S.bc,.int .i64 σ.base.locals,S.cv,.pointer (some ⟨S.tb,0,none⟩)]
 base:FrAt w B S 0 S.bv S.bc σ.base
 calls:w.ownsRow B 120 3 S.cv σ.calls.length (eU S.fv σ.calls)
 flen:S.fv.length=σ.calls.length
 frames:∀(i:Nat)(x:Value×Value)(f:PFr),S.fv[i]?=some x->σ.calls[i]?=some f->FrAt w B S (i+1) x.1 x.2 f
 tape:Blk w S.tb 156 #[S.vi,S.vo]
 inp:w.ownsRow B 3 1 S.vi σ.inp.length (aC σ.inp)
 out:w.ownsRow B 3 1 S.vo σ.out.length (aC σ.out)
 cells:∀(i:Nat)(l:List Int),σ.cells[i]?=some l->CellAt w B S i l
 rst:S.ro S.st=.store
 rtb:S.ro S.tb=.tape
 rcv:S.has S.cv .calls
 rvi:S.has S.vi .tin
 rvo:S.has S.vo .tout
 new:∀k,S.ro k≠ .none->B<=k∧k<w.heap.size
theorem bL{O:Nat->Prop}{w w':World}{base:Nat}{e:TypeId}{size n:Nat}{v:Value}{xs:List Value}(h:w.ownsRow base e size v n xs)(hf:Fr O w w')(ho:∀k,v.ownBlock=some k->¬O k):w'.ownsRow base e size v n xs:=
 iQ h fun g hg hv=>hf.block g hg (ho g hv)
theorem bT{w:World}{base:Nat}{e:TypeId}{size n:Nat}{v:Value}{xs:List Value}(h:w.ownsRow base e size v n xs){k:Nat}(hk:v.ownBlock=some k):k<w.heap.size:=(bH h hk).2
theorem FrAt.keep{O:Nat->Prop}{w w':World}{B:Nat}{S S':Sv}{d:Nat}{v c:Value}{f:PFr}(h:FrAt w B S d v c f)(hf:Fr O w w')(ho:∀k,k<w.heap.size->S.ro k=.vars d∨S.ro k=.refs d->¬O k)(hr:∀k,k<w.heap.size->S'.ro k=S.ro k)(hc:∀i,i∈f.idx->S'.cb i=S.cb i):FrAt w' B S' d v c f:=by
 refine⟨bL h.vars hf fun k hk=>ho k (bT h.vars hk) (.inl (h.rv k hk)),?_,fun k hk=>(hr k (bT h.vars hk)).trans (h.rv k hk),fun k hk=>(hr k (bT h.refs hk)).trans (h.rc k hk)⟩;have he:S'.ptrs f.idx=S.ptrs f.idx:=by unfold Sv.ptrs;exact List.map_congr_left fun i hi=>by rw[hc i hi]
 rw[he];exact bL h.refs hf fun k hk=>ho k (bT h.refs hk) (.inr (h.rc k hk))
theorem CellAt.keep{O:Nat->Prop}{w w':World}{B:Nat}{S S':Sv}{i:Nat}{l:List Int}(h:CellAt w B S i l)(hf:Fr O w w')(ho:∀k,k<w.heap.size->S.ro k=.cell i∨S.ro k=.items i->¬O k)(hr:∀k,k<w.heap.size->S'.ro k=S.ro k)(hc:S'.cb i=S.cb i)(hi:S'.iv i=S.iv i):CellAt w' B S' i l:=by
 have eI:=h.blk.lt;refine⟨by rw[hc,hi];exact hf.blk h.blk (ho _ eI (.inl h.rb)),by rw[hi];exact bL h.own hf fun k hk=>ho k (bT h.own hk) (.inr (h.ri k hk)),by rw[hc,hr _ eI];exact h.rb,?_⟩;rw[hi];exact fun k hk=>(hr k (bT h.own hk)).trans (h.ri k hk)
section
variable{w w':World}{B:Nat}{S:Sv}{σ:PSt}
theorem SOn.lt_st(h:SOn w B S σ):S.st<w.heap.size:=h.top.lt
theorem SOn.other(h:SOn w B S σ){O:Nat->Prop}(hf:Fr O w w')(hO:∀k,k<w.heap.size->O k->S.ro k=.none):SOn w' B S σ:=by
 have nO:∀k r,k<w.heap.size->S.ro k=r->r≠ .none->¬O k:=fun k r hk hr hn ho=>hn (by rw[<-hr];exact hO k hk ho)
 refine⟨hf.blk h.top (nO _ _ h.top.lt h.rst (by simp)),h.base.keep hf (fun k hk hr ho=>?_) (fun _ _=>rfl) (fun _ _=>rfl),bL h.calls hf fun k hk=>nO k _ (bT h.calls hk) (h.rcv k hk) (by simp),h.flen,fun i x f h1 h2=>(h.frames i x f h1 h2).keep hf (fun k hk hr ho=>?_) (fun _ _=>rfl) (fun _ _=>rfl),hf.blk h.tape (nO _ _ h.tape.lt h.rtb (by simp)),bL h.inp hf fun k hk=>nO k _ (bT h.inp hk) (h.rvi k hk) (by simp),bL h.out hf fun k hk=>nO k _ (bT h.out hk) (h.rvo k hk) (by simp),fun i l hl=>(h.cells i l hl).keep hf (fun k hk hr ho=>?_) (fun _ _=>rfl) rfl rfl,h.rst,h.rtb,h.rcv,h.rvi,h.rvo,fun k hk=>⟨(h.new k hk).1,dX (h.new k hk).2 hf.size⟩⟩
 ·rcases hr with hr|hr<;>exact nO k _ hk hr (by simp) ho
 ·rcases hr with hr|hr<;>exact nO k _ hk hr (by simp) ho
 ·rcases hr with hr|hr<;>exact nO k _ hk hr (by simp) ho
theorem SOn.next(h:SOn w B S σ)(hb:Below w.heap.size w w'):SOn w' B S σ:=h.other (O:=fun _=>False) (Fr.of hb |>.mono (fun _ h=>h)) (fun _ _ h=>h.elim)
theorem SOn.cellTo(h:SOn w B S σ){i:Nat}{l l':List Int}(hi:σ.cells[i]?=some l)(hf:Fr (fun k=>S.ro k=.cell i∨S.ro k=.items i) w w'){v':Value}(hb:Blk w' (S.cb i) 127 #[v'])(ho:w'.ownsRow B 3 1 v' l'.length (aC l'))(hv:∀k,v'.ownBlock=some k->S.ro k=.items i∨w.heap.size<=k):
  ∃S',SOn w' B S' {σ with cells:=σ.cells.set i l'}∧S.Ext S' w∧(S'.cb=S.cb∧S'.tb=S.tb)∧S'.iv i=v'∧∀j,j≠i->S'.iv j=S.iv j:=by
 let S':Sv:={S with iv:=fun j=>if j=i then v' else S.iv j,ro:=fun k=>if v'.ownBlock=some k∧w.heap.size<=k then .items i else S.ro k};have hr:∀k,k<w.heap.size->S'.ro k=S.ro k:=fun k hk=>if_neg (by omega)
 have nO:∀k r,S.ro k=r->r≠ .cell i->r≠ .items i->¬(S.ro k=.cell i∨S.ro k=.items i):=fun k r h1 h2 h3 h4=>by rw[h1]at h4;exact h4.elim h2 h3
 refine⟨S',⟨hf.blk h.top (nO _ _ h.rst (by simp) (by simp)),h.base.keep hf (fun k hk hr=>?_) hr (fun _ _=>rfl),bL h.calls hf fun k hk=>nO k _ (h.rcv k hk) (by simp) (by simp),h.flen,fun j x f h1 h2=>(h.frames j x f h1 h2).keep hf (fun k hk hr=>?_) hr (fun _ _=>rfl),hf.blk h.tape (nO _ _ h.rtb (by simp) (by simp)),bL h.inp hf fun k hk=>nO k _ (h.rvi k hk) (by simp) (by simp),bL h.out hf fun k hk=>nO k _ (h.rvo k hk) (by simp) (by simp),fun j m hj=>?_,(hr _ h.top.lt).trans h.rst,(hr _ h.tape.lt).trans h.rtb,Sv.has_ext h.rcv (fun k hk=>bT h.calls hk) hr,Sv.has_ext h.rvi (fun k hk=>bT h.inp hk) hr,Sv.has_ext h.rvo (fun k hk=>bT h.out hk) hr,fun k hk=>?_⟩,⟨rfl,hr⟩,⟨rfl,rfl⟩,if_pos rfl,fun j hj=>if_neg hj⟩
 ·rcases hr with hr|hr<;>exact nO k _ hr (by simp) (by simp)
 ·rcases hr with hr|hr<;>exact nO k _ hr (by simp) (by simp)
 ·by_cases U8:j=i
  ·subst U8
   rw[List.getElem?_set_self (lgS.1 hi).1]at hj;injection hj with hj;subst hj;have h0:=(h.cells j l hi);refine⟨by show Blk w' (S.cb j) _ #[if j=j then v' else _];rw[if_pos rfl];exact hb,by show w'.ownsRow B _ 1 (if j=j then v' else _) _ _;rw[if_pos rfl];exact ho,(hr _ h0.blk.lt).trans h0.rb,?_⟩;show S'.has (if j=j then v' else _) _;rw[if_pos rfl];intro k hk;show(if v'.ownBlock=some k∧w.heap.size<=k then KG.items j else S.ro k)=.items j;by_cases hc:v'.ownBlock=some k∧w.heap.size<=k
   ·rw[if_pos hc]
   ·rw[if_neg hc];exact(hv k hk).resolve_right fun h=>hc ⟨hk,h⟩
  ·rw[List.getElem?_set_ne (fun e=>U8 e.symm)]at hj
   refine(h.cells j m hj).keep hf (fun k hk hr=>?_) hr rfl (if_neg U8);rcases hr with hr|hr<;>exact nO k _ hr (by simp[U8]) (by simp[U8])
 ·change (if v'.ownBlock=some k∧w.heap.size<=k then KG.items i else S.ro k)≠ .none at hk
  by_cases hc:v'.ownBlock=some k∧w.heap.size<=k
  ·exact bH ho hc.1
  ·rw[if_neg hc]at hk;exact⟨(h.new k hk).1,dX (h.new k hk).2 hf.size⟩
theorem SOn.tapeTo(h:SOn w B S σ){a b:List Int}(hf:Fr (fun k=>S.ro k=.tape∨S.ro k=.tin∨S.ro k=.tout) w w'){vi vo:Value}(hb:Blk w' S.tb 156 #[vi,vo])(hi:w'.ownsRow B 3 1 vi a.length (aC a))(ho:w'.ownsRow B 3 1 vo b.length (aC b))
  (hvi:∀k,vi.ownBlock=some k->S.ro k=.tin∨w.heap.size<=k) (ZR:∀k,vo.ownBlock=some k->S.ro k=.tout∨w.heap.size<=k) (dG:∀k,vi.ownBlock=some k->vo.ownBlock=some k->False):
  ∃S',SOn w' B S' {σ with inp:=a,out:=b}∧S.Ext S' w∧(S'.cb=S.cb∧S'.tb=S.tb)∧S'.iv=S.iv:=by
 let S':Sv:={S with vi:=vi,vo:=vo,ro:=fun k=>if w.heap.size<=k∧vi.ownBlock=some k then .tin else if w.heap.size<=k∧vo.ownBlock=some k then .tout else S.ro k};have hr:∀k,k<w.heap.size->S'.ro k=S.ro k:=fun k hk=>by show(if _ then _ else if _ then _ else _)=_;rw[if_neg (by omega),if_neg (by omega)]
 have nO:∀k r,S.ro k=r->r≠ .tape->r≠ .tin->r≠ .tout->¬(S.ro k=.tape∨S.ro k=.tin∨S.ro k=.tout):=fun k r h1 h2 h3 h4 h5=>by rw[h1]at h5;rcases h5 with h5|h5|h5;exact h2 h5;exact h3 h5;exact h4 h5
 refine⟨S',⟨hf.blk h.top (nO _ _ h.rst (by simp) (by simp) (by simp)),h.base.keep hf (fun k hk hr=>?_) hr (fun _ _=>rfl),bL h.calls hf fun k hk=>nO k _ (h.rcv k hk) (by simp) (by simp) (by simp),h.flen,fun j x f h1 h2=>(h.frames j x f h1 h2).keep hf (fun k hk hr=>?_) hr (fun _ _=>rfl),hb,hi,ho,fun j m hj=>(h.cells j m hj).keep hf (fun k hk hr=>?_) hr rfl rfl,(hr _ h.top.lt).trans h.rst,(hr _ h.tape.lt).trans h.rtb,Sv.has_ext h.rcv (fun k hk=>bT h.calls hk) hr,fun k hk=>?_,fun k hk=>?_,fun k hk=>?_⟩,⟨rfl,hr⟩,⟨rfl,rfl⟩,rfl⟩
 ·rcases hr with hr|hr<;>exact nO k _ hr (by simp) (by simp) (by simp)
 ·rcases hr with hr|hr<;>exact nO k _ hr (by simp) (by simp) (by simp)
 ·rcases hr with hr|hr<;>exact nO k _ hr (by simp) (by simp) (by simp)
 ·show(if w.heap.size<=k∧vi.ownBlock=some k then KG.tin else if w.heap.size<=k∧vo.ownBlock=some k then .tout else S.ro k)=.tin
  rcases hvi k hk with h1|h1
  ·by_cases yN:w.heap.size<=k
   ·rw[if_pos ⟨yN,hk⟩]
   ·rw[if_neg (by omega),if_neg (by omega)];exact h1
  ·rw[if_pos ⟨h1,hk⟩]
 ·show(if w.heap.size<=k∧vi.ownBlock=some k then KG.tin else if w.heap.size<=k∧vo.ownBlock=some k then .tout else S.ro k)=.tout
  rw[if_neg (fun h=>dG k h.2 hk)];rcases ZR k hk with h1|h1
  ·by_cases yN:w.heap.size<=k
   ·rw[if_pos ⟨yN,hk⟩]
   ·rw[if_neg (by omega)];exact h1
  ·rw[if_pos ⟨h1,hk⟩]
 ·change (if w.heap.size<=k∧vi.ownBlock=some k then KG.tin else if w.heap.size<=k∧vo.ownBlock=some k then .tout else S.ro k)≠ .none at hk
  by_cases h1:w.heap.size<=k∧vi.ownBlock=some k
  ·exact bH hi h1.2
  ·rw[if_neg h1]at hk
   by_cases h2:w.heap.size<=k∧vo.ownBlock=some k
   ·exact bH ho h2.2
   ·rw[if_neg h2]at hk
    exact⟨(h.new k hk).1,dX (h.new k hk).2 hf.size⟩
end
end Go.Proofs.YtakfdnnlhjhcfaaGreatDoor
