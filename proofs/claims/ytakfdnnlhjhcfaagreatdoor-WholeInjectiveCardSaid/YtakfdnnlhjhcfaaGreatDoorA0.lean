/- Part of the proof. -/
import Derived.WalkKit
import Derived.WalkSpells
import Derived.WalkLawsBesides
import Derived.Lib.Hide
import Derived.Handy
import Derived.Deep.QuietTactic
import Derived.BigQuiet
import Derived.StillTailTactics
import Derived.Deep.DeepCutAuto
import Derived.Deep.RegionWith
import Derived.Deep.RegionHeld3
import Derived.Deep.OwnRows
import Derived.WalkSmall
import Derived.Laws.MakeOwn
import Derived.Deep.AppendLies
import Derived.Maps.AppendAt
import Derived.RowKit
import Derived.Laws.Entries
import Derived.OwnWalk
import Derived.MapKept
import Derived.Carry
import Derived.Great.Walk
set_option linter.unusedVariables false
set_option linter.unusedSimpArgs false
theorem aA{p:Prop}(h:p):Go.RowKit.Hid p:=h
theorem aH(n:Nat):n<=n:=Nat.le_refl n
theorem aM(B:Nat)(w:Go.World):Go.RowKit.Below B w w:=Go.RowKit.Below.refl B w
theorem dR{α:Type _}{l:List α}{i:Nat}(h:i<l.length):l[i]?=some l[i]:=List.getElem?_eq_getElem h
theorem lgS{α:Type _}{l:List α}{i:Nat}{a:α}:l[i]?=some a↔∃h:i<l.length,l[i]=a:=List.getElem?_eq_some_iff
theorem eX{α:Type _}{l:List α}{i:Nat}{a:α}:l.getD i a=l[i]?.getD a:=List.getD_eq_getElem?_getD
theorem dX{n m k:Nat}(h:n<m)(h':m<=k):n<k:=Nat.lt_of_lt_of_le h h'
theorem bqN{α:Type _} [BEq α] [LawfulBEq α]{a b:α}:(a==b)=false↔a≠b:=beq_eq_false_iff_ne
theorem fC{n m k:Nat}(h:n<=m)(h':m<=k):n<=k:=Nat.le_trans h h'
theorem fI(n:Nat):0<=n:=Nat.zero_le n
namespace Bk
open Go Go.RowKit
theorem qR{a b:Bool}(h:a=b):Ending.returned (.bool a)=.returned (.bool b):=by rw[h]
theorem kA{P:Program}(t e:TypeId)(i:TypeInfo)(z:Value)(ht:P.underlying t=some (.slice e))(hi:P.info? e=some i)(hz:i.zero=some z)
  (kl kc:IntKind) (n c:Nat) (hnc:n<=c) (iI:i.bytes*c<=281474976710656) (IX:c<=9223372036854775807) (w:World):
  (Instr.makeSlice t (.int kl (n:Int)) (.int kc (c:Int))).run P w=.ok (.slice (some ⟨w.heap.size,0,none⟩) n c) (w.alloc (.cells (madeCells z.cells (c*i.size)) e)):=by
 have hb:(i.bytes:Int)*(c:Int)<=281474976710656:=by
  have h:((i.bytes*c:Nat):Int)<=281474976710656:=by omega
  rwa [Int.natCast_mul]at h
 have hr:=run_make (P:=P) w t e i z ht hi hz kl kc n c (by omega) (by omega) hb (by omega);simp only[Int.toNat_natCast]at hr;exact hr
theorem d6{w:World}{base:Nat}{e:TypeId}{size n:Nat}{v:Value}{xs:List Value}(h:w.ownsRow base e size v n xs)(hn:0<n):
  ∃g cap,v=.slice (some ⟨g,0,none⟩) n cap∧base<=g∧g<w.heap.size∧n<=cap∧cap<=maxLen∧∀j u,xs[j]?=some u->w.cell? ⟨g,j,none⟩=some u:=by
 obtain⟨hl,h2⟩:=h;rcases h2 with⟨rfl,h0⟩|⟨g,cap,cur,rfl,hg,hh,hnc,f9,l6,Rz⟩
 ·omega
 ·refine⟨g,cap,rfl,hg,?_,hnc,f9,fun j u hu=>?_⟩
  ·rcases Nat.lt_or_ge g w.heap.size with eI|mS
   ·exact eI
   ·rw[Array.getElem?_eq_none mS]at hh;cases hh
  ·rw[<-Rz,List.getElem?_take]at hu
   split at hu
   ·simp only[World.cell?,hh]
    simpa using hu
   ·cases hu
theorem iQ{w w':World}{base:Nat}{e:TypeId}{size n:Nat}{v:Value}{xs:List Value}(h:w.ownsRow base e size v n xs)
  (hb:∀g,g<w.heap.size->v.ownBlock=some g->w'.heap[g]?=w.heap[g]?):w'.ownsRow base e size v n xs:=by
 refine⟨h.1,?_⟩;rcases h.2 with h0|⟨g,cap,cur,rfl,hg,hh,r⟩
 ·exact .inl h0
 ·refine .inr ⟨g,cap,cur,rfl,hg,?_,r⟩
  rw[hb g ?_ rfl]
  ·exact hh
  ·rcases Nat.lt_or_ge g w.heap.size with eI|mS
   ·exact eI
   ·rw[Array.getElem?_eq_none mS]at hh;cases hh
theorem aZ{w w':World}{base B:Nat}{e:TypeId}{size n:Nat}{v:Value}{xs:List Value}(h:w.ownsRow base e size v n xs)(hb:Below B w w')(hB:w.heap.size<=B):w'.ownsRow base e size v n xs:=
 iQ h fun g hg _=>hb.block g (by omega)
theorem R4{w:World}{base b o:Nat}{u:Value}{e:TypeId}{size n:Nat}{v:Value}{xs:List Value}(h:w.ownsRow base e size v n xs)(hb:b<base):(w.setCell ⟨b,o,none⟩ u).ownsRow base e size v n xs:=
 ownsRow_setCell_below h hb u
theorem mY{w:World}{base:Nat}{e:TypeId}{size n:Nat}{v:Value}{xs:List Value}(h:w.ownsRow base e size v n xs):w.drew.ownsRow base e size v n xs:=h
def Blk(w:World)(g:Nat)(t:TypeId)(cs:Array Value):Prop:=w.heap[g]?=some (.cells cs t (0,0))
section
variable{w w':World}{g:Nat}{t:TypeId}{cs:Array Value}
theorem Blk.lt(h:Blk w g t cs):g<w.heap.size:=by
 rcases Nat.lt_or_ge g w.heap.size with eI|mS
 ·exact eI
 ·unfold Blk at h;rw[Array.getElem?_eq_none mS]at h;cases h
theorem Blk.cell(h:Blk w g t cs)(i:Nat):w.cell? ⟨g,i,none⟩=cs[i]?:=cell_of_row w g i cs t (0,0) h
theorem Blk.frozen(h:Blk w g t cs)(i:Nat):w.frozen? ⟨g,i,none⟩=false:=by
 unfold Blk at h;simp[World.frozen?,h]
theorem Blk.new(w:World)(t:TypeId)(cs:Array Value):Blk (w.alloc (.cells cs t)) w.heap.size t cs:=heap_alloc_new w _
theorem Blk.new'{w:World}{g:Nat}(hg:g=w.heap.size)(t:TypeId)(cs:Array Value):Blk (w.alloc (.cells cs t)) g t cs:=by subst hg;exact heap_alloc_new w _
theorem Blk.drew(h:Blk w g t cs):Blk w.drew g t cs:=h
theorem Blk.drewN(h:Blk w g t cs)(n:Nat):Blk (w.drewN n) g t cs:=h
theorem Blk.alloc(h:Blk w g t cs)(o:Obj):Blk (w.alloc o) g t cs:=(Below.heap_alloc w o g h.lt).trans h
theorem Blk.set_(h:Blk w g t cs)(i:Nat)(u:Value):Blk (w.setCell ⟨g,i,none⟩ u) g t (cs.setIfInBounds i u):=by
 unfold Blk at h⊢;simp[World.setCell,Array.getElem?_modify,h]
theorem Blk.far(h:Blk w g t cs){p:Addr}(hp:g≠p.block)(u:Value):Blk (w.setCell p u) g t cs:=(Below.heap_setCell w p u g hp).trans h
theorem Blk.below{B:Nat}(h:Blk w g t cs)(hb:Below B w w')(hg:g<B):Blk w' g t cs:=(hb.block g hg).trans h
theorem Blk.next(h:Blk w g t cs)(hb:Below w.heap.size w w'):Blk w' g t cs:=h.below hb h.lt
theorem Blk.grown{row:Option Nat}(h:Blk w g t cs)(hb:w.grownBy w' row)(hg:some g≠row):Blk w' g t cs:=(hb.block g h.lt hg).trans h
theorem aQ{P:Prop}(h:P:=by repeat' (first|assumption|exact Blk.new' (by simp) _ _|apply Blk.alloc|apply Blk.drew)):P:=h
theorem Blk.open_(h:Blk w g t cs):g<w.heap.size∧(∀i,w.cell? ⟨g,i,none⟩=cs[i]?)∧(∀i,w.frozen? ⟨g,i,none⟩=false):=⟨h.lt,h.cell,h.frozen⟩
end
theorem aI{w:World}{base:Nat}{e:TypeId}{size n:Nat}{v:Value}{xs:List Value}(h:w.ownsRow base e size v n xs):∃A cap,v=.slice A n cap:=by
 rcases h.2 with⟨rfl,rfl⟩|⟨g,cap,cur,rfl,_⟩
 ·exact⟨_,_,rfl⟩
 ·exact⟨_,_,rfl⟩
theorem FO(w:World)(cs:Array Value)(t:TypeId):∀j u,cs.toList[j]?=some u->(w.alloc (.cells cs t)).cell? ((⟨w.heap.size,0,none⟩:Addr).add j)=some u:=by
 intro j u hj;have h:=(Blk.new w t cs).cell j;have e:((⟨w.heap.size,0,none⟩:Addr).add j)=⟨w.heap.size,j,none⟩:=by
  unfold Addr.add;split
  ·subst_vars;rfl
  ·simp
 rw[e,h];simpa using hj
theorem drewN_{B:Nat}{a w:World}(h:Below B a w)(n:Nat):Below B a (w.drewN n):=⟨h.os,h.tape,h.output,h.size,h.block⟩
theorem aD:(∀(a:Act)(d:Tmp)(v:Value),Act.put a (some d) v={a with tmps:=a.tmps.setIfInBounds d v})∧∀(a:Act)(v:Value),Act.put a none v=a:=⟨fun _ _ _=>rfl,fun _ _=>rfl⟩
theorem PU{α:Type}:(∀(l:List α)(i:Nat)(h:i<l.toArray.size),l.toArray[i]'h=l[i]'(by simpa using h))∧(∀(a:α)(l:List α)(h:0<(a::l).length),(a::l)[0]'h=a)∧(∀(a:α)(l:List α)(i:Nat)(h:i+1<(a::l).length),(a::l)[i+1]'h=l[i]'(Nat.lt_of_succ_lt_succ h))∧
  (∀(l:List α)(i:Nat)(a:α),l.toArray.setIfInBounds i a=(l.set i a).toArray)∧(∀(a b:α)(l:List α),(a::l).set 0 b=b::l)∧(∀(a b:α)(l:List α)(i:Nat),(a::l).set (i+1) b=a::l.set i b):=
 ⟨fun _ _ _=>List.getElem_toArray _,fun _ _ _=>rfl,fun _ _ _ _=>rfl,fun _ _ _=>List.setIfInBounds_toArray ..,fun _ _ _=>rfl,fun _ _ _ _=>rfl⟩
theorem _root_.Go.RowKit.Below.next{w0 w1 w2:World}(h:Below w0.heap.size w0 w1)(h':Below w1.heap.size w1 w2):Below w0.heap.size w0 w2:=
 h.trans (h'.mono h.size)
def Rd(w:World)(D:Nat->Prop)(size:Nat)(A:Option Addr)(n:Nat)(xs:List Value):Prop:=
 xs.length=n*size∧(0<n->∃b off,A=some ⟨b,off,none⟩∧D b∧∀j u,xs[j]?=some u->w.cell? ⟨b,off+j,none⟩=some u)
section
variable{w w':World}{D D':Nat->Prop}{size n:Nat}{A:Option Addr}{xs:List Value}
theorem Rd.none_(A:Option Addr):Rd w D size A 0 []:=⟨by simp,fun h=>absurd h (by omega)⟩
theorem Rd.mono(h:Rd w D size A n xs)(hD:∀k,D k->D' k):Rd w D' size A n xs:=
 ⟨h.1,fun hn=>by obtain⟨b,off,e,hb,hc⟩:=h.2 hn;exact⟨b,off,e,hD _ hb,hc⟩⟩
theorem Rd.keep(h:Rd w D size A n xs)(hk:∀b o,D b->w'.cell? ⟨b,o,none⟩=w.cell? ⟨b,o,none⟩):Rd w' D size A n xs:=
 ⟨h.1,fun hn=>by obtain⟨b,off,e,hb,hc⟩:=h.2 hn;exact⟨b,off,e,hb,fun j u hu=>(hk _ _ hb).trans (hc j u hu)⟩⟩
theorem Rd.next(h:Rd w (·<w.heap.size) size A n xs)(hb:Below w.heap.size w w'):Rd w' (·<w'.heap.size) size A n xs:=
 (h.keep fun b o hd=>hb.cell (p:=⟨b,o,none⟩) hd).mono fun _ hk=>dX hk hb.size
theorem Rd.blk{b off:Nat}(h:Rd w D size (some ⟨b,off,none⟩) n xs)(hn:0<n):D b:=by
 obtain⟨b',off',e,hd,_⟩:=h.2 hn;injection e with e;injection e with e1 e2;subst e1;exact hd
theorem Rd.below{B:Nat}(h:Rd w D size A n xs)(hb:Below B w w')(hD:∀k,D k->k<B):Rd w' D size A n xs:=
 h.keep fun b o hd=>hb.cell (p:=⟨b,o,none⟩) (hD _ hd)
end
theorem Rd.of_own{w:World}{base:Nat}{e:TypeId}{size n c:Nat}{A:Option Addr}{xs:List Value}(h:w.ownsRow base e size (.slice A n c) n xs):Rd w (fun b=>base<=b∧b<w.heap.size) size A n xs:=by
 refine⟨h.1,fun hn=>?_⟩;obtain⟨g,cap,hv,hg,eI,_,_,hc⟩:=d6 h hn;injection hv with hA;exact⟨g,0,hA,⟨hg,eI⟩,fun j u hu=>by rw[Nat.zero_add];exact hc j u hu⟩
end Bk
namespace Bk
structure Ins where
 op:Int
 a:Int
 b:Int
 c:Int
 d:Int
deriving DecidableEq,Inhabited
def inv(op:Int):Int:=
 if op=1 then 2 else if op=2 then 1 else if op=4 then 5 else if op=5 then 4
 else if op=12 then 13 else if op=13 then 12 else if op=17 then 18 else if op=18 then 17
 else if op=19 then 20 else if op=20 then 19
 else if op=22 then 25 else if op=23 then 26 else if op=24 then 27
 else if op=25 then 22 else if op=26 then 23 else if op=27 then 24
 else if op=28 then 29 else if op=29 then 28 else if op=32 then 33 else if op=33 then 32 else op
def CO(n:Nat):Int:=
 if n=0∨n=34 then 0 else if n=9∨n=11 then 4
 else if n=8∨(17<=n∧n<=20)∨n=22∨n=25∨(30<=n∧n<=33)then 1 else 2
def sI(x:Int):Bool:=decide (0<=x∧x<16)
def OU(x:Int):Bool:=decide (0<=x∧x<=16384)
def Sk(x:Int):Bool:=decide (0<=x∧x<65536)
def Ss(x:Int):Bool:=decide (8<=x∧x<=23)
def P8(op:Int):Bool:=decide (op=22∨op=23∨op=24)
def DR(op:Int):Bool:=decide (op=25∨op=26∨op=27)
def Ig(op a b c d:Int):Bool:=
 (decide (0<CO op.toNat)||decide (a=0))&&(decide (1<CO op.toNat)||decide (b=0))&&
 (decide (2<CO op.toNat)||decide (c=0))&&(decide (3<CO op.toNat)||decide (d=0))
def Hs(op a b c d:Int):Bool:=
 if op=1∨op=2∨op=3 then sI a&&sI b&&decide (a≠b)
 else if op=7 then sI a&&sI b
 else if op=4∨op=5∨op=6∨op=8∨op=17∨op=18∨op=19∨op=20 then sI a
 else if op=9 then sI a&&sI b&&sI c&&decide (a≠b)&&decide (a≠c)&&Ss d
 else if op=10∨op=12∨op=13∨op=14∨op=15 then sI a&&OU b
 else if op=11 then sI a&&sI b&&decide (a≠b)&&OU c&&OU d
 else if op=16∨op=28∨op=29 then OU a&&OU b
 else if op=21 then sI a&&decide (1<=b∧b<=23)
 else if op=22∨op=25∨op=30∨op=31∨op=32∨op=33 then Sk a
 else if op=23∨op=24∨op=26∨op=27 then sI a&&Sk b
 else true
def validB(op a b c d:Int):Bool:=decide (op<35)&&Ig op a b c d&&Hs op a b c d
def XI(op a b:Int):Int×Bool:=
 if op=22∨op=25∨op=30∨op=31∨op=32∨op=33 then(a,true)
 else if op=23∨op=24∨op=26∨op=27 then(b,true)else(0,false)
namespace Ins
def valid(i:Ins):Bool:=validB i.op i.a i.b i.c i.d
def inverse(i:Ins):Ins:={i with op:=inv i.op}
def target(i:Ins):Int×Bool:=XI i.op i.a i.b
end Ins
structure Ins.Wf(i:Ins):Prop where
 op0:0<=i.op
 op1:i.op<=255
 a0: -9223372036854775808<=i.a
 a1:i.a<=9223372036854775807
 b0: -9223372036854775808<=i.b
 b1:i.b<=9223372036854775807
 c0: -9223372036854775808<=i.c
 c1:i.c<=9223372036854775807
 d0: -9223372036854775808<=i.d
 d1:i.d<=9223372036854775807
abbrev IV:=List Ins
def Su(a b:Int)(before:Bool):Bool:=
 if P8 a then DR b else if DR a then P8 b
 else if before then decide (a=32)&&decide (b=33)else decide (a=33)&&decide (b=32)
def iR(code:IV)(i:Int):Int×Bool:=
 if i<0∨(code.length:Int)<=i then(0,false)
 else if(code.getD i.toNat default).target.2=false∨(code.getD i.toNat default).target.1<0∨(code.length:Int)<=(code.getD i.toNat default).target.1 then(0,false)
 else if(code.getD i.toNat default).valid=false∨(code.getD (code.getD i.toNat default).target.1.toNat default).valid=false then(0,false)
 else if(code.getD (code.getD i.toNat default).target.1.toNat default).target.2=false∨(code.getD (code.getD i.toNat default).target.1.toNat default).target.1≠i then(0,false)
 else if Su (code.getD i.toNat default).op (code.getD (code.getD i.toNat default).target.1.toNat default).op (decide (i<(code.getD i.toNat default).target.1))then((code.getD i.toNat default).target.1,true)
 else(0,false)
def L5(i:Int):List (Int×Int)->List (Int×Int)
 | []=> []
 |(f,t)::rest=>if t<i then L5 i rest else(f,t)::rest
def D0(code:IV)(i:Nat)(opened:List (Int×Int)):List (Int×Int)×Bool×Int:=
 let o:=L5 i opened;let o':=if(iR code i).2&&decide ((code.getD i default).op=32)then((i:Int),(iR code i).1)::o else o
 (o',!o.isEmpty,match o' with| []=> -1|(f,_)::_=>f)
def BM(code:IV):Nat->List (Int×Int)
 |0=> []
 |i+1=>(D0 code i (BM code i)).1
def OO(code:IV)(i:Nat):Bool:=(D0 code i (BM code i)).2.1
def R8(code:IV)(i:Nat):Int:=(D0 code i (BM code i)).2.2
def YU(code:IV)(i:Nat):Int:=
 let x:=code.getD i default
 if x.valid=false then 3
 else if x.target.2=false then 0
 else if x.op=30∨x.op=31 then
  (if(iR code x.target.1).2=false∨(code.getD x.target.1.toNat default).op≠32 then 23 else 0)
 else if(iR code i).2=false then 23
 else if x.op=32∧OO code i=true then 20
 else if(P8 x.op=true∨DR x.op=true)∧R8 code i≠R8 code x.target.1.toNat then 20
 else 0
def x7(code:IV):Nat->Nat->Int×Int
 |0,_=>(-1,0)
 |n+1,i=>if YU code i≠0 then(i,YU code i)else x7 code n (i+1)
structure Img where
 code:IV
 mem:Int
 stacks:Int
deriving DecidableEq
def Img.sized(im:Img):Bool:=decide (im.code.length<=65536)&&decide (0<=im.mem∧im.mem<=16384)&&decide (1<=im.stacks∧im.stacks<=16384)
def Img.check(im:Img):Int×Int:=if im.sized then x7 im.code im.code.length 0 else(-1,2)
def Img.valid(im:Img):Bool:=decide (im.check.2=0)
open Go (bits BinOp IntKind)
open Go.RowKit (wrap64)
abbrev lD(x y:Int):Int:=bits .xor .i64 x y
def apply(op x y:Int):Int×Int:=
 if op=8 then(wrap64 (x+y),0)else if op=9 then(wrap64 (x-y),0)else if op=10 then(wrap64 (x*y),0)
 else if op=11 then(if y=0 then(0,11)else(wrap64 (x.tdiv y),0))
 else if op=12 then(if y=0 then(0,11)else(x.tmod y,0))
 else if op=13 then(bits .and .i64 x y,0)else if op=14 then(bits .or .i64 x y,0)else if op=15 then(bits .xor .i64 x y,0)
 else if op=16 then(if x=y then 1 else 0,0)else if op=17 then(if x≠y then 1 else 0,0)
 else if op=18 then(if x<y then 1 else 0,0)else if op=19 then(if x<=y then 1 else 0,0)
 else if op=20 then(if x>y then 1 else 0,0)else if op=21 then(if x≥y then 1 else 0,0)
 else if op=22 then(if x≠0∧y≠0 then 1 else 0,0)else if op=23 then(if x≠0∨y≠0 then 1 else 0,0)
 else(0,7)
structure cZ where
 pc:Int
 dir:Int
 r:List Int
 m:List Int
 s:List (List Int)
 calls:List (Int×Bool)
 fp:Int
 sb:Int
 inp:List Int
 out:List Int
deriving DecidableEq
namespace cZ
def reg(M:cZ)(k:Int):Int:=M.r.getD k.toNat 0
def setR(M:cZ)(k v:Int):cZ:={M with r:=M.r.set k.toNat v}
def Hx(M:cZ):cZ:={M with dir:= -M.dir}
def stk(M:cZ)(k:Int):List Int:=M.s.getD k.toNat []
def setS(M:cZ)(k:Int)(l:List Int):cZ:={M with s:=M.s.set k.toNat l}
def setM(M:cZ)(k v:Int):cZ:={M with m:=M.m.set k.toNat v}
def setIn(M:cZ)(l:List Int):cZ:={M with inp:=l}
def setOut(M:cZ)(l:List Int):cZ:={M with out:=l}
end cZ
def M5(M:cZ)(r at_:Int):Int×cZ:=
 if at_<0∨(M.m.length:Int)<=at_ then(12,M)
 else(0,(M.setR r (M.m.getD at_.toNat 0)).setM at_ (M.reg r))
def ZW(M:cZ)(cells stacks:Int):Int×cZ:=
 if M.fp+cells<0∨(M.m.length:Int)<M.fp+cells∨M.sb+stacks<0∨(M.s.length:Int)<M.sb+stacks then(12,M)
 else(0,{M with fp:=M.fp+cells,sb:=M.sb+stacks})
def find(M:cZ)(k:Int):Int:=if k≠0 then k+M.sb else k
def Sz(M:cZ)(a b:Int):Int×cZ:=
 if(M.s.length:Int)<=find M a then(12,M)else if(M.s.length:Int)<=find M b then(12,M)
 else if find M a≠0∧1000<(M.stk (find M b)).length∨find M b≠0∧1000<(M.stk (find M a)).length then(5,M)
 else(0,{M with s:=(M.s.set (find M a).toNat (M.stk (find M b))).set (find M b).toNat (M.stk (find M a))})
def Sy(M:cZ)(i:Ins):Int×cZ:=
 if(M.s.length:Int)<=find M i.b then(12,M)
 else if i.op=15 then(0,M.setR i.a (lD (M.reg i.a) (M.stk (find M i.b)).length))
 else if i.op=12 then
  (if find M i.b≠0∧1000<=(M.stk (find M i.b)).length then(5,M)
   else(0,(M.setS (find M i.b) (M.stk (find M i.b)++ [M.reg i.a])).setR i.a 0))
 else if(M.stk (find M i.b)).length=0 then(13,M)
 else if i.op=14 then(0,M.setR i.a (lD (M.reg i.a) ((M.stk (find M i.b)).getLastD 0)))
 else if M.reg i.a≠0 then(14,M)
 else(0,(M.setS (find M i.b) (M.stk (find M i.b)).dropLast).setR i.a ((M.stk (find M i.b)).getLastD 0))
def QE(M:cZ)(i:Ins):Int×cZ:=
 if i.op=18∧4096<=M.inp.length∨i.op=19∧4096<=M.out.length then(5,M)
 else if i.op=17∧M.inp.length=0∨i.op=20∧M.out.length=0 then(17,M)
 else if(i.op=17∨i.op=20)∧M.reg i.a≠0 then(14,M)
 else if i.op=17 then(0,(M.setR i.a (M.inp.headD 0)).setIn M.inp.tail)
 else if i.op=18 then(0,(M.setR i.a 0).setIn (M.reg i.a::M.inp))
 else if i.op=19 then(0,(M.setR i.a 0).setOut (M.out++ [M.reg i.a]))
 else(0,(M.setR i.a (M.out.getLastD 0)).setOut M.out.dropLast)
def aAb(M:cZ)(i:Ins):Int×cZ:=
 if i.op=0 then(0,M)
 else if i.op=1 then(0,M.setR i.a (wrap64 (M.reg i.a+M.reg i.b)))
 else if i.op=2 then(0,M.setR i.a (wrap64 (M.reg i.a-M.reg i.b)))
 else if i.op=3 then(0,M.setR i.a (lD (M.reg i.a) (M.reg i.b)))
 else if i.op=4 then(0,M.setR i.a (wrap64 (M.reg i.a+i.b)))
 else if i.op=5 then(0,M.setR i.a (wrap64 (M.reg i.a-i.b)))
 else if i.op=6 then(0,M.setR i.a (lD (M.reg i.a) i.b))
 else if i.op=7 then(0,(M.setR i.a (M.reg i.b)).setR i.b (M.reg i.a))
 else if i.op=8 then(0,M.setR i.a (wrap64 (-M.reg i.a)))
 else if i.op=9 then
  (if(apply i.d (M.reg i.b) (M.reg i.c)).2≠0 then((apply i.d (M.reg i.b) (M.reg i.c)).2,M)
   else(0,M.setR i.a (lD (M.reg i.a) (apply i.d (M.reg i.b) (M.reg i.c)).1)))
 else if i.op=21 then(if M.reg i.a≠0 then(i.b,M)else(0,M))
 else if i.op=10 then M5 M i.a (M.fp+i.b)
 else if i.op=11 then(if M.reg i.b<0∨i.d<=M.reg i.b then(12,M)else M5 M i.a (M.fp+i.c+M.reg i.b))
 else if i.op=28 then ZW M i.a i.b
 else if i.op=29 then ZW M (-i.a) (-i.b)
 else if i.op=16 then Sz M i.a i.b
 else if i.op=12∨i.op=13∨i.op=14∨i.op=15 then Sy M i
 else QE M i
def Y1(i dir:Int):Int:=if dir>0 then i+1 else i
def holds(M:cZ)(i:Ins):Bool:=
 if i.op=23∨i.op=26 then decide (M.reg i.a=0)else if i.op=24∨i.op=27 then decide (M.reg i.a≠0)else true
def C8(code:IV)(M:cZ)(at_:Nat):Int×cZ:=
 if(iR code at_).2=false then(23,M)
 else if holds M (code.getD at_ default)=false then(0,{M with pc:=Y1 at_ M.dir})
 else if P8 (code.getD at_ default).op=decide (M.dir>0)∧holds M (code.getD (iR code at_).1.toNat default)=true then
  (0,{M with pc:=Y1 (iR code at_).1 M.dir})
 else(15,M)
def enter(code:IV)(M:cZ)(at_:Nat):Int×cZ:=
 if(iR code (code.getD at_ default).a).2=false then(23,M)
 else if 100<=M.calls.length then(19,M)
 else
  let Hx:=decide ((code.getD at_ default).op=31);let dir:=if Hx then-M.dir else M.dir
  (0,{M with calls:=M.calls++ [((at_:Int),Hx)],dir:=dir,pc:=if dir>0 then(code.getD at_ default).a+1 else(iR code (code.getD at_ default).a).1})
def leave(code:IV)(M:cZ)(at_:Nat):Int×cZ:=
 let start:Int:=if(code.getD at_ default).op=33 then(code.getD at_ default).a else at_
 if decide ((code.getD at_ default).op=33)≠decide (M.dir>0)∨M.calls.length=0 then(23,M)
 else
  let a:=M.calls.getLastD (0,false)
  if code.getD a.1.toNat default≠⟨if a.2 then 31 else 30,start,0,0,0⟩then(23,M)
  else
   let dir:=if a.2 then-M.dir else M.dir
   (0,{M with calls:=M.calls.dropLast,dir:=dir,pc:=Y1 a.1 dir})
def step(code:IV)(M:cZ):Int×cZ:=
 let at_:Int:=if M.dir<0 then M.pc-1 else M.pc
 if at_<0∨(code.length:Int)<=at_ then(4,M)
 else
  let i:=code.getD at_.toNat default
  if i.op=34 then(4,M)
  else if i.valid=false then(3,M)
  else if i.op=30∨i.op=31 then enter code M at_.toNat
  else if i.op=32∨i.op=33 then leave code M at_.toNat
  else if P8 i.op=true∨DR i.op=true then C8 code M at_.toNat
  else
   let x:=aAb M (if M.dir<0 then i.inverse else i)
   if x.1=0 then(0,{x.2 with pc:=x.2.pc+x.2.dir})else(x.1,M)
end Bk
namespace Bk
open Go Go.RowKit
def aC(l:List Int):List Value:=l.map (.int .i64 ·)
def KH(l:List (Int×Bool)):List Value:=l.flatMap fun a=> [.int .i64 a.1,.bool a.2]
theorem f7(l:List Int):(aC l).length=l.length:=by simp[aC]
theorem eJ(l:List Int)(k:Nat)(h:k<l.length):(aC l)[k]?=some (.int .i64 (l.getD k 0)):=by
 simp[aC,eX,h]
theorem l7(l r:List Int):aC (l++r)=aC l++aC r:=by simp[aC]
structure Fr(O:Nat->Prop)(w w':World):Prop where
 os:w'.os=w.os
 tape:w'.tape=w.tape
 output:w'.output=w.output
 size:w.heap.size<=w'.heap.size
 block:∀k,k<w.heap.size->¬O k->w'.heap[k]?=w.heap[k]?
section
variable{O:Nat->Prop}{w w' w'':World}
theorem Fr.refl(O:Nat->Prop)(w:World):Fr O w w:=⟨rfl,rfl,rfl,aH _,fun _ _ _=>rfl⟩
theorem Fr.trans(h:Fr O w w')(h':Fr O w' w''):Fr O w w'':=
 ⟨h'.os.trans h.os,h'.tape.trans h.tape,h'.output.trans h.output,fC h.size h'.size,fun k hk ho=>(h'.block k (dX hk h.size) ho).trans (h.block k hk ho)⟩
theorem Fr.next(h:Fr O w w')(hb:Below w'.heap.size w' w''):Fr O w w'':=
 h.trans ⟨hb.os,hb.tape,hb.output,hb.size,fun k hk _=>hb.block k hk⟩
theorem Fr.of(hb:Below w.heap.size w w'):Fr O w w':=(Fr.refl O w).next hb
theorem Fr.drew(h:Fr O w w'):Fr O w w'.drew:=⟨h.os,h.tape,h.output,h.size,h.block⟩
theorem Fr.drewN(h:Fr O w w')(n:Nat):Fr O w (w'.drewN n):=⟨h.os,h.tape,h.output,h.size,h.block⟩
theorem Fr.alloc(h:Fr O w w')(o:Obj):Fr O w (w'.alloc o):=h.next ((aM _ _).alloc (aH _) _)
theorem Fr.set(h:Fr O w w'){p:Addr}(hp:O p.block)(u:Value):Fr O w (w'.setCell p u):=
 h.trans ⟨rfl,rfl,rfl,by simp[World.setCell],fun k hk ho=>Below.heap_setCell _ _ _ _ (fun e=>ho (e▸hp))⟩
theorem Fr.grown{row:Option Nat}(h:Fr O w w')(hg:w'.grownBy w'' row)(hr:∀k,row=some k->w'.heap.size<=k):Fr O w w'':=
 h.next ((aM _ _).grown hg (aH _) hr)
theorem Fr.below(h:Fr O w w'){B:Nat}(hB:B<=w.heap.size)(hO:∀k,O k->B<=k):Below B w w':=
 ⟨h.os,h.tape,h.output,h.size,fun k hk=>h.block k (by omega) (fun ho=>by have:=hO k ho;omega)⟩
theorem Fr.cell(h:Fr O w w'){b:Nat}(hb:b<w.heap.size)(ho:¬O b)(o:Nat):w'.cell? ⟨b,o,none⟩=w.cell? ⟨b,o,none⟩:=World.cell?_of_block (h.block b hb ho)
theorem Fr.mono{O':Nat->Prop}(h:Fr O w w')(hO:∀k,O k->O' k):Fr O' w w':=⟨h.os,h.tape,h.output,h.size,fun k hk ho=>h.block k hk (fun h=>ho (hO k h))⟩
theorem Fr.blk(h:Fr O w w'){g:Nat}{t:TypeId}{cs:Array Value}(hb:Blk w g t cs)(ho:¬O g):Blk w' g t cs:=(h.block g hb.lt ho).trans hb
end
def Sl(w:World)(D:Nat->Prop)(size:Nat)(v:Value)(n:Nat)(xs:List Value):Prop:=
 ∃A cap,v=.slice A n cap∧n<=cap∧(A=none->cap=0)∧Rd w D size A n xs
section
variable{w w':World}{D D':Nat->Prop}{size n:Nat}{v:Value}{xs:List Value}
theorem Sl.keep(h:Sl w D size v n xs)(hk:∀b o,D b->w'.cell? ⟨b,o,none⟩=w.cell? ⟨b,o,none⟩)(hD:∀k,D k->D' k):Sl w' D' size v n xs:=by
 obtain⟨A,cap,e,h1,h2,h3⟩:=h;exact⟨A,cap,e,h1,h2,(h3.keep hk).mono hD⟩
theorem Sl.mono(h:Sl w D size v n xs)(hD:∀k,D k->D' k):Sl w D' size v n xs:=h.keep (fun _ _ _=>rfl) hD
theorem Sl.nil:Sl w D size (.slice none 0 0) 0 []:=⟨none,0,rfl,aH _,fun _=>rfl,Rd.none_ _⟩
theorem Sl.of_own{base:Nat}{e:TypeId}(h:w.ownsRow base e size v n xs):Sl w (fun b=>base<=b∧b<w.heap.size) size v n xs:=by
 have h':=h;rcases h.2 with⟨rfl,rfl⟩|⟨g,cap,cur,rfl,hg,hh,hn,_⟩
 ·exact⟨none,0,rfl,aH _,fun _=>rfl,Rd.of_own h'⟩
 ·exact⟨_,cap,rfl,hn,(fun e=>by cases e),Rd.of_own h'⟩
end
def Row(w:World)(g:Nat)(v:Value)(xs:List Value):Prop:=
 ∃A cap,v=.slice A xs.length cap∧xs.length<=cap∧(A=none->cap=0)∧(0<xs.length->A=some ⟨g,0,none⟩∧∃(t:TypeId)(cur:Array Value),Blk w g t cur∧∀(j:Nat)(u:Value),xs[j]?=some u->cur[j]?=some u)
structure Pl where
 b:Nat
 t:TypeId
 pre:List Value
 post:List Value
 off:Nat
 gm:Nat
 gs:Nat
 fx:Nat->Prop
def Pl.O(P:Pl)(k:Nat):Prop:=k=P.b∨k=P.gm∨k=P.gs
def Pl.D(P:Pl)(w:World)(k:Nat):Prop:=k<w.heap.size∧¬(k=P.b∨k=P.gm∨k=P.gs∨P.fx k)
def Pl.E(P:Pl)(w:World)(k:Nat):Prop:=k<w.heap.size∧¬P.O k
theorem Pl.D.e{P:Pl}{w:World}{k:Nat}(h:P.D w k):P.E w k:=⟨h.1,fun ho=>h.2 (ho.elim .inl fun ho=>ho.elim (fun e=>.inr (.inl e)) fun e=>.inr (.inr (.inl e)))⟩
def eO(M:cZ)(vm vs vc vi vo:Value):List Value:=
 .int .i64 M.pc:: .int .i64 M.dir::(aC M.r++ [vm,vs,vc,.int .i64 M.fp,.int .i64 M.sb,vi,vo])
def SvRd(w:World)(D:Nat->Prop)(sv:List Value)(ss:List (List Int)):Prop:=
 sv.length=ss.length∧∀k,k<ss.length->∃u,sv[k]?=some u∧Sl w D 1 u (ss.getD k []).length (aC (ss.getD k []))
theorem SvRd.keep{w w':World}{D D':Nat->Prop}{sv:List Value}{ss:List (List Int)}(h:SvRd w D sv ss)(hk:∀b o,D b->w'.cell? ⟨b,o,none⟩=w.cell? ⟨b,o,none⟩)(hD:∀k,D k->D' k):SvRd w' D' sv ss:=
 ⟨h.1,fun k tB=>let ⟨u,h1,h2⟩:=h.2 k tB;⟨u,h1,h2.keep hk hD⟩⟩
def Lists(w:World)(D:Nat->Prop)(M:cZ)(vc vi vo:Value)(sv:List Value):Prop:=
 SvRd w D sv M.s∧Sl w D 2 vc M.calls.length (KH M.calls)∧Sl w D 1 vi M.inp.length (aC M.inp)∧Sl w D 1 vo M.out.length (aC M.out)
theorem Lists.keep{w w':World}{D D':Nat->Prop}{M:cZ}{vc vi vo:Value}{sv:List Value}(h:Lists w D M vc vi vo sv)(hk:∀b o,D b->w'.cell? ⟨b,o,none⟩=w.cell? ⟨b,o,none⟩)(hD:∀k,D k->D' k):Lists w' D' M vc vi vo sv:=
 ⟨h.1.keep hk hD,h.2.1.keep hk hD,h.2.2.1.keep hk hD,h.2.2.2.keep hk hD⟩
structure MOn(w:World)(P:Pl)(M:cZ)(vm vs vc vi vo:Value)(sv:List Value):Prop where
 hoff:P.pre.length=P.off
 rl:M.r.length=16
 blk:Blk w P.b P.t (P.pre++eO M vm vs vc vi vo++P.post).toArray
 m:Row w P.gm vm (aC M.m)
 s:Row w P.gs vs sv
 gm:P.gm<w.heap.size
 gs:P.gs<w.heap.size
 am:0<M.m.length->P.gm≠P.b∧P.gm≠P.gs
 as_:0<M.s.length->P.gs≠P.b
 l:Lists w (P.D w) M vc vi vo sv
 fx:∀k,P.fx k->k<w.heap.size
def MAt(w:World)(P:Pl)(M:cZ):Prop:=∃vm vs vc vi vo sv,MOn w P M vm vs vc vi vo sv
theorem BK{M:cZ}{vm vs vc vi vo:Value}(hr:M.r.length=16):(eO M vm vs vc vi vo)[0]?=some (.int .i64 M.pc)∧(eO M vm vs vc vi vo)[1]?=some (.int .i64 M.dir)∧
  (∀k,k<16->(eO M vm vs vc vi vo)[2+k]?=some (.int .i64 (M.r.getD k 0)))∧(eO M vm vs vc vi vo)[18]?=some vm∧(eO M vm vs vc vi vo)[19]?=some vs∧(eO M vm vs vc vi vo)[20]?=some vc∧
  (eO M vm vs vc vi vo)[21]?=some (.int .i64 M.fp)∧(eO M vm vs vc vi vo)[22]?=some (.int .i64 M.sb)∧(eO M vm vs vc vi vo)[23]?=some vi∧(eO M vm vs vc vi vo)[24]?=some vo∧(eO M vm vs vc vi vo).length=25:=by
 have hl:(aC M.r).length=16:=by rw[f7,hr]
 have tail:∀k,k<7->(eO M vm vs vc vi vo)[18+k]?= [vm,vs,vc,.int .i64 M.fp,.int .i64 M.sb,vi,vo][k]?:=by
  intro k hk;unfold eO;rw[show 18+k=16+k+1+1 by omega,List.getElem?_cons_succ,List.getElem?_cons_succ,List.getElem?_append_right (by omega),hl,Nat.add_sub_cancel_left]
 refine⟨rfl,rfl,fun k hk=>?_,tail 0 (by decide),tail 1 (by decide),tail 2 (by decide),tail 3 (by decide),tail 4 (by decide),tail 5 (by decide),tail 6 (by decide),?_⟩
 ·unfold eO
  rw[show 2+k=k+1+1 by omega,List.getElem?_cons_succ,List.getElem?_cons_succ,List.getElem?_append_left (by omega),eJ _ _ (by omega)]
 ·simp[eO,hl]
theorem WL(pre cs post:List Value)(j:Nat)(h:j<cs.length):(pre++cs++post).toArray[pre.length+j]?=cs[j]?:=by
 simp only[List.getElem?_toArray];rw[List.getElem?_append_left (by simp;omega),List.getElem?_append_right (by omega),Nat.add_sub_cancel_left]
theorem WM(pre cs post:List Value)(j:Nat)(u:Value)(h:j<cs.length):(pre++cs++post).toArray.setIfInBounds (pre.length+j) u=(pre++cs.set j u++post).toArray:=by
 rw[List.setIfInBounds_toArray];congr 1;rw[List.set_append_left _ _ (by simp;omega),List.set_append_right _ _ (by omega),Nat.add_sub_cancel_left]
section
variable{w w':World}{P:Pl}{M:cZ}{vm vs vc vi vo:Value}{sv:List Value}
theorem MOn.cellAt(h:MOn w P M vm vs vc vi vo sv)(j:Nat)(hj:j<25):w.cell? ⟨P.b,P.off+j,none⟩=(eO M vm vs vc vi vo)[j]?:=by
 rw[h.blk.cell,<-h.hoff,WL _ _ _ _ (by have:=(BK (vm:=vm) (vs:=vs) (vc:=vc) (vi:=vi) (vo:=vo) h.rl).2.2.2.2.2.2.2.2.2.2;omega)]
theorem MOn.c0(h:MOn w P M vm vs vc vi vo sv):w.cell? ⟨P.b,P.off,none⟩=some (.int .i64 M.pc):=by
 have:=h.cellAt 0 (by decide);rw[Nat.add_zero]at this;rw[this];rfl
theorem MOn.c1(h:MOn w P M vm vs vc vi vo sv):w.cell? ⟨P.b,P.off+1,none⟩=some (.int .i64 M.dir):=(h.cellAt 1 (by decide)).trans rfl
theorem MOn.cr(h:MOn w P M vm vs vc vi vo sv)(k:Nat)(hk:k<16):w.cell? ⟨P.b,P.off+2+k,none⟩=some (.int .i64 (M.r.getD k 0)):=by
 rw[Nat.add_assoc,h.cellAt (2+k) (by omega)];exact(BK h.rl).2.2.1 k hk
theorem MOn.frozen(h:MOn w P M vm vs vc vi vo sv)(o:Nat):w.frozen? ⟨P.b,o,none⟩=false:=h.blk.frozen o
theorem MOn.lt(h:MOn w P M vm vs vc vi vo sv):P.b<w.heap.size:=h.blk.lt
theorem Row.keep{g:Nat}{v:Value}{xs:List Value}(h:Row w g v xs)(hb:0<xs.length->w'.heap[g]?=w.heap[g]?):Row w' g v xs:=by
 obtain⟨A,cap,e,h1,h2,h3⟩:=h;refine⟨A,cap,e,h1,h2,fun hn=>?_⟩;obtain⟨e,t,cur,hB,hc⟩:=h3 hn;exact⟨e,t,cur,(hb hn).trans hB,hc⟩
theorem MOn.next(h:MOn w P M vm vs vc vi vo sv)(hb:Below w.heap.size w w'):MOn w' P M vm vs vc vi vo sv:=
 ⟨h.hoff,h.rl,h.blk.next hb,h.m.keep fun _=>hb.block _ h.gm,h.s.keep fun _=>hb.block _ h.gs,dX h.gm hb.size,dX h.gs hb.size,h.am,h.as_,h.l.keep (fun b o hd=>hb.cell (p:=⟨b,o,none⟩) hd.1) fun k hk=>⟨dX hk.1 hb.size,hk.2⟩,fun k hk=>dX (h.fx k hk) hb.size⟩
theorem MOn.far(h:MOn w P M vm vs vc vi vo sv){O:Nat->Prop}(hf:Fr O w w')(h1:¬O P.b)(h2:¬O P.gm)(h3:¬O P.gs)(hl:Lists w' (P.D w') M vc vi vo sv):MOn w' P M vm vs vc vi vo sv:=
 ⟨h.hoff,h.rl,hf.blk h.blk h1,h.m.keep fun _=>hf.block _ h.gm h2,h.s.keep fun _=>hf.block _ h.gs h3,dX h.gm hf.size,dX h.gs hf.size,h.am,h.as_,hl,fun k hk=>dX (h.fx k hk) hf.size⟩
theorem MOn.setOwn(h:MOn w P M vm vs vc vi vo sv)(j:Nat)(hj:j<25)(u:Value){M':cZ}{vc' vi' vo':Value}
  (hc:(eO M vm vs vc vi vo).set j u=eO M' vm vs vc' vi' vo') (hr:M'.r.length=16) (hm:M'.m=M.m) (hs:M'.s=M.s) (hl:Lists w (P.D w) M' vc' vi' vo' sv):
  MOn (w.setCell ⟨P.b,P.off+j,none⟩ u) P M' vm vs vc' vi' vo' sv:=by
 have ne:∀g,g≠P.b->(w.setCell ⟨P.b,P.off+j,none⟩ u).heap[g]?=w.heap[g]?:=fun g hg=>Below.heap_setCell w ⟨P.b,P.off+j,none⟩ u g hg
 have l6:(w.setCell ⟨P.b,P.off+j,none⟩ u).heap.size=w.heap.size:=by simp[World.setCell]
 refine⟨h.hoff,hr,?_,?_,?_,by rw[l6];exact h.gm,by rw[l6];exact h.gs,by rw[hm];exact h.am,by rw[hs];exact h.as_,?_,fun k hk=>by rw[l6];exact h.fx k hk⟩
 ·have:=h.blk.set_ (P.off+j) u
  rw[<-h.hoff,WM _ _ _ _ _ (by have:=(BK (vm:=vm) (vs:=vs) (vc:=vc) (vi:=vi) (vo:=vo) h.rl).2.2.2.2.2.2.2.2.2.2;omega),hc]at this;rw[<-h.hoff];exact this
 ·rw[hm];exact h.m.keep fun hn=>ne _ (h.am (by rw[f7]at hn;exact hn)).1
 ·refine h.s.keep fun hn=>ne _ (h.as_ ?_)
  rw[h.l.1.1]at hn;exact hn
 ·refine hl.keep (fun b o hd=>?_) fun k hk=>⟨by rw[l6];exact hk.1,hk.2⟩
  exact World.cell?_of_block (ne b fun e=>hd.2 (.inl e))
theorem T0(M:cZ)(vm vs vc vi vo u:Value)(hr:M.r.length=16)(k:Nat):(eO M vm vs vc vi vo).set (18+k) u=.int .i64 M.pc:: .int .i64 M.dir::(aC M.r++ [vm,vs,vc,.int .i64 M.fp,.int .i64 M.sb,vi,vo].set k u):=by
 unfold eO;rw[show 18+k=16+k+1+1 by omega,List.set_cons_succ,List.set_cons_succ,List.set_append_right _ _ (by rw[f7,hr];omega),f7,hr,Nat.add_sub_cancel_left]
theorem MOn.setIn(h:MOn w P M vm vs vc vi vo sv)(u:Value)(l:List Int)(hu:Sl w (P.D w) 1 u l.length (aC l)):MOn (w.setCell ⟨P.b,P.off+23,none⟩ u) P (M.setIn l) vm vs vc u vo sv:=
 h.setOwn 23 (by decide) u (M':=M.setIn l) (T0 M vm vs vc vi vo _ h.rl 5) h.rl rfl rfl ⟨h.l.1,h.l.2.1,hu,h.l.2.2.2⟩
theorem MOn.setOut(h:MOn w P M vm vs vc vi vo sv)(u:Value)(l:List Int)(hu:Sl w (P.D w) 1 u l.length (aC l)):MOn (w.setCell ⟨P.b,P.off+24,none⟩ u) P (M.setOut l) vm vs vc vi u sv:=
 h.setOwn 24 (by decide) u (M':=M.setOut l) (T0 M vm vs vc vi vo _ h.rl 6) h.rl rfl rfl ⟨h.l.1,h.l.2.1,h.l.2.2.1,hu⟩
theorem Row.set{g:Nat}{v:Value}{xs:List Value}(h:Row w g v xs)(k:Nat)(hk:k<xs.length)(u:Value):Row (w.setCell ⟨g,k,none⟩ u) g v (xs.set k u):=by
 obtain⟨A,cap,e,h1,h2,h3⟩:=h;refine⟨A,cap,by simpa using e,by simpa using h1,h2,fun hn=>?_⟩;obtain⟨e,t,cur,hB,hc⟩:=h3 (by simpa using hn);refine⟨e,t,_,hB.set_ k u,fun j x hx=>?_⟩;have hkc:k<cur.size:=by
  have:=hc k _ (dR hk);rcases Nat.lt_or_ge k cur.size with h|h
  ·exact h
  ·rw[Array.getElem?_eq_none h]at this;cases this
 rw[List.getElem?_set]at hx;rw[Array.getElem?_setIfInBounds];split at hx
 ·rename_i e;subst e
  rw[if_pos rfl,if_pos hkc];simpa[hk]using hx
 ·rename_i e
  rw[if_neg e];exact hc j x hx
theorem Row.form{g:Nat}{v:Value}{xs:List Value}(h:Row w g v xs)(hn:0<xs.length):∃cap,v=.slice (some ⟨g,0,none⟩) xs.length cap∧xs.length<=cap∧(∀j u,xs[j]?=some u->w.cell? ⟨g,j,none⟩=some u)∧∀j,w.frozen? ⟨g,j,none⟩=false:=by
 obtain⟨A,cap,e,h1,h2,h3⟩:=h;obtain⟨rfl,t,cur,hB,hc⟩:=h3 hn;exact⟨cap,e,h1,fun j u hu=>(hB.cell j).trans (hc j u hu),fun j=>hB.frozen j⟩
end
structure MBd(M:cZ):Prop where
 f0:0<=M.fp
 f1:M.fp<=16384
 s0:0<=M.sb
 s1:M.sb<=16384
 ml:M.m.length<=16384
 sl:M.s.length<=16384
 cl:M.calls.length<=100
 il:M.inp.length<=4096
 ol:M.out.length<=4096
 st:∀l∈M.s,l.length<=17592186044400
theorem MBd.stk{M:cZ}(h:MBd M)(k:Int):(M.stk k).length<=17592186044400:=by
 unfold cZ.stk;rw[eX];cases e:M.s[k.toNat]? with
 |none=>simp
 |some l=>exact h.st l (List.mem_of_getElem? e)
theorem MOn.mat{w:World}{P:Pl}{M:cZ}{vm vs vc vi vo:Value}{sv:List Value}(h:MOn w P M vm vs vc vi vo sv):MAt w P M:=⟨vm,vs,vc,vi,vo,sv,h⟩
theorem MAt.next{w w':World}{P:Pl}{M:cZ}(h:MAt w P M)(hb:Below w.heap.size w w'):MAt w' P M:=by
 obtain⟨vm,vs,vc,vi,vo,sv,h⟩:=h;exact(h.next hb).mat
theorem MOn.sv{w:World}{P:Pl}{M:cZ}{vm vs vc vi vo:Value}{sv:List Value}(h:MOn w P M vm vs vc vi vo sv)(k:Nat)(hk:k<M.s.length):
  ∃n cap,vs=.slice (some ⟨P.gs,0,none⟩) n cap∧n=M.s.length∧∃A c,w.cell? ⟨P.gs,k,none⟩=some (.slice A (M.stk k).length c)∧(M.stk k).length<=c∧(A=none->c=0)∧Rd w (P.D w) 1 A (M.stk k).length (aC (M.stk k))∧sv[k]?=some (.slice A (M.stk k).length c):=by
 obtain⟨cap,e,_,hc,_⟩:=h.s.form (by rw[h.l.1.1];omega);rw[h.l.1.1]at e;obtain⟨u,hu,A,c,rfl,h1,h2,h3⟩:=h.l.1.2 k hk;exact⟨_,cap,e,rfl,A,c,hc k _ hu,h1,h2,h3,hu⟩
theorem qK(l:List Int):aC l.dropLast=(aC l).take (l.length-1):=by
 rw[List.dropLast_eq_take,aC,List.map_take];rfl
theorem Rd.take{w:World}{D:Nat->Prop}{A:Option Addr}{n m:Nat}{xs:List Value}(h:Rd w D 1 A n xs)(hm:m<=n):Rd w D 1 A m (xs.take m):=by
 have hl:=h.1;refine⟨by simp;omega,fun hm0=>?_⟩;obtain⟨b,off,e,hd,hc⟩:=h.2 (by omega);refine⟨b,off,e,hd,fun j u hu=>hc j u ?_⟩;rw[List.getElem?_take]at hu;split at hu
 ·exact hu
 ·cases hu
theorem Sl.pop{w:World}{D:Nat->Prop}{A:Option Addr}{c m:Nat}{l:List Int}(hl:l.length=m+1)(hc:m+1<=c)(hA:A=none->c=0)(h:Rd w D 1 A (m+1) (aC l)):Sl w D 1 (.slice A m c) l.dropLast.length (aC l.dropLast):=by
 have e:l.dropLast.length=m:=by simp[hl]
 rw[e];refine⟨A,c,rfl,by omega,hA,?_⟩;rw[qK,hl];exact h.take (by omega)
theorem MOn.heap{w w':World}{P:Pl}{M:cZ}{vm vs vc vi vo:Value}{sv:List Value}(h:MOn w P M vm vs vc vi vo sv)(e:w'.heap=w.heap):MOn w' P M vm vs vc vi vo sv:=by
 have c:∀b o,w'.cell? ⟨b,o,none⟩=w.cell? ⟨b,o,none⟩:=fun b o=>World.cell?_of_block (by rw[e])
 exact⟨h.hoff,h.rl,by unfold Blk;rw[e];exact h.blk,h.m.keep fun _=>by rw[e],h.s.keep fun _=>by rw[e],by rw[e];exact h.gm,by rw[e];exact h.gs,h.am,h.as_,h.l.keep (fun b o _=>c b o) fun k hk=>⟨by rw[e];exact hk.1,hk.2⟩,fun k hk=>by rw[e];exact h.fx k hk⟩
theorem MOn.fresh{w w':World}{P:Pl}{M:cZ}{vm vs vc vi vo:Value}{sv:List Value}(h:MOn w P M vm vs vc vi vo sv){k:Nat}(h1:w.heap.size<=k)(h2:k<w'.heap.size):P.D w' k:=
 ⟨h2,fun ho=>by have a:=h.lt;have b:=h.gm;have c:=h.gs;rcases ho with e|e|e|e<;>first|omega|(have:=h.fx k e;omega)⟩
theorem MOn.foreign{w w':World}{P:Pl}{M:cZ}{vm vs vc vi vo:Value}{sv:List Value}(h:MOn w P M vm vs vc vi vo sv)(hb:Below w.heap.size w w'){fx:Nat->Prop}(h1:∀k,fx k->P.fx k∨w.heap.size<=k)(h2:∀k,fx k->k<w'.heap.size):MOn w' {P with fx:=fx} M vm vs vc vi vo sv:=by
 have h':=h.next hb;refine⟨h'.hoff,h'.rl,h'.blk,h'.m,h'.s,h'.gm,h'.gs,h'.am,h'.as_,?_,h2⟩;refine h.l.keep (fun b o hd=>hb.cell (p:=⟨b,o,none⟩) hd.1) fun k hk=>⟨dX hk.1 hb.size,fun ho=>?_⟩
 rcases ho with e|e|e|e
 ·exact hk.2 (.inl e)
 ·exact hk.2 (.inr (.inl e))
 ·exact hk.2 (.inr (.inr (.inl e)))
 ·rcases h1 k e with e|e
  ·exact hk.2 (.inr (.inr (.inr e)))
  ·have:=hk.1;omega
theorem MAt.foreign{w w':World}{P:Pl}{M:cZ}(h:MAt w P M)(hb:Below w.heap.size w w'){fx:Nat->Prop}(h1:∀k,fx k->P.fx k∨w.heap.size<=k)(h2:∀k,fx k->k<w'.heap.size):MAt w' {P with fx:=fx} M:=by
 obtain⟨vm,vs,vc,vi,vo,sv,h⟩:=h;exact(h.foreign hb h1 h2).mat
theorem MOn.other{w w':World}{P:Pl}{M:cZ}{vm vs vc vi vo:Value}{sv:List Value}(h:MOn w P M vm vs vc vi vo sv){O:Nat->Prop}(hf:Fr O w w')(h1:¬O P.b)(h2:¬O P.gm)(h3:¬O P.gs)(hx:∀k,O k->P.fx k):MOn w' P M vm vs vc vi vo sv:=
 h.far hf h1 h2 h3 (h.l.keep (fun b o hd=>hf.cell hd.1 (fun ho=>hd.2 (.inr (.inr (.inr (hx b ho))))) o) fun k hk=>⟨dX hk.1 hf.size,hk.2⟩)
theorem MAt.other{w w':World}{P:Pl}{M:cZ}(h:MAt w P M){O:Nat->Prop}(hf:Fr O w w')(h1:¬O P.b)(h2:¬O P.gm)(h3:¬O P.gs)(hx:∀k,O k->P.fx k):MAt w' P M:=by
 obtain⟨vm,vs,vc,vi,vo,sv,h⟩:=h;exact(h.other hf h1 h2 h3 hx).mat
structure MLn(M:cZ):Prop where
 ml:M.m.length<=16384
 sl:M.s.length<=16384
 cl:M.calls.length<=10000
 il:M.inp.length<=100000
 ol:M.out.length<=100000
 st:∀l∈M.s,l.length<=17592186044400
theorem MBd.ln{M:cZ}(h:MBd M):MLn M:=⟨h.ml,h.sl,fC h.cl (by decide),fC h.il (by decide),fC h.ol (by decide),h.st⟩
end Bk
namespace Bk
open Go Go.RowKit Go.MapKept
def KeyW(w0 w:World)(r:Nat)(ks:List ByteArray):Prop:=
 (∃es clock,w.heap[r]?=some (.map es clock)∧(∀x∈es.toList,∃s,x.key=.string s∧x.val=.bool true)∧∀s,(∃x∈es.toList,x.key=.string s)↔s∈ks)∧Below r w0 w
theorem KeyW.made(w:World):KeyW w (w.alloc (.map #[] 0)) w.heap.size []:=
 ⟨⟨#[],0,(heap_alloc w _).1,fun x hx=>by simp at hx,fun s=>by simp⟩,(aM _ w).alloc (aH _) _⟩
theorem KeyW.insert{P:Program}{mty kt et:TypeId}{w0 w:World}{r:Nat}{ks:List ByteArray}(hm:P.underlying mty=some (.map kt et))(hd:P.underlying kt=some .string)(h:KeyW w0 w r ks)(s:ByteArray):
  ∃w',(Instr.mapUpdate mty (.map (some r)) (.string s) (.bool true)).run P w=.ok () w'∧KeyW w0 w' r (s::ks):=by
 obtain⟨⟨es,clock,hb,hx,hk⟩,hB⟩:=h;have Gq:∀x∈es.toList,IsKey .string x.key:=fun x hm=>by obtain⟨s',e,_⟩:=hx x hm;rw[e];trivial
 have yQ:IsKey .string (.string s):=trivial;have OF:∀o,Below r w0 {w with heap:=w.heap.setIfInBounds r o}:=fun o=>⟨hB.os,hB.tape,hB.output,by simpa using hB.size,fun k hk=>by
  have:=(heap_set (o':=o) hb).2 k (by omega);exact this.trans (hB.block k hk)⟩
 rcases findNow_spec yQ es.toList 0 Gq with⟨h1,h2⟩|⟨j,e,h1,h2,h3⟩
 ·refine⟨_,by simp[Instr.mapUpdate,run_underlying hm,run_getObj_map hb,run_checkKey hd yQ,run_findKey hd h1,run_setObj_map _ hb,Result.andThen];rfl,⟨_,_,(heap_set hb).1,fun x hm=>?_,fun s'=>?_⟩,OF _⟩
  ·simp only[Array.toList_push,List.mem_append,List.mem_singleton]at hm
   rcases hm with hm|rfl
   ·exact hx x hm
   ·exact⟨s,rfl,rfl⟩
  ·rw[List.mem_cons,<-hk s']
   simp only[Array.toList_push,List.mem_append,List.mem_singleton];constructor
   ·rintro⟨x,hm|rfl,e⟩
    ·exact .inr ⟨x,hm,e⟩
    ·injection e with e;exact .inl e.symm
   ·rintro(rfl|⟨x,hm,e⟩)
    ·exact⟨_,.inr rfl,rfl⟩
    ·exact⟨x,.inl hm,e⟩
 ·have hj:es[j]?=some e:=by simpa using h2
  have aAy:∀e',es[j]?=some e'->({e' with key:=.string s,val:=.bool true}:MapEntry).key=e'.key:=fun e' he'=>by rw[hj]at he';cases he';exact h3.symm
  have hmk:=modify_keys (es:=es) j (fun e=>{e with key:=.string s,val:=.bool true}) aAy;have xG:∀s',(∃x∈(es.modify j fun e=>{e with key:=.string s,val:=.bool true}).toList,x.key=.string s')↔∃x∈es.toList,x.key=.string s':=fun s'=>by
   have:∀l:List MapEntry,(∃x∈l,x.key=.string s')↔(.string s':Value)∈l.map (·.key):=fun l=>by simp
   rw[this,this,hmk]
  refine⟨_,by simp[Instr.mapUpdate,run_underlying hm,run_getObj_map hb,run_checkKey hd yQ,run_findKey hd h1,hj,h3,run_keyThatStays yQ,run_setObj_map _ hb,Result.andThen];rfl,⟨_,_,(heap_set hb).1,fun x hm=>?_,fun s'=>?_⟩,OF _⟩
  ·obtain⟨i,hi⟩:=List.getElem?_of_mem hm
   rw[Array.getElem?_toList,Array.getElem?_modify]at hi;split at hi
   ·cases N6:es[i]? with
    |none=>rw[N6]at hi;cases hi
    |some e'=>rw[N6]at hi;injection hi with hi;subst hi;exact⟨s,rfl,rfl⟩
   ·exact hx x (Array.mem_toList_iff.2 (Array.mem_of_getElem? hi))
  ·rw[xG,hk,List.mem_cons]
   refine⟨.inr,fun h=>h.elim (fun e=>?_) id⟩;subst e;exact(hk s').1 ⟨e,Array.mem_toList_iff.2 (Array.mem_of_getElem? hj),h3⟩
theorem KeyW.look{P:Program}{mty kt et:TypeId}{w0 w:World}{r:Nat}{ks:List ByteArray}(hm:P.underlying mty=some (.map kt et))(hd:P.underlying kt=some .string)(hz:(zeroValue et).run P w=.ok (.bool false) w)(h:KeyW w0 w r ks)(s:ByteArray):
  ∃b:Bool,(Instr.lookup mty (.map (some r)) (.string s) false).run P w=.ok (.bool b) w∧(b=true↔s∈ks):=by
 obtain⟨⟨es,clock,hb,hx,hk⟩,hB⟩:=h;have Gq:∀x∈es.toList,IsKey .string x.key:=fun x hm=>by obtain⟨s',e,_⟩:=hx x hm;rw[e];trivial
 have yQ:IsKey .string (.string s):=trivial;rcases findNow_spec yQ es.toList 0 Gq with⟨h1,h2⟩|⟨j,e,h1,h2,h3⟩
 ·refine⟨false,by simp[Instr.lookup,run_underlying hm,run_getObj_map hb,run_checkKey hd yQ,run_findKey hd h1,hz,Result.andThen],⟨(fun h=>by cases h),fun h=>?_⟩⟩
  obtain⟨x,h4,h5⟩:=(hk s).2 h;exact absurd h5 (h2 x h4)
 ·have AK:e∈es.toList:=List.mem_of_getElem? h2
  obtain⟨s',e1,e2⟩:=hx e AK;refine⟨true,by simp[Instr.lookup,run_underlying hm,run_getObj_map hb,run_checkKey hd yQ,run_findKey hd h1,e2,Result.andThen],⟨fun _=>(hk s).1 ⟨e,AK,h3⟩,fun _=>rfl⟩⟩
section
variable{P:Program}{ops:Array Oper}{rest:List Oper}{o:Oper}{a:Act}{w0 w:World}{Q:Exit->Act->World->Prop}
theorem CC(hg:o.guard=none)(t:TypeId)(fY:o.op=Op.makeMap t none)(hK:∀w',KeyW w w' w.heap.size []->wpList P ops Q rest (a.put o.dst (.map (some w.heap.size))) w'):wpList P ops Q (o::rest) a w:=by
 refine wpList_plain hg fun K' Fv=>?_
 unfold Oper.wp;simp[execOp,fY,run_makeMap,Result.andThen];exact Fv _ _ (hK _ (KeyW.made w))
theorem T6(hg:o.guard=none)(t:TypeId)(m x v:Operand)(fY:o.op=Op.insert t m x v)(k e:TypeId)(ht:P.underlying t=some (.map k e))(hd:P.underlying k=some .string)(r:Nat)(hm:a.eval m=.map (some r))(s:ByteArray)(hx:a.eval x=.string s)(hv:a.eval v=.bool true)
  {ks:List ByteArray} (h:KeyW w0 w r ks) (hK:∀w',KeyW w0 w' r (s::ks)->wpList P ops Q rest (a.put o.dst undef) w'):wpList P ops Q (o::rest) a w:=by
 refine wpList_plain hg fun K' Fv=>?_
 obtain⟨w',OE,hw⟩:=h.insert ht hd s;unfold Oper.wp;simp[execOp,fY,hm,hx,hv,OE,Result.andThen];exact Fv _ _ (hK w' hw)
theorem D6(hg:o.guard=none)(t:TypeId)(m x:Operand)(fY:o.op=Op.lookup t m x false)(k e:TypeId)(ht:P.underlying t=some (.map k e))(hd:P.underlying k=some .string)(hz:(zeroValue e).run P w=.ok (.bool false) w)(r:Nat)(hm:a.eval m=.map (some r))(s:ByteArray)(hx:a.eval x=.string s)
  {ks:List ByteArray} (h:KeyW w0 w r ks) (hK:∀b:Bool,(b=true↔s∈ks)->wpList P ops Q rest (a.put o.dst (.bool b)) w):wpList P ops Q (o::rest) a w:=by
 refine wpList_plain hg fun K' Fv=>?_
 obtain⟨b,OE,hb⟩:=h.look ht hd hz s;unfold Oper.wp;simp[execOp,fY,hm,hx,OE,Result.andThen];exact Fv _ _ (hK b hb)
end
end Bk
