/- Part of the proof. -/
import Derived.Test.YtakfdnnlhjhcfaaGreatDoorA41
set_option linter.unusedVariables false
set_option linter.unusedSimpArgs false
set_option maxRecDepth 100000
set_option maxHeartbeats 4000000
namespace Bk
open Go Go.RowKit Go.MapKept
def Hy:ByteArray:=⟨#[105,110,116,32,120,10,109,97,105,110,32,123,10,120,32,43,61,32,51,59,10,125,10]⟩
def wU(j:Nat):Nat:= [0,3,4,5,6,10,11,12,13,14,15,17,18,19,20,21,22,23].getD j 0
def szT(j:Nat):Nat:= [3,1,1,1,4,1,1,1,1,1,2,1,1,1,1,1,1].getD j 0
def kdT(j:Nat):Int:= [1,4,1,4,1,4,3,4,1,4,3,4,2,3,4,3,4].getD j 0
theorem MapB.insert{P:Program}{mty kt et:TypeId}{w:World}{r:Nat}(hm:P.underlying mty=some (.map kt et))(hd:P.underlying kt=some .string)(h:MapB w r)(s:ByteArray)(hs:s≠⟨#[59]⟩)(v:Value):
  ∃w',(Instr.mapUpdate mty (.map (some r)) (.string s) v).run P w=.ok () w'∧MapB w' r∧Fr (· =r) w w':=by
 obtain⟨es,clock,hb,hx⟩:=h;have Gq:∀x∈es.toList,IsKey .string x.key:=fun x hm=>by obtain⟨s',e,_⟩:=hx x hm;rw[e];trivial
 have yQ:IsKey .string (.string s):=trivial;have OF:∀o,Fr (· =r) w {w with heap:=w.heap.setIfInBounds r o}:=fun o=>⟨rfl,rfl,rfl,by simp,fun k _ hk=>(heap_set (o':=o) hb).2 k hk⟩
 rcases findNow_spec yQ es.toList 0 Gq with⟨h1,h2⟩|⟨j,e,h1,h2,h3⟩
 ·refine⟨_,by simp[Instr.mapUpdate,run_underlying hm,run_getObj_map hb,run_checkKey hd yQ,run_findKey hd h1,run_setObj_map _ hb,Result.andThen];rfl,⟨_,_,(heap_set hb).1,fun x hm=>?_⟩,OF _⟩
  simp only[Array.toList_push,List.mem_append,List.mem_singleton]at hm;rcases hm with hm|rfl
  ·exact hx x hm
  ·exact⟨s,rfl,hs⟩
 ·have hj:es[j]?=some e:=by simpa using h2
  refine⟨_,by simp[Instr.mapUpdate,run_underlying hm,run_getObj_map hb,run_checkKey hd yQ,run_findKey hd h1,hj,h3,run_keyThatStays yQ,run_setObj_map _ hb,Result.andThen];rfl,⟨_,_,(heap_set hb).1,fun x hm=>?_⟩,OF _⟩;obtain⟨i,hi⟩:=List.getElem?_of_mem hm;rw[Array.getElem?_toList,Array.getElem?_modify]at hi;split at hi
  ·cases N6:es[i]? with
   |none=>rw[N6]at hi;cases hi
   |some e'=>rw[N6]at hi;injection hi with hi;subst hi;exact⟨s,rfl,hs⟩
  ·exact hx x (Array.mem_toList_iff.2 (Array.mem_of_getElem? hi))
theorem XO{P:Program}{o:Oper}{a:Act}{w:World}{K:Act->World->Prop}{Q:Exit->Act->World->Prop}(t:TypeId)(m x v:Operand)(fY:o.op=Op.mapUpdate t m x v)(k e:TypeId)(ht:P.underlying t=some (.map k e))(hd:P.underlying k=some .string)(r:Nat)(hm:a.eval m=.map (some r))(s:ByteArray)(hx:a.eval x=.string s)(val:Value)(hv:a.eval v=val)(hs:s≠⟨#[59]⟩)(h:MapB w r)
  (hK:∀w',MapB w' r->Fr (· =r) w w'->K (a.put o.dst undef) w'):o.wp P a w K Q:=by
 obtain⟨w',OE,h1,h2⟩:=h.insert ht hd s hs val;unfold Oper.wp;simp[execOp,fY,hm,hx,hv,OE,Result.andThen];exact hK _ h1 h2
theorem BZ{P:Program}{ops:Array Oper}{rest:List Oper}{o:Oper}{a:Act}{w:World}{Q:Exit->Act->World->Prop}(hg:o.guard=none)(t:TypeId)(fY:o.op=Op.makeMap t none)(hK:wpList P ops Q rest (a.put o.dst (.map (some w.heap.size))) (w.alloc (.map #[] 0))):wpList P ops Q (o::rest) a w:=by
 refine wpList_plain hg fun K' Fv=>?_
 unfold Oper.wp;simp[execOp,fY,run_makeMap,Result.andThen];exact Fv _ _ hK
def SymAt(w:World):Prop:=∀k:Nat,8<=k->k<=23->∃s,w.cell? ⟨0,k,none⟩=some (.string s)∧s≠⟨#[59]⟩
theorem SymAt.lt{w:World}(h:SymAt w):0<w.heap.size:=by
 obtain⟨s,h1,_⟩:=h 8 (by decide) (by decide);exact World.block_lt_of_cell? w ⟨0,8,none⟩ h1
theorem SymAt.fr{w w':World}{O:Nat->Prop}(h:SymAt w)(hf:Fr O w w')(hO:¬O 0):SymAt w':=fun k h1 h2=>by
 obtain⟨s,h3,h4⟩:=h k h1 h2;exact⟨s,(hf.cell h.lt hO k).trans h3,h4⟩
theorem SymAt.next{w w':World}(h:SymAt w)(hb:Below w.heap.size w w'):SymAt w':=fun k h1 h2=>by
 obtain⟨s,h3,h4⟩:=h k h1 h2;exact⟨s,(hb.cell (p:=⟨0,k,none⟩) h.lt).trans h3,h4⟩
end Bk
namespace Go.Proofs.YtakfdnnlhjhcfaaGreatDoor
open Go.RowKit Bk
theorem Er(w:World):Calls Tryz.prog 51 #[.string (⟨#[105,110,116,32,120,10,109,97,105,110,32,123,10,120,32,43,61,32,51,59,10,125,10]⟩)] w fun e w'=>e=.returned (.tuple #[.int .u8 1,.int .i64 3])∧w'=w:=
 qC (⟨#[105,110,116,32,120,10,109,97,105,110,32,123,10,120,32,43,61,32,51,59,10,125,10]⟩) (by decide+kernel) 3 (by decide+kernel) (fun w=>fP 86 (fun c=>(decide (97<=c)&&decide (c<=122))||(decide (48<=c)&&decide (c<=57))) (fun _ _=>rfl) vF (⟨#[105,110,116,32,120,10,109,97,105,110,32,123,10,120,32,43,61,32,51,59,10,125,10]⟩) (by decide+kernel) 3 (by decide+kernel) (by decide+kernel) (by decide+kernel) w) w
theorem Es(w:World):Calls Tryz.prog 51 #[.string (⟨#[32,120,10,109,97,105,110,32,123,10,120,32,43,61,32,51,59,10,125,10]⟩)] w fun e w'=>e=.returned (.tuple #[.int .u8 4,.int .i64 1])∧w'=w:=
 hZ (⟨#[32,120,10,109,97,105,110,32,123,10,120,32,43,61,32,51,59,10,125,10]⟩) (by decide+kernel) 1 (by decide+kernel) (by decide+kernel) (by decide+kernel) (fun w=>fP 88 (fun c=>c==32||c==9||c==13||c==10) (fun _ _=>rfl) fW (⟨#[32,120,10,109,97,105,110,32,123,10,120,32,43,61,32,51,59,10,125,10]⟩) (by decide+kernel) 1 (by decide+kernel) (by decide+kernel) (by decide+kernel) w) w
theorem Et(w:World):Calls Tryz.prog 51 #[.string (⟨#[120,10,109,97,105,110,32,123,10,120,32,43,61,32,51,59,10,125,10]⟩)] w fun e w'=>e=.returned (.tuple #[.int .u8 1,.int .i64 1])∧w'=w:=
 qC (⟨#[120,10,109,97,105,110,32,123,10,120,32,43,61,32,51,59,10,125,10]⟩) (by decide+kernel) 1 (by decide+kernel) (fun w=>fP 86 (fun c=>(decide (97<=c)&&decide (c<=122))||(decide (48<=c)&&decide (c<=57))) (fun _ _=>rfl) vF (⟨#[120,10,109,97,105,110,32,123,10,120,32,43,61,32,51,59,10,125,10]⟩) (by decide+kernel) 1 (by decide+kernel) (by decide+kernel) (by decide+kernel) w) w
theorem Eu(w:World):Calls Tryz.prog 51 #[.string (⟨#[10,109,97,105,110,32,123,10,120,32,43,61,32,51,59,10,125,10]⟩)] w fun e w'=>e=.returned (.tuple #[.int .u8 4,.int .i64 1])∧w'=w:=
 hZ (⟨#[10,109,97,105,110,32,123,10,120,32,43,61,32,51,59,10,125,10]⟩) (by decide+kernel) 1 (by decide+kernel) (by decide+kernel) (by decide+kernel) (fun w=>fP 88 (fun c=>c==32||c==9||c==13||c==10) (fun _ _=>rfl) fW (⟨#[10,109,97,105,110,32,123,10,120,32,43,61,32,51,59,10,125,10]⟩) (by decide+kernel) 1 (by decide+kernel) (by decide+kernel) (by decide+kernel) w) w
theorem Ev(w:World):Calls Tryz.prog 51 #[.string (⟨#[109,97,105,110,32,123,10,120,32,43,61,32,51,59,10,125,10]⟩)] w fun e w'=>e=.returned (.tuple #[.int .u8 1,.int .i64 4])∧w'=w:=
 qC (⟨#[109,97,105,110,32,123,10,120,32,43,61,32,51,59,10,125,10]⟩) (by decide+kernel) 4 (by decide+kernel) (fun w=>fP 86 (fun c=>(decide (97<=c)&&decide (c<=122))||(decide (48<=c)&&decide (c<=57))) (fun _ _=>rfl) vF (⟨#[109,97,105,110,32,123,10,120,32,43,61,32,51,59,10,125,10]⟩) (by decide+kernel) 4 (by decide+kernel) (by decide+kernel) (by decide+kernel) w) w
theorem Ew(w:World):Calls Tryz.prog 51 #[.string (⟨#[32,123,10,120,32,43,61,32,51,59,10,125,10]⟩)] w fun e w'=>e=.returned (.tuple #[.int .u8 4,.int .i64 1])∧w'=w:=
 hZ (⟨#[32,123,10,120,32,43,61,32,51,59,10,125,10]⟩) (by decide+kernel) 1 (by decide+kernel) (by decide+kernel) (by decide+kernel) (fun w=>fP 88 (fun c=>c==32||c==9||c==13||c==10) (fun _ _=>rfl) fW (⟨#[32,123,10,120,32,43,61,32,51,59,10,125,10]⟩) (by decide+kernel) 1 (by decide+kernel) (by decide+kernel) (by decide+kernel) w) w
theorem Ey(w:World):Calls Tryz.prog 51 #[.string (⟨#[123,10,120,32,43,61,32,51,59,10,125,10]⟩)] w fun e w'=>e=.returned (.tuple #[.int .u8 3,.int .i64 1])∧w'=w:=
 qB (⟨#[123,10,120,32,43,61,32,51,59,10,125,10]⟩) (by decide+kernel) 1 (by decide+kernel) (by decide+kernel) (by decide+kernel) (by decide+kernel) (fun w=>A7 (⟨#[123,10,120,32,43,61,32,51,59,10,125,10]⟩) (⟨#[123,10]⟩) (by decide+kernel) (by decide+kernel) 2 (by decide+kernel) (by kernel_rfl) (by decide+kernel) (by decide+kernel) (by decide+kernel) (by decide+kernel) (by decide+kernel) (by decide+kernel) (by decide+kernel) (by decide+kernel) (by decide+kernel) (by decide+kernel) (by decide+kernel) w) w
theorem Ez(w:World):Calls Tryz.prog 51 #[.string (⟨#[10,120,32,43,61,32,51,59,10,125,10]⟩)] w fun e w'=>e=.returned (.tuple #[.int .u8 4,.int .i64 1])∧w'=w:=
 hZ (⟨#[10,120,32,43,61,32,51,59,10,125,10]⟩) (by decide+kernel) 1 (by decide+kernel) (by decide+kernel) (by decide+kernel) (fun w=>fP 88 (fun c=>c==32||c==9||c==13||c==10) (fun _ _=>rfl) fW (⟨#[10,120,32,43,61,32,51,59,10,125,10]⟩) (by decide+kernel) 1 (by decide+kernel) (by decide+kernel) (by decide+kernel) w) w
theorem Fa(w:World):Calls Tryz.prog 51 #[.string (⟨#[120,32,43,61,32,51,59,10,125,10]⟩)] w fun e w'=>e=.returned (.tuple #[.int .u8 1,.int .i64 1])∧w'=w:=
 qC (⟨#[120,32,43,61,32,51,59,10,125,10]⟩) (by decide+kernel) 1 (by decide+kernel) (fun w=>fP 86 (fun c=>(decide (97<=c)&&decide (c<=122))||(decide (48<=c)&&decide (c<=57))) (fun _ _=>rfl) vF (⟨#[120,32,43,61,32,51,59,10,125,10]⟩) (by decide+kernel) 1 (by decide+kernel) (by decide+kernel) (by decide+kernel) w) w
theorem Fb(w:World):Calls Tryz.prog 51 #[.string (⟨#[32,43,61,32,51,59,10,125,10]⟩)] w fun e w'=>e=.returned (.tuple #[.int .u8 4,.int .i64 1])∧w'=w:=
 hZ (⟨#[32,43,61,32,51,59,10,125,10]⟩) (by decide+kernel) 1 (by decide+kernel) (by decide+kernel) (by decide+kernel) (fun w=>fP 88 (fun c=>c==32||c==9||c==13||c==10) (fun _ _=>rfl) fW (⟨#[32,43,61,32,51,59,10,125,10]⟩) (by decide+kernel) 1 (by decide+kernel) (by decide+kernel) (by decide+kernel) w) w
theorem UQ(w:World):Calls Tryz.prog 51 #[.string (⟨#[43,61,32,51,59,10,125,10]⟩)] w fun e w'=>e=.returned (.tuple #[.int .u8 3,.int .i64 2])∧w'=w:=
 qB (⟨#[43,61,32,51,59,10,125,10]⟩) (by decide+kernel) 2 (by decide+kernel) (by decide+kernel) (by decide+kernel) (by decide+kernel) (fun w=>VD (⟨#[43,61,32,51,59,10,125,10]⟩) (⟨#[43,61]⟩) (by decide+kernel) (by decide+kernel) 2 (by decide+kernel) (by kernel_rfl) (by decide+kernel) (by decide+kernel) w) w
theorem UR(w:World):Calls Tryz.prog 51 #[.string (⟨#[32,51,59,10,125,10]⟩)] w fun e w'=>e=.returned (.tuple #[.int .u8 4,.int .i64 1])∧w'=w:=
 hZ (⟨#[32,51,59,10,125,10]⟩) (by decide+kernel) 1 (by decide+kernel) (by decide+kernel) (by decide+kernel) (fun w=>fP 88 (fun c=>c==32||c==9||c==13||c==10) (fun _ _=>rfl) fW (⟨#[32,51,59,10,125,10]⟩) (by decide+kernel) 1 (by decide+kernel) (by decide+kernel) (by decide+kernel) w) w
theorem US(w:World):Calls Tryz.prog 51 #[.string (⟨#[51,59,10,125,10]⟩)] w fun e w'=>e=.returned (.tuple #[.int .u8 2,.int .i64 1])∧w'=w:=
 MG (⟨#[51,59,10,125,10]⟩) (by decide+kernel) 1 (by decide+kernel) (by decide+kernel) (fun w=>fP 87 (fun c=>decide (48<=c)&&decide (c<=57)) (fun _ _=>rfl) jO (⟨#[51,59,10,125,10]⟩) (by decide+kernel) 1 (by decide+kernel) (by decide+kernel) (by decide+kernel) w) w
theorem UT(w:World):Calls Tryz.prog 51 #[.string (⟨#[59,10,125,10]⟩)] w fun e w'=>e=.returned (.tuple #[.int .u8 3,.int .i64 1])∧w'=w:=
 qB (⟨#[59,10,125,10]⟩) (by decide+kernel) 1 (by decide+kernel) (by decide+kernel) (by decide+kernel) (by decide+kernel) (fun w=>A7 (⟨#[59,10,125,10]⟩) (⟨#[59,10]⟩) (by decide+kernel) (by decide+kernel) 2 (by decide+kernel) (by kernel_rfl) (by decide+kernel) (by decide+kernel) (by decide+kernel) (by decide+kernel) (by decide+kernel) (by decide+kernel) (by decide+kernel) (by decide+kernel) (by decide+kernel) (by decide+kernel) (by decide+kernel) w) w
theorem UU(w:World):Calls Tryz.prog 51 #[.string (⟨#[10,125,10]⟩)] w fun e w'=>e=.returned (.tuple #[.int .u8 4,.int .i64 1])∧w'=w:=
 hZ (⟨#[10,125,10]⟩) (by decide+kernel) 1 (by decide+kernel) (by decide+kernel) (by decide+kernel) (fun w=>fP 88 (fun c=>c==32||c==9||c==13||c==10) (fun _ _=>rfl) fW (⟨#[10,125,10]⟩) (by decide+kernel) 1 (by decide+kernel) (by decide+kernel) (by decide+kernel) w) w
theorem UV(w:World):Calls Tryz.prog 51 #[.string (⟨#[125,10]⟩)] w fun e w'=>e=.returned (.tuple #[.int .u8 3,.int .i64 1])∧w'=w:=
 qB (⟨#[125,10]⟩) (by decide+kernel) 1 (by decide+kernel) (by decide+kernel) (by decide+kernel) (by decide+kernel) (fun w=>A7 (⟨#[125,10]⟩) (⟨#[125,10]⟩) (by decide+kernel) (by decide+kernel) 2 (by decide+kernel) (by kernel_rfl) (by decide+kernel) (by decide+kernel) (by decide+kernel) (by decide+kernel) (by decide+kernel) (by decide+kernel) (by decide+kernel) (by decide+kernel) (by decide+kernel) (by decide+kernel) (by decide+kernel) w) w
theorem UW(w:World):Calls Tryz.prog 51 #[.string (⟨#[10]⟩)] w fun e w'=>e=.returned (.tuple #[.int .u8 4,.int .i64 1])∧w'=w:=
 hZ (⟨#[10]⟩) (by decide+kernel) 1 (by decide+kernel) (by decide+kernel) (by decide+kernel) (fun w=>fP 88 (fun c=>c==32||c==9||c==13||c==10) (fun _ _=>rfl) fW (⟨#[10]⟩) (by decide+kernel) 1 (by decide+kernel) (by decide+kernel) (by decide+kernel) w) w
theorem Fc:∀j,j<17->∀w,Calls Tryz.prog 51 #[.string (Hy.extract (wU j) Hy.size)] w fun e w'=>e=.returned (.tuple #[.int .u8 (kdT j),.int .i64 (szT j)])∧w'=w:=by
 intro j hj w
 match j,hj with
 |0,_=>rw[show Hy.extract (wU 0) Hy.size=⟨#[105,110,116,32,120,10,109,97,105,110,32,123,10,120,32,43,61,32,51,59,10,125,10]⟩from by kernel_rfl];exact Er w
 |1,_=>rw[show Hy.extract (wU 1) Hy.size=⟨#[32,120,10,109,97,105,110,32,123,10,120,32,43,61,32,51,59,10,125,10]⟩from by kernel_rfl];exact Es w
 |2,_=>rw[show Hy.extract (wU 2) Hy.size=⟨#[120,10,109,97,105,110,32,123,10,120,32,43,61,32,51,59,10,125,10]⟩from by kernel_rfl];exact Et w
 |3,_=>rw[show Hy.extract (wU 3) Hy.size=⟨#[10,109,97,105,110,32,123,10,120,32,43,61,32,51,59,10,125,10]⟩from by kernel_rfl];exact Eu w
 |4,_=>rw[show Hy.extract (wU 4) Hy.size=⟨#[109,97,105,110,32,123,10,120,32,43,61,32,51,59,10,125,10]⟩from by kernel_rfl];exact Ev w
 |5,_=>rw[show Hy.extract (wU 5) Hy.size=⟨#[32,123,10,120,32,43,61,32,51,59,10,125,10]⟩from by kernel_rfl];exact Ew w
 |6,_=>rw[show Hy.extract (wU 6) Hy.size=⟨#[123,10,120,32,43,61,32,51,59,10,125,10]⟩from by kernel_rfl];exact Ey w
 |7,_=>rw[show Hy.extract (wU 7) Hy.size=⟨#[10,120,32,43,61,32,51,59,10,125,10]⟩from by kernel_rfl];exact Ez w
 |8,_=>rw[show Hy.extract (wU 8) Hy.size=⟨#[120,32,43,61,32,51,59,10,125,10]⟩from by kernel_rfl];exact Fa w
 |9,_=>rw[show Hy.extract (wU 9) Hy.size=⟨#[32,43,61,32,51,59,10,125,10]⟩from by kernel_rfl];exact Fb w
 |10,_=>rw[show Hy.extract (wU 10) Hy.size=⟨#[43,61,32,51,59,10,125,10]⟩from by kernel_rfl];exact UQ w
 |11,_=>rw[show Hy.extract (wU 11) Hy.size=⟨#[32,51,59,10,125,10]⟩from by kernel_rfl];exact UR w
 |12,_=>rw[show Hy.extract (wU 12) Hy.size=⟨#[51,59,10,125,10]⟩from by kernel_rfl];exact US w
 |13,_=>rw[show Hy.extract (wU 13) Hy.size=⟨#[59,10,125,10]⟩from by kernel_rfl];exact UT w
 |14,_=>rw[show Hy.extract (wU 14) Hy.size=⟨#[10,125,10]⟩from by kernel_rfl];exact UU w
 |15,_=>rw[show Hy.extract (wU 15) Hy.size=⟨#[125,10]⟩from by kernel_rfl];exact UV w
 |16,_=>rw[show Hy.extract (wU 16) Hy.size=⟨#[10]⟩from by kernel_rfl];exact UW w
 |n+17,h=>exact absurd h (by omega)
theorem OM:(Tryz.prog.info? 5).map (fun i=>(i.zero,i.size,i.bytes))=some (some (.int .u8 0),1,1):=by kernel_rfl
def ZU(j:Nat):List Value:=(List.range j).map fun i=>.int .u8 (((8+i:Nat)):Int)
theorem OV(j:Nat):ZU (j+1)=ZU j++ [.int .u8 (((8+j:Nat)):Int)]:=by unfold ZU;rw[List.range_succ];simp
theorem L7(w:World):Calls Tryz.prog 73 #[] w fun e w'=>(∃v,e=.returned v∧w'.ownsRow w.heap.size 5 1 v 16 (ZU 16))∧Below w.heap.size w w':=by
 obtain⟨i3,li,lz,ls,lb⟩:=info_parts OM;have HI:=aA li;have HZ:=aA lz;have lI:=aA ls;have jY:=aA lb;clear li lz ls lb;go_enter Tryz.func73,Tryz.ntmps73;go_upto_region 3 with fail
 go_loopw [1,2] (fun v1 v2 wr=>∃(j:Nat),j<=16∧v2=.int .u8 (((8+j:Nat)):Int)∧wr.ownsRow w.heap.size 5 1 v1 j (ZU j)∧Below w.heap.size w wr) (fun _ v _=>24-(intOf v).toNat)
 case atStart=>exact⟨0,fI _,rfl,World.ownsRow_nil _ _ _ _,aM _ _⟩
 case round=>
  obtain⟨j,hj,rfl,bB,cF⟩:=hrel;have HO:=aA bB;have cG:=aA cF;obtain⟨At,ct,rfl⟩:=aI bB;clear bB cF;have wT:=cG.out.size;rcases Nat.lt_or_ge j 16 with e9|e9
  ·have a1:(((8+j:Nat)):Int)<=23:=by omega
   have a2:(0:Int)<=(((8+j:Nat)):Int):=by omega
   obtain⟨z,hz⟩:∃z:Nat,8+j=z:=⟨_,rfl⟩;have HZJ:=aA hz;rw[hz]at a1 a2⊢;clear hz;go_wp2_with (at_builtin;refine dF rfl (.tmp 7) (.tmp 9) 52 rfl w.heap.size 5 i3 _ 1 1 Tryz.underlying52 HI.out HZ.out lI.out jY.out rfl (by decide) (.slice At j ct) j (ZU j) rfl (HO.out.alloc _) rfl (oB (Blk.new _ _ _)) (by intro u hu;simp at hu;subst hu;rfl) (by unfold maxLen;omega) (by omega) (by simp;omega) ?_);intro v2 w2 bB eH nS;have lY:=aA bB;have hb2:Below w.heap.size w w2:=(cG.out.alloc wT _).grown eH (by simp;omega) (by intro k hk;exact(bH HO.out hk).1);have aP:=aA hb2;clear bB eH nS hb2;go_wp2_with fail;refine⟨⟨j+1,by omega,?_,?_,aP.out⟩,?_⟩
   ·rw[show 8+(j+1)=z+1 by have:=HZJ.out;omega];go_num
   ·rw[OV,HZJ.out];exact lY.out
   ·simp[intOf];omega
  ·obtain rfl:j=16:=by omega
   go_wp2_with fail;go_ret;exact⟨⟨_,rfl,HO.out⟩,cG.out⟩
theorem LV{w:World}(h:SymAt w)(op:Nat)(h8:8<=op)(Pa:op<=23):Calls Tryz.prog 74 #[.int .u8 (op:Int)] w fun e w'=>(∃s,e=.returned (.string s)∧s≠⟨#[59]⟩)∧Below w.heap.size w w':=by
 obtain⟨s,h1,h2⟩:=h op h8 Pa;have H2:=aA h2;have a0:(0:Int)<=(op:Int):=by omega
 have a1:(op:Int)<43:=by omega
 clear h h2;go_enter Tryz.func74,Tryz.ntmps74;go_wp2_with fail;go_ret;exact⟨⟨s,rfl,H2.out⟩,by go_grown⟩
theorem Hu:(((List.range 17).map fun i=>(kdT i,Hy.extract (wU i) (wU i+szT i),(wU i:Int))).filter kB)=BV:=by kernel_rfl
theorem WP(j:Nat)(h:j<16):(ZU 16)[j]?=some (.int .u8 (((8+j:Nat)):Int)):=by unfold ZU;simp[h]
theorem BN{w:World}{base n size:Nat}{e:TypeId}{v:Value}{xs:List Value}(h:w.ownsRow base e size v n xs)(hn:0<n):∃g c,v=.slice (some ⟨g,0,none⟩) n c∧base<=g∧g<w.heap.size∧n<=c∧∀j u,xs[j]?=some u->w.cell? ⟨g,j,none⟩=some u:=by
 rcases h.2 with⟨_,h0⟩|⟨g,cap,cur,rfl,hg,hh,h1,h2,h3,h4⟩
 ·omega
 ·refine⟨g,cap,rfl,hg,Blk.lt (cs:=cur) hh,h1,fun j u hu=>?_⟩
  have hb:Blk w g e cur:=hh;rw[hb.cell];have hj:j<xs.length:=(lgS.1 hu).1;rw[<-h4,List.getElem?_take,if_pos (by rw[<-h.1];exact hj)]at hu;simpa using hu
theorem VJ{w:World}(P1:SymAt w):Calls Tryz.prog 47 #[.string Hy] w fun e w'=>(∃b g c r,e=.returned (.pointer (some ⟨b,0,none⟩))∧PT w' b g c r 0∧w.heap.size<=b)∧Below w.heap.size w w':=by
 have QU:=aA P1;have Xn:=aA (Ob Hy (by decide+kernel) 17 (by decide) wU szT kdT (by decide+kernel) (by decide+kernel) (by decide+kernel) Fc w);obtain⟨tx,htx⟩:∃t,Hy=t:=⟨_,rfl⟩;have hts:(tx.size:Int)=23:=by rw[<-htx];decide+kernel
 rw[htx]at Xn⊢;clear P1;go_enter Tryz.func47,Tryz.ntmps47;go_wp2_with fail;refine Xn.out.mono ?_;rintro en w1 ⟨⟨v1,rfl,DM⟩,aG⟩;rw[<-htx]at DM;have zJ:=aA DM;have aO:=aA aG;obtain⟨A1,c1,rfl⟩:=aI DM;clear DM aG Xn;go_wp2_with fail;refine(UC _ (by simp) (by decide) ((Sl.of_own zJ.out).keep (fun _ _ _=>rfl) (fun k hk=>hk.2))).mono ?_;rintro en w2 ⟨⟨v2,rfl,O5⟩,hb2⟩;rw[Hu]at O5;replace O5:w2.ownsRow w1.heap.size 142 3 v2 9 (nA BV):=O5;have aP:=aA (aO.out.next hb2);obtain⟨g,c,rfl,hg1,QW,jM,hcl⟩:=BN O5 (by decide);have iK:=aA hcl;have OL:=aO.out.size;clear O5 hb2 hcl;go_upto_region 3 with(refine BZ rfl 100 rfl ?_);refine aB ?_;intro w3 dP;obtain⟨r,hr⟩:∃r,w2.heap.size=r:=⟨_,rfl⟩;have aT:Below w2.heap.size w2 w3:=by rw[dP];exact((aM _ _).alloc (aH _) _).alloc (by simp) _
 have KB:Blk w3 (r+1) 102 #[.slice (some ⟨g,0,none⟩) 9 c,.int .i64 0,.int .i64 23,.map (some r),.int .i64 0,.int .i64 0]:=by rw[dP,<-hr];exact Blk.new' (by simp) _ _
 have hm:MapB (w2.alloc (.map #[] 0)) w2.heap.size:=⟨#[],0,(Go.MapKept.heap_alloc w2 _).1,fun x hx=>by simp at hx⟩;have Xq:Hid (MapB w3 r):=aA (by rw[dP,<-hr];exact hm.keep (((aM (w2.alloc (.map #[] 0)).heap.size (w2.alloc (.map #[] 0))).alloc (aH _) _).block _ (by simp)));have aAU:=aA KB;have aA0:r+1<w3.heap.size:=KB.lt;have bD:=aA (aP.out.next aT);have Zc:=aA (QU.out.next bD.out);have Uc:Hid (∀j t,BV[j]?=some t->w3.cell? ⟨g,j*3,none⟩=some (.int .u8 t.1)∧w3.cell? ⟨g,j*3+1,none⟩=some (.string t.2.1)∧w3.cell? ⟨g,j*3+2,none⟩=some (.int .i64 t.2.2)):=aA fun j t ht=>by
  obtain⟨p0,p1,p2⟩:=T2 BV j t ht;exact⟨(aT.cell (p:=⟨g,j*3,none⟩) QW).trans (iK.out _ _ p0),(aT.cell (p:=⟨g,j*3+1,none⟩) QW).trans (iK.out _ _ p1),(aT.cell (p:=⟨g,j*3+2,none⟩) QW).trans (iK.out _ _ p2)⟩
 have H3:Hid (PA w3 (r+1) g 9 0 c (.map (some r)) BV 23):=aA ⟨KB,Uc.out,rfl,by omega,by omega,jM,by decide⟩;have hrw:w.heap.size<=r:=by have:=aP.out.size;omega
 have Ut:0<w.heap.size:=QU.out.lt;rw[hr]at QW⊢;clear dP aT KB Uc hm;go_wp2_with fail;refine(L7 w3).mono ?_;rintro en w4 ⟨⟨vo,rfl,ZL⟩,bV⟩;obtain⟨go,co,rfl,ho1,DK,Vb,Re⟩:=BN ZL (by decide);have Cl:=aA Re;have Xr:=aA (Xq.out.keep (bV.block r (by omega)));have H4:=aA (H3.out.next bV);have Zd:=aA (Zc.out.next bV);have dQ:=aA (bD.out.next bV);have hz4:=bV.size;clear ZL bV Re;go_upto_region 4 with fail
 go_loopw [26] (fun v26 wr=>∃(j:Nat),j<=16∧v26=.int .i64 j∧MapB wr r∧Fr (· =r) w4 wr) (fun v _=>16-(intOf v).toNat)
 case atStart=>exact⟨0,fI _,rfl,Xr.out,Fr.refl _ _⟩
 case round=>
  obtain⟨j,hj,rfl,Uy,gD⟩:=hrel;have HMR:=aA Uy;have s8:=aA gD;have wT:=gD.size;clear Uy gD;rcases Nat.lt_or_ge j 16 with e9|e9
  ·have j0:(0:Int)<=(j:Int):=by omega
   have j1:(j:Int)<16:=by omega
   have d0:wr.cell? ⟨go,j,none⟩=some (.int .u8 (((8+j:Nat)):Int)):=(s8.out.cell DK (by omega) j).trans (Cl.out _ _ (WP j e9));go_upto_region 6 with fail;refine aB ?_;intro w6 hw6;have mC:Below wr.heap.size wr w6:=by rw[hw6];go_grown
   have kD:=aA mC;have Xs:=aA (HMR.out.keep (mC.block r (by omega)));have Ze:=aA ((Zd.out.fr s8.out (by omega)).next mC);have mG:=aA ((s8.out.blk H4.out.blk (by omega)).next mC);have aAF:r<w6.heap.size:=by have:=mC.size;omega
   have cF:r+1≠r:=by omega
   clear hw6 mC d0;refine wp_region_held_drew (S:=fun W=>Fr (· =r) w6 W) (by kernel_rfl) ((Fr.refl _ _).drew) (fun hH=>?_);refine aE ?_;intro wa bP;have hX:Below w6.heap.size w6 wa:=by rw[bP];exact(aM _ _).drew
   replace hH:Fr (· =r) w6 wa:=Fr.of hX;clear bP;refine aW 0 (v:=?_) rfl hH ?_;(try simp only[PU,aD])
   refine aW 1 (v:=?_) rfl hH ?_;(try simp only[PU,aD])
   refine aW 2 (v:=?_) rfl hH ?_;(try simp only[PU,aD])
   refine cH 3 (v:=?_) rfl ?hy hH ?_
   case hy=>(intro bW aN;have t:=(aN.blk mG.out cF).cell;clear aN;go_simp;try with_reducible rfl)
   (try simp only[PU,aD])
   refine aW 4 (v:=?_) rfl hH ?_;(try simp only[PU,aD])
   refine aW 6 (v:=?_) rfl hH ?_;(try simp only[PU,aD])
   refine cE 5 (by kernel_rfl) rfl (fun K hK=>?_);go_simp;refine(LV (Ze.out.fr (Fr.of (O:=fun _=>False) hX) (fun h=>h)) (8+j) (by omega) (by omega)).mono ?_;rintro en wb ⟨⟨sy,rfl,dG⟩,aR⟩;replace hX:=hX.next aR;clear aR;refine hK.out _ _ (Fr.of hX) (fun hH=>?_);clear hK;(try simp only[PU,aD])
   refine cE 7 (by kernel_rfl) rfl (fun K hK=>?_);refine XO 100 (.tmp 33) (.tmp 35) (.tmp 36) rfl _ _ Tryz.underlying100 Tryz.underlying9 r (by simp[Act.eval]) sy (by simp[Act.eval]) _ rfl dG (Xs.out.keep (hX.block r aAF)) ?_;intro wc hmp Qg;refine hK.out _ _ ((Fr.of hX).trans Qg) (fun hH=>?_);clear hK;(try simp only[PU,aD])
   refine wpAnyH_done (by kernel_rfl) ?_ _;have HFZ:=aA ((Fr.of hX).trans Qg);have HMZ:=aA hmp;clear hX hH hmp Qg;go_wp2_with fail;exact⟨⟨j+1,by omega,by go_num,HMZ.out,s8.out.trans ((Fr.of kD.out).trans HFZ.out)⟩,by simp[intOf];omega⟩
  ·obtain rfl:j=16:=by omega
   have h4:=H4.out;have hf:=s8.out;go_wp2_with fail;go_ret;exact⟨⟨r+1,g,c,r,rfl,⟨⟨hf.blk h4.blk (by omega),fun j t ht=>by
    obtain⟨q1,q2,q3⟩:=h4.tok j t ht;exact⟨(hf.cell h4.ne.2.1 (by omega) _).trans q1,(hf.cell h4.ne.2.1 (by omega) _).trans q2,(hf.cell h4.ne.2.1 (by omega) _).trans q3⟩,rfl,by omega,by omega,jM,by decide⟩,HMR.out,by omega,by omega⟩,by omega⟩,dQ.out.trans (hf.below (by omega) (fun k hk=>by omega))⟩
theorem xN{P:Program}{fn:Func}{p u v:Tmp}{ty:TypeId}(h:fn.results=#[.cell p ty,.tmp u,.tmp v])(tmps:Array Value)(w:World)(g:Nat)(t:TypeId)(cs:Array Value)(d:TypeDesc)
  (hp:tmps.getD p undef=.pointer (some ⟨g,0,none⟩)) (hg:Blk w g t cs) (hu:P.underlying ty=some d) (hd:(match d with|.struct _|.array _ _=>true|_=>false)=true) (hi:(P.info? ty).map (·.size)=some cs.size):
  (results fn tmps).run P w=.ok (.tuple #[.agg cs,tmps.getD u undef,tmps.getD v undef]) w:=by
 simp only[results,h];simp only[Array.getD_eq_getD_getElem?]at hp⊢;simp[Sem.run_bind,Result.andThen,hp,asAddr,run_loadVar_row w g t ty cs (0,0) d hg hu hd hi]
theorem FU{w:World}(P1:SymAt w):Calls Tryz.prog 24 #[.string Hy] w fun e w'=>(∃vv g2 v,e=.returned (.tuple #[.agg #[vv,.slice none 0 0,.int .u8 57,.int .i64 0,.string ⟨#[]⟩,v],.int .i64 0,.int .i64 0])∧PrgAt w' w.heap.size vv g2 v)∧Below w.heap.size w w':=by
 have QU:=aA P1;clear P1;obtain⟨tx,htx⟩:∃t,Hy=t:=⟨_,rfl⟩;have wQ:Hid (∀W,Below w.heap.size w W->Calls Tryz.prog 47 #[.string tx] W fun e w'=>(∃b g c r,e=.returned (.pointer (some ⟨b,0,none⟩))∧PT w' b g c r 0∧W.heap.size<=b)∧Below W.heap.size W w'):=aA fun W hW=>by rw[<-htx];exact VJ (QU.out.next hW)
 rw[htx];clear htx;go_enter Tryz.func24,Tryz.ntmps24;go_upto_region 1 with fail;refine aB ?_;intro w1 aF;have aG:Below w.heap.size w w1:=by rw[aF];go_grown
 have K1:Blk w1 w.heap.size 28 #[.slice none 0 0,.slice none 0 0,.int .u8 0,.int .i64 0,.string ⟨#[]⟩,.slice none 0 0]:=by rw[aF];exact aQ
 have a9:=aA K1;have aO:=aA aG;clear aF aG K1;go_wp2_with fail;refine(wQ.out w1 aO.out).mono ?_;rintro en w2 ⟨⟨b,g,c,r,rfl,hp,hb⟩,hb2⟩;have H2:=aA hp;have aP:=aA (aO.out.next hb2);have bI:=aA (a9.out.next hb2);have vV:w.heap.size<w1.heap.size:=a9.out.lt;clear hp hb2;go_wp2_with fail;refine(GB H2.out).mono ?_;rintro en w3 ⟨⟨vv,g2,v,rfl,mU⟩,h3,kE⟩;have H3:=aA h3;have EX:=aA mU;have dD:=aA (kE.blk bI.out (by omega));have bD:Hid (Below w.heap.size w w3):=aA (aP.out.trans (kE.below aP.out.size (fun k hk=>by omega)));obtain⟨Av,cv,rfl⟩:=aI mU.1;obtain⟨Am,cm,rfl⟩:=aI mU.2.1;have OL:=aP.out.size;have yN:w.heap.size<w2.heap.size:=bI.out.lt;clear h3 kE mU;go_upto_region 3 with fail;refine aB ?_;intro w4 qI;have bV:Below w3.heap.size w3 w4:=by rw[qI];go_grown
 have K6:Blk w4 w3.heap.size 28 #[.slice Av 1 cv,.slice none 0 0,.int .u8 57,.int .i64 0,.string ⟨#[]⟩,.slice Am 1 cm]:=by rw[qI];exact aQ
 have oF:=aA K6;have H4:=aA (H3.out.next bV);have dQ:=aA (bD.out.next bV);have eG:=aA (dD.out.next bV);have Cr:=aA (EX.out.fr (Fr.of (O:=fun _=>False) bV) (fun _ _ _ h=>h));clear qI bV K6;go_wp2_with fail;refine(MF H4.out).mono ?_;rintro en w5 ⟨rfl,cW⟩;have H5:=aA (H4.out.next cW);have gL:=aA (dQ.out.next cW);have lX:=aA (eG.out.next cW);have F0:=aA (oF.out.next cW);have Yh:=aA (Cr.out.fr (Fr.of (O:=fun _=>False) cW) (fun _ _ _ h=>h));clear cW;obtain⟨T7,I0,G5⟩:=H5.out.pa.blk.open_;obtain⟨z_q,T_q,F_q⟩:=F0.out.open_;obtain⟨Tf,Nr,Jz⟩:=lX.out.open_;go_wp2_with fail;have K9:=(((((lX.out.set_ 0 (.slice Av 1 cv)).set_ 1 (.slice none 0 0)).set_ 2 (.int .u8 57)).set_ 3 (.int .i64 0)).set_ 4 (.string ⟨#[]⟩)).set_ 5 (.slice Am 1 cm);refine bodyPost_ret_by (xN rfl _ _ w.heap.size 28 #[.slice Av 1 cv,.slice none 0 0,.int .u8 57,.int .i64 0,.string ⟨#[]⟩,.slice Am 1 cm] _ rfl (show Blk _ w.heap.size 28 #[.slice Av 1 cv,.slice none 0 0,.int .u8 57,.int .i64 0,.string ⟨#[]⟩,.slice Am 1 cm] by simpa using K9) Tryz.underlying28 rfl (by rw[sC];rfl)) rfl ?_
 have xE:=Fr.set (Fr.set (Fr.set (Fr.set (Fr.set (Fr.set (Fr.refl (· =w.heap.size) w5) (p:=⟨w.heap.size,0,none⟩) rfl (.slice Av 1 cv)) (p:=⟨w.heap.size,1,none⟩) rfl (.slice none 0 0)) (p:=⟨w.heap.size,2,none⟩) rfl (.int .u8 57)) (p:=⟨w.heap.size,3,none⟩) rfl (.int .i64 0)) (p:=⟨w.heap.size,4,none⟩) rfl (.string ⟨#[]⟩)) (p:=⟨w.heap.size,5,none⟩) rfl (.slice Am 1 cm);exact⟨⟨_,g2,_,rfl,(Yh.out.fr xE (fun k h1 _ h2=>by omega)).low (by omega)⟩,gL.out.trans (xE.below gL.out.size (fun k hk=>by omega))⟩
theorem MP{w:World}(P1:SymAt w):Calls Tryz.prog 13 #[.string Hy] w fun e w'=>(∃vv g2 v,e=.returned (.agg #[vv,.slice none 0 0,.int .u8 57,.int .i64 0,.string ⟨#[]⟩,v])∧PrgAt w' w.heap.size vv g2 v)∧Below w.heap.size w w':=by
 have QU:=aA P1;clear P1;obtain⟨tx,htx⟩:∃t,Hy=t:=⟨_,rfl⟩;have CK:Hid (∀W,Below w.heap.size w W->Calls Tryz.prog 24 #[.string tx] W fun e w'=>(∃vv g2 v,e=.returned (.tuple #[.agg #[vv,.slice none 0 0,.int .u8 57,.int .i64 0,.string ⟨#[]⟩,v],.int .i64 0,.int .i64 0])∧PrgAt w' W.heap.size vv g2 v)∧Below W.heap.size W w'):=aA fun W hW=>by rw[<-htx];exact FU (QU.out.next hW)
 rw[htx];clear htx;go_enter Tryz.func13,Tryz.ntmps13;go_upto_region 1 with fail;refine aB ?_;intro w1 aF;have aG:Below w.heap.size w w1:=by rw[aF];go_grown
 have K1:Blk w1 w.heap.size 28 #[.slice none 0 0,.slice none 0 0,.int .u8 0,.int .i64 0,.string ⟨#[]⟩,.slice none 0 0]:=by rw[aF];exact aQ
 have a9:=aA K1;have aO:=aA aG;clear aF aG K1;go_wp2_with fail;refine(CK.out w1 aO.out).mono ?_;rintro en w3 ⟨⟨vv,g2,v,rfl,mU⟩,aT⟩;have EX:=aA mU;have dD:=aA (a9.out.next aT);have bD:=aA (aO.out.next aT);obtain⟨Av,cv,rfl⟩:=aI mU.1;obtain⟨Am,cm,rfl⟩:=aI mU.2.1;have rH:w.heap.size<w1.heap.size:=a9.out.lt;clear mU aT;go_upto_region 2 with fail;refine aB ?_;intro w4 qI;have bV:Below w3.heap.size w3 w4:=by rw[qI];go_grown
 have K6:Blk w4 w3.heap.size 28 #[.slice Av 1 cv,.slice none 0 0,.int .u8 57,.int .i64 0,.string ⟨#[]⟩,.slice Am 1 cm]:=by rw[qI];exact aQ
 have oF:=aA K6;have dQ:=aA (bD.out.next bV);have eG:=aA (dD.out.next bV);have Cr:=aA (EX.out.fr (Fr.of (O:=fun _=>False) bV) (fun _ _ _ h=>h));clear qI bV K6;obtain⟨z_q,T_q,F_q⟩:=oF.out.open_;obtain⟨Tf,Nr,Jz⟩:=eG.out.open_;go_wp2_with fail;have K9:=(((((eG.out.set_ 0 (.slice Av 1 cv)).set_ 1 (.slice none 0 0)).set_ 2 (.int .u8 57)).set_ 3 (.int .i64 0)).set_ 4 (.string ⟨#[]⟩)).set_ 5 (.slice Am 1 cm);refine bodyPost_ret_by (results_cell_row rfl _ _ w.heap.size 28 #[.slice Av 1 cv,.slice none 0 0,.int .u8 57,.int .i64 0,.string ⟨#[]⟩,.slice Am 1 cm] _ _ rfl (show Blk _ w.heap.size 28 #[.slice Av 1 cv,.slice none 0 0,.int .u8 57,.int .i64 0,.string ⟨#[]⟩,.slice Am 1 cm] by simpa using K9) Tryz.underlying28 rfl (by rw[sC];rfl)) rfl ?_;have xE:=Fr.set (Fr.set (Fr.set (Fr.set (Fr.set (Fr.set (Fr.refl (· =w.heap.size) w4) (p:=⟨w.heap.size,0,none⟩) rfl (.slice Av 1 cv)) (p:=⟨w.heap.size,1,none⟩) rfl (.slice none 0 0)) (p:=⟨w.heap.size,2,none⟩) rfl (.int .u8 57)) (p:=⟨w.heap.size,3,none⟩) rfl (.int .i64 0)) (p:=⟨w.heap.size,4,none⟩) rfl (.string ⟨#[]⟩)) (p:=⟨w.heap.size,5,none⟩) rfl (.slice Am 1 cm);exact⟨⟨_,g2,_,rfl,(Cr.out.fr xE (fun k h1 _ h2=>by omega)).low (by omega)⟩,dQ.out.trans (xE.below dQ.out.size (fun k hk=>by omega))⟩
end Go.Proofs.YtakfdnnlhjhcfaaGreatDoor
