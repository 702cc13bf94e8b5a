/- BaseO Base IsaS ImageS CpuS. -/
import Derived.WalkKit
import Derived.WalkSpells
import Derived.WalkLawsBesides
import Derived.Lib.Hide
import Derived.Handy
import Derived.Deep.QuietTactic
import Derived.BigQuiet
import Derived.StillTailTactics
import Derived.Deep.DeepCutAuto
import Derived.Deep.RegionWith
import Derived.Deep.RegionHeld3
import Derived.Deep.OwnRows
import Derived.WalkSmall
import Derived.Laws.MakeOwn
import Derived.Deep.AppendLies
import Derived.Maps.AppendAt
import Derived.RowKit
import Derived.Laws.Entries
set_option linter.unusedVariables false
set_option linter.unusedSimpArgs false
namespace Bk
open Go Go.RowKit
theorem ret_bool {a b : Bool} (h : a = b) : Ending.returned (.bool a) = .returned (.bool b) := by rw [h]
end Bk
namespace Bk
open Go Go.RowKit
theorem run_make_rowN {P : Program} (t e : TypeId) (i : TypeInfo) (z : Value) (ht : P.underlying t = some (.slice e)) (hi : P.info? e = some i) (hz : i.zero = some z)
    (kl kc : IntKind) (n c : Nat) (hnc : n ≤ c) (hbytes : i.bytes * c ≤ 281474976710656) (h63 : c ≤ 9223372036854775807) (w : World) :
    (Instr.makeSlice t (.int kl (n : Int)) (.int kc (c : Int))).run P w = .ok (.slice (some ⟨w.heap.size, 0, none⟩) n c) (w.alloc (.cells (madeCells z.cells (c * i.size)) e)) := by
  have hb : (i.bytes : Int) * (c : Int) ≤ 281474976710656 := by
    have h : ((i.bytes * c : Nat) : Int) ≤ 281474976710656 := by omega
    rwa [Int.natCast_mul] at h
  have hr := run_make (P := P) w t e i z ht hi hz kl kc n c (by omega) (by omega) hb (by omega)
  simp only [Int.toNat_natCast] at hr
  exact hr
theorem own_some {w : World} {base : Nat} {e : TypeId} {size n : Nat} {v : Value} {xs : List Value} (h : w.ownsRow base e size v n xs) (hn : 0 < n) :
    ∃ g cap, v = .slice (some ⟨g, 0, none⟩) n cap ∧ base ≤ g ∧ g < w.heap.size ∧ n ≤ cap ∧ cap ≤ maxLen ∧ ∀ j u, xs[j]? = some u → w.cell? ⟨g, j, none⟩ = some u := by
  obtain ⟨hl, h2⟩ := h
  rcases h2 with ⟨rfl, h0⟩ | ⟨g, cap, cur, rfl, hg, hh, hnc, hcap, hsz, htake⟩
  · omega
  · refine ⟨g, cap, rfl, hg, ?_, hnc, hcap, fun j u hu => ?_⟩
    · rcases Nat.lt_or_ge g w.heap.size with hlt | hge
      · exact hlt
      · rw [Array.getElem?_eq_none hge] at hh; cases hh
    · rw [← htake, List.getElem?_take] at hu
      split at hu
      · simp only [World.cell?, hh]
        simpa using hu
      · cases hu
theorem own_of_block {w w' : World} {base : Nat} {e : TypeId} {size n : Nat} {v : Value} {xs : List Value} (h : w.ownsRow base e size v n xs)
    (hb : ∀ g, g < w.heap.size → v.ownBlock = some g → w'.heap[g]? = w.heap[g]?) : w'.ownsRow base e size v n xs := by
  refine ⟨h.1, ?_⟩
  rcases h.2 with h0 | ⟨g, cap, cur, rfl, hg, hh, r⟩
  · exact .inl h0
  · refine .inr ⟨g, cap, cur, rfl, hg, ?_, r⟩
    rw [hb g ?_ rfl]
    · exact hh
    · rcases Nat.lt_or_ge g w.heap.size with hlt | hge
      · exact hlt
      · rw [Array.getElem?_eq_none hge] at hh; cases hh
theorem own_below {w w' : World} {base B : Nat} {e : TypeId} {size n : Nat} {v : Value} {xs : List Value} (h : w.ownsRow base e size v n xs) (hb : Below B w w') (hB : w.heap.size ≤ B) : w'.ownsRow base e size v n xs :=
  own_of_block h fun g hg _ => hb.block g (by omega)
theorem own_setCell {w : World} {base b o : Nat} {u : Value} {e : TypeId} {size n : Nat} {v : Value} {xs : List Value} (h : w.ownsRow base e size v n xs) (hb : b < base) : (w.setCell ⟨b, o, none⟩ u).ownsRow base e size v n xs :=
  ownsRow_setCell_below h hb u
theorem own_drew {w : World} {base : Nat} {e : TypeId} {size n : Nat} {v : Value} {xs : List Value} (h : w.ownsRow base e size v n xs) : w.drew.ownsRow base e size v n xs := h
def Blk (w : World) (g : Nat) (t : TypeId) (cs : Array Value) : Prop := w.heap[g]? = some (.cells cs t (0, 0))
section
variable {w w' : World} {g : Nat} {t : TypeId} {cs : Array Value}
theorem Blk.lt (h : Blk w g t cs) : g < w.heap.size := by
  rcases Nat.lt_or_ge g w.heap.size with hlt | hge
  · exact hlt
  · unfold Blk at h; rw [Array.getElem?_eq_none hge] at h; cases h
theorem Blk.cell (h : Blk w g t cs) (i : Nat) : w.cell? ⟨g, i, none⟩ = cs[i]? := cell_of_row w g i cs t (0, 0) h
theorem Blk.frozen (h : Blk w g t cs) (i : Nat) : w.frozen? ⟨g, i, none⟩ = false := by
  unfold Blk at h
  simp [World.frozen?, h]
theorem Blk.new (w : World) (t : TypeId) (cs : Array Value) : Blk (w.alloc (.cells cs t)) w.heap.size t cs := heap_alloc_new w _
theorem Blk.new' {w : World} {g : Nat} (hg : g = w.heap.size) (t : TypeId) (cs : Array Value) : Blk (w.alloc (.cells cs t)) g t cs := by subst hg; exact heap_alloc_new w _
theorem Blk.drew (h : Blk w g t cs) : Blk w.drew g t cs := h
theorem Blk.drewN (h : Blk w g t cs) (n : Nat) : Blk (w.drewN n) g t cs := h
theorem Blk.alloc (h : Blk w g t cs) (o : Obj) : Blk (w.alloc o) g t cs := (Below.heap_alloc w o g h.lt).trans h
theorem Blk.set_ (h : Blk w g t cs) (i : Nat) (u : Value) : Blk (w.setCell ⟨g, i, none⟩ u) g t (cs.setIfInBounds i u) := by
  unfold Blk at h ⊢
  simp [World.setCell, Array.getElem?_modify, h]
theorem Blk.far (h : Blk w g t cs) {p : Addr} (hp : g ≠ p.block) (u : Value) : Blk (w.setCell p u) g t cs := (Below.heap_setCell w p u g hp).trans h
theorem Blk.below {B : Nat} (h : Blk w g t cs) (hb : Below B w w') (hg : g < B) : Blk w' g t cs := (hb.block g hg).trans h
theorem Blk.next (h : Blk w g t cs) (hb : Below w.heap.size w w') : Blk w' g t cs := h.below hb h.lt
theorem Blk.grown {row : Option Nat} (h : Blk w g t cs) (hb : w.grownBy w' row) (hg : some g ≠ row) : Blk w' g t cs := (hb.block g h.lt hg).trans h
theorem blkA {P : Prop} (h : P := by repeat' (first | assumption | exact Blk.new' (by simp) _ _ | apply Blk.alloc | apply Blk.drew)) : P := h
theorem Blk.open_ (h : Blk w g t cs) : g < w.heap.size ∧ (∀ i, w.cell? ⟨g, i, none⟩ = cs[i]?) ∧ (∀ i, w.frozen? ⟨g, i, none⟩ = false) := ⟨h.lt, h.cell, h.frozen⟩
end
theorem own_form {w : World} {base : Nat} {e : TypeId} {size n : Nat} {v : Value} {xs : List Value} (h : w.ownsRow base e size v n xs) : ∃ A cap, v = .slice A n cap := by
  rcases h.2 with ⟨rfl, rfl⟩ | ⟨g, cap, cur, rfl, _⟩
  · exact ⟨_, _, rfl⟩
  · exact ⟨_, _, rfl⟩
theorem drewN_ {B : Nat} {a w : World} (h : Below B a w) (n : Nat) : Below B a (w.drewN n) := ⟨h.os, h.tape, h.output, h.size, h.block⟩
theorem PU {α : Type} : (∀ (l : List α) (i : Nat) (h : i < l.toArray.size), l.toArray[i]'h = l[i]'(by simpa using h)) ∧ (∀ (a : α) (l : List α) (h : 0 < (a :: l).length), (a :: l)[0]'h = a) ∧ (∀ (a : α) (l : List α) (i : Nat) (h : i + 1 < (a :: l).length), (a :: l)[i + 1]'h = l[i]'(Nat.lt_of_succ_lt_succ h)) ∧
    (∀ (l : List α) (i : Nat) (a : α), l.toArray.setIfInBounds i a = (l.set i a).toArray) ∧ (∀ (a b : α) (l : List α), (a :: l).set 0 b = b :: l) ∧ (∀ (a b : α) (l : List α) (i : Nat), (a :: l).set (i + 1) b = a :: l.set i b) :=
  ⟨fun _ _ _ => List.getElem_toArray _, fun _ _ _ => rfl, fun _ _ _ _ => rfl, fun _ _ _ => List.setIfInBounds_toArray .., fun _ _ _ => rfl, fun _ _ _ _ => rfl⟩
theorem _root_.Go.RowKit.Below.next {w0 w1 w2 : World} (h : Below w0.heap.size w0 w1) (h' : Below w1.heap.size w1 w2) : Below w0.heap.size w0 w2 :=
  h.trans (h'.mono h.size)
def Rd (w : World) (D : Nat → Prop) (size : Nat) (A : Option Addr) (n : Nat) (xs : List Value) : Prop :=
  xs.length = n * size ∧ (0 < n → ∃ b off, A = some ⟨b, off, none⟩ ∧ D b ∧ ∀ j u, xs[j]? = some u → w.cell? ⟨b, off + j, none⟩ = some u)
section
variable {w w' : World} {D D' : Nat → Prop} {size n : Nat} {A : Option Addr} {xs : List Value}
theorem Rd.none_ (A : Option Addr) : Rd w D size A 0 [] := ⟨by simp, fun h => absurd h (by omega)⟩
theorem Rd.mono (h : Rd w D size A n xs) (hD : ∀ k, D k → D' k) : Rd w D' size A n xs :=
  ⟨h.1, fun hn => by obtain ⟨b, off, e, hb, hc⟩ := h.2 hn; exact ⟨b, off, e, hD _ hb, hc⟩⟩
theorem Rd.keep (h : Rd w D size A n xs) (hk : ∀ b o, D b → w'.cell? ⟨b, o, none⟩ = w.cell? ⟨b, o, none⟩) : Rd w' D size A n xs :=
  ⟨h.1, fun hn => by obtain ⟨b, off, e, hb, hc⟩ := h.2 hn; exact ⟨b, off, e, hb, fun j u hu => (hk _ _ hb).trans (hc j u hu)⟩⟩
theorem Rd.next (h : Rd w (· < w.heap.size) size A n xs) (hb : Below w.heap.size w w') : Rd w' (· < w'.heap.size) size A n xs :=
  (h.keep fun b o hd => hb.cell (p := ⟨b, o, none⟩) hd).mono fun _ hk => Nat.lt_of_lt_of_le hk hb.size
theorem Rd.blk {b off : Nat} (h : Rd w D size (some ⟨b, off, none⟩) n xs) (hn : 0 < n) : D b := by
  obtain ⟨b', off', e, hd, _⟩ := h.2 hn
  injection e with e; injection e with e1 e2; subst e1; exact hd
theorem Rd.below {B : Nat} (h : Rd w D size A n xs) (hb : Below B w w') (hD : ∀ k, D k → k < B) : Rd w' D size A n xs :=
  h.keep fun b o hd => hb.cell (p := ⟨b, o, none⟩) (hD _ hd)
end
theorem Rd.of_own {w : World} {base : Nat} {e : TypeId} {size n c : Nat} {A : Option Addr} {xs : List Value} (h : w.ownsRow base e size (.slice A n c) n xs) : Rd w (fun b => base ≤ b ∧ b < w.heap.size) size A n xs := by
  refine ⟨h.1, fun hn => ?_⟩
  obtain ⟨g, cap, hv, hg, hlt, _, _, hc⟩ := own_some h hn
  injection hv with hA
  exact ⟨g, 0, hA, ⟨hg, hlt⟩, fun j u hu => by rw [Nat.zero_add]; exact hc j u hu⟩
end Bk
namespace Bk
structure Ins where
  op : Int
  a : Int
  b : Int
  c : Int
  d : Int
deriving DecidableEq, Inhabited
def inv (op : Int) : Int :=
  if op = 1 then 2 else if op = 2 then 1 else if op = 4 then 5 else if op = 5 then 4
  else if op = 12 then 13 else if op = 13 then 12 else if op = 17 then 18 else if op = 18 then 17
  else if op = 19 then 20 else if op = 20 then 19
  else if op = 22 then 25 else if op = 23 then 26 else if op = 24 then 27
  else if op = 25 then 22 else if op = 26 then 23 else if op = 27 then 24
  else if op = 28 then 29 else if op = 29 then 28 else if op = 32 then 33 else if op = 33 then 32 else op
def arity (n : Nat) : Int :=
  if n = 0 ∨ n = 34 then 0 else if n = 9 ∨ n = 11 then 4
  else if n = 8 ∨ (17 ≤ n ∧ n ≤ 20) ∨ n = 22 ∨ n = 25 ∨ (30 ≤ n ∧ n ≤ 33) then 1 else 2
def regB (x : Int) : Bool := decide (0 ≤ x ∧ x < 16)
def numB (x : Int) : Bool := decide (0 ≤ x ∧ x ≤ 16384)
def idxB (x : Int) : Bool := decide (0 ≤ x ∧ x < 65536)
def operB (x : Int) : Bool := decide (8 ≤ x ∧ x ≤ 23)
def jumpB (op : Int) : Bool := decide (op = 22 ∨ op = 23 ∨ op = 24)
def landB (op : Int) : Bool := decide (op = 25 ∨ op = 26 ∨ op = 27)
def zerosB (op a b c d : Int) : Bool :=
  (decide (0 < arity op.toNat) || decide (a = 0)) && (decide (1 < arity op.toNat) || decide (b = 0)) &&
  (decide (2 < arity op.toNat) || decide (c = 0)) && (decide (3 < arity op.toNat) || decide (d = 0))
def shapeB (op a b c d : Int) : Bool :=
  if op = 1 ∨ op = 2 ∨ op = 3 then regB a && regB b && decide (a ≠ b)
  else if op = 7 then regB a && regB b
  else if op = 4 ∨ op = 5 ∨ op = 6 ∨ op = 8 ∨ op = 17 ∨ op = 18 ∨ op = 19 ∨ op = 20 then regB a
  else if op = 9 then regB a && regB b && regB c && decide (a ≠ b) && decide (a ≠ c) && operB d
  else if op = 10 ∨ op = 12 ∨ op = 13 ∨ op = 14 ∨ op = 15 then regB a && numB b
  else if op = 11 then regB a && regB b && decide (a ≠ b) && numB c && numB d
  else if op = 16 ∨ op = 28 ∨ op = 29 then numB a && numB b
  else if op = 21 then regB a && decide (1 ≤ b ∧ b ≤ 23)
  else if op = 22 ∨ op = 25 ∨ op = 30 ∨ op = 31 ∨ op = 32 ∨ op = 33 then idxB a
  else if op = 23 ∨ op = 24 ∨ op = 26 ∨ op = 27 then regB a && idxB b
  else true
def validB (op a b c d : Int) : Bool := decide (op < 35) && zerosB op a b c d && shapeB op a b c d
def targetP (op a b : Int) : Int × Bool :=
  if op = 22 ∨ op = 25 ∨ op = 30 ∨ op = 31 ∨ op = 32 ∨ op = 33 then (a, true)
  else if op = 23 ∨ op = 24 ∨ op = 26 ∨ op = 27 then (b, true) else (0, false)
namespace Ins
def valid (i : Ins) : Bool := validB i.op i.a i.b i.c i.d
def inverse (i : Ins) : Ins := { i with op := inv i.op }
def target (i : Ins) : Int × Bool := targetP i.op i.a i.b
end Ins
structure Ins.Wf (i : Ins) : Prop where
  op0 : 0 ≤ i.op
  op1 : i.op ≤ 255
  a0 : -9223372036854775808 ≤ i.a
  a1 : i.a ≤ 9223372036854775807
  b0 : -9223372036854775808 ≤ i.b
  b1 : i.b ≤ 9223372036854775807
  c0 : -9223372036854775808 ≤ i.c
  c1 : i.c ≤ 9223372036854775807
  d0 : -9223372036854775808 ≤ i.d
  d1 : i.d ≤ 9223372036854775807
end Bk
namespace Bk
abbrev Prg := List Ins
def pairB (a b : Int) (before : Bool) : Bool :=
  if jumpB a then landB b else if landB a then jumpB b
  else if before then decide (a = 32) && decide (b = 33) else decide (a = 33) && decide (b = 32)
def partner (code : Prg) (i : Int) : Int × Bool :=
  if i < 0 ∨ (code.length : Int) ≤ i then (0, false)
  else if (code.getD i.toNat default).target.2 = false ∨ (code.getD i.toNat default).target.1 < 0 ∨ (code.length : Int) ≤ (code.getD i.toNat default).target.1 then (0, false)
  else if (code.getD i.toNat default).valid = false ∨ (code.getD (code.getD i.toNat default).target.1.toNat default).valid = false then (0, false)
  else if (code.getD (code.getD i.toNat default).target.1.toNat default).target.2 = false ∨ (code.getD (code.getD i.toNat default).target.1.toNat default).target.1 ≠ i then (0, false)
  else if pairB (code.getD i.toNat default).op (code.getD (code.getD i.toNat default).target.1.toNat default).op (decide (i < (code.getD i.toNat default).target.1)) then ((code.getD i.toNat default).target.1, true)
  else (0, false)
def dropOpen (i : Int) : List (Int × Int) → List (Int × Int)
  | [] => []
  | (f, t) :: rest => if t < i then dropOpen i rest else (f, t) :: rest
def regStep (code : Prg) (i : Nat) (opened : List (Int × Int)) : List (Int × Int) × Bool × Int :=
  let o := dropOpen i opened
  let o' := if (partner code i).2 && decide ((code.getD i default).op = 32) then ((i : Int), (partner code i).1) :: o else o
  (o', !o.isEmpty, match o' with | [] => -1 | (f, _) :: _ => f)
def openAt (code : Prg) : Nat → List (Int × Int)
  | 0 => []
  | i + 1 => (regStep code i (openAt code i)).1
def insideAt (code : Prg) (i : Nat) : Bool := (regStep code i (openAt code i)).2.1
def regionAt (code : Prg) (i : Nat) : Int := (regStep code i (openAt code i)).2.2
def fault (code : Prg) (i : Nat) : Int :=
  let x := code.getD i default
  if x.valid = false then 3
  else if x.target.2 = false then 0
  else if x.op = 30 ∨ x.op = 31 then
    (if (partner code x.target.1).2 = false ∨ (code.getD x.target.1.toNat default).op ≠ 32 then 23 else 0)
  else if (partner code i).2 = false then 23
  else if x.op = 32 ∧ insideAt code i = true then 20
  else if (jumpB x.op = true ∨ landB x.op = true) ∧ regionAt code i ≠ regionAt code x.target.1.toNat then 20
  else 0
def checkFrom (code : Prg) : Nat → Nat → Int × Int
  | 0, _ => (-1, 0)
  | n + 1, i => if fault code i ≠ 0 then (i, fault code i) else checkFrom code n (i + 1)
structure Img where
  code : Prg
  mem : Int
  stacks : Int
deriving DecidableEq
def Img.sized (im : Img) : Bool := decide (im.code.length ≤ 65536) && decide (0 ≤ im.mem ∧ im.mem ≤ 16384) && decide (1 ≤ im.stacks ∧ im.stacks ≤ 16384)
def Img.check (im : Img) : Int × Int := if im.sized then checkFrom im.code im.code.length 0 else (-1, 2)
def Img.valid (im : Img) : Bool := decide (im.check.2 = 0)
def CodeWf (code : Prg) : Prop := ∀ k, k < code.length → (code.getD k default).Wf
end Bk
namespace Bk
open Go (bits BinOp IntKind)
open Go.RowKit (wrap64)
abbrev xor64 (x y : Int) : Int := bits .xor .i64 x y
def apply (op x y : Int) : Int × Int :=
  if op = 8 then (wrap64 (x + y), 0) else if op = 9 then (wrap64 (x - y), 0) else if op = 10 then (wrap64 (x * y), 0)
  else if op = 11 then (if y = 0 then (0, 11) else (wrap64 (x.tdiv y), 0))
  else if op = 12 then (if y = 0 then (0, 11) else (x.tmod y, 0))
  else if op = 13 then (bits .and .i64 x y, 0) else if op = 14 then (bits .or .i64 x y, 0) else if op = 15 then (bits .xor .i64 x y, 0)
  else if op = 16 then (if x = y then 1 else 0, 0) else if op = 17 then (if x ≠ y then 1 else 0, 0)
  else if op = 18 then (if x < y then 1 else 0, 0) else if op = 19 then (if x ≤ y then 1 else 0, 0)
  else if op = 20 then (if x > y then 1 else 0, 0) else if op = 21 then (if x ≥ y then 1 else 0, 0)
  else if op = 22 then (if x ≠ 0 ∧ y ≠ 0 then 1 else 0, 0) else if op = 23 then (if x ≠ 0 ∨ y ≠ 0 then 1 else 0, 0)
  else (0, 7)
structure Mach where
  pc : Int
  dir : Int
  r : List Int
  m : List Int
  s : List (List Int)
  calls : List (Int × Bool)
  fp : Int
  sb : Int
  inp : List Int
  out : List Int
deriving DecidableEq
namespace Mach
def reg (M : Mach) (k : Int) : Int := M.r.getD k.toNat 0
def setR (M : Mach) (k v : Int) : Mach := { M with r := M.r.set k.toNat v }
def turn (M : Mach) : Mach := { M with dir := -M.dir }
def stk (M : Mach) (k : Int) : List Int := M.s.getD k.toNat []
def setS (M : Mach) (k : Int) (l : List Int) : Mach := { M with s := M.s.set k.toNat l }
def setM (M : Mach) (k v : Int) : Mach := { M with m := M.m.set k.toNat v }
def setIn (M : Mach) (l : List Int) : Mach := { M with inp := l }
def setOut (M : Mach) (l : List Int) : Mach := { M with out := l }
end Mach
def exchange (M : Mach) (r at_ : Int) : Int × Mach :=
  if at_ < 0 ∨ (M.m.length : Int) ≤ at_ then (12, M)
  else (0, (M.setR r (M.m.getD at_.toNat 0)).setM at_ (M.reg r))
def shift (M : Mach) (cells stacks : Int) : Int × Mach :=
  if M.fp + cells < 0 ∨ (M.m.length : Int) < M.fp + cells ∨ M.sb + stacks < 0 ∨ (M.s.length : Int) < M.sb + stacks then (12, M)
  else (0, { M with fp := M.fp + cells, sb := M.sb + stacks })
def find (M : Mach) (k : Int) : Int := if k ≠ 0 then k + M.sb else k
def swapS (M : Mach) (a b : Int) : Int × Mach :=
  if (M.s.length : Int) ≤ find M a then (12, M) else if (M.s.length : Int) ≤ find M b then (12, M)
  else if find M a ≠ 0 ∧ 1000 < (M.stk (find M b)).length ∨ find M b ≠ 0 ∧ 1000 < (M.stk (find M a)).length then (5, M)
  else (0, { M with s := (M.s.set (find M a).toNat (M.stk (find M b))).set (find M b).toNat (M.stk (find M a)) })
def stack (M : Mach) (i : Ins) : Int × Mach :=
  if (M.s.length : Int) ≤ find M i.b then (12, M)
  else if i.op = 15 then (0, M.setR i.a (xor64 (M.reg i.a) (M.stk (find M i.b)).length))
  else if i.op = 12 then
    (if find M i.b ≠ 0 ∧ 1000 ≤ (M.stk (find M i.b)).length then (5, M)
     else (0, (M.setS (find M i.b) (M.stk (find M i.b) ++ [M.reg i.a])).setR i.a 0))
  else if (M.stk (find M i.b)).length = 0 then (13, M)
  else if i.op = 14 then (0, M.setR i.a (xor64 (M.reg i.a) ((M.stk (find M i.b)).getLastD 0)))
  else if M.reg i.a ≠ 0 then (14, M)
  else (0, (M.setS (find M i.b) (M.stk (find M i.b)).dropLast).setR i.a ((M.stk (find M i.b)).getLastD 0))
def transfer (M : Mach) (i : Ins) : Int × Mach :=
  if i.op = 18 ∧ 4096 ≤ M.inp.length ∨ i.op = 19 ∧ 4096 ≤ M.out.length then (5, M)
  else if i.op = 17 ∧ M.inp.length = 0 ∨ i.op = 20 ∧ M.out.length = 0 then (17, M)
  else if (i.op = 17 ∨ i.op = 20) ∧ M.reg i.a ≠ 0 then (14, M)
  else if i.op = 17 then (0, (M.setR i.a (M.inp.headD 0)).setIn M.inp.tail)
  else if i.op = 18 then (0, (M.setR i.a 0).setIn (M.reg i.a :: M.inp))
  else if i.op = 19 then (0, (M.setR i.a 0).setOut (M.out ++ [M.reg i.a]))
  else (0, (M.setR i.a (M.out.getLastD 0)).setOut M.out.dropLast)
def exec (M : Mach) (i : Ins) : Int × Mach :=
  if i.op = 0 then (0, M)
  else if i.op = 1 then (0, M.setR i.a (wrap64 (M.reg i.a + M.reg i.b)))
  else if i.op = 2 then (0, M.setR i.a (wrap64 (M.reg i.a - M.reg i.b)))
  else if i.op = 3 then (0, M.setR i.a (xor64 (M.reg i.a) (M.reg i.b)))
  else if i.op = 4 then (0, M.setR i.a (wrap64 (M.reg i.a + i.b)))
  else if i.op = 5 then (0, M.setR i.a (wrap64 (M.reg i.a - i.b)))
  else if i.op = 6 then (0, M.setR i.a (xor64 (M.reg i.a) i.b))
  else if i.op = 7 then (0, (M.setR i.a (M.reg i.b)).setR i.b (M.reg i.a))
  else if i.op = 8 then (0, M.setR i.a (wrap64 (-M.reg i.a)))
  else if i.op = 9 then
    (if (apply i.d (M.reg i.b) (M.reg i.c)).2 ≠ 0 then ((apply i.d (M.reg i.b) (M.reg i.c)).2, M)
     else (0, M.setR i.a (xor64 (M.reg i.a) (apply i.d (M.reg i.b) (M.reg i.c)).1)))
  else if i.op = 21 then (if M.reg i.a ≠ 0 then (i.b, M) else (0, M))
  else if i.op = 10 then exchange M i.a (M.fp + i.b)
  else if i.op = 11 then (if M.reg i.b < 0 ∨ i.d ≤ M.reg i.b then (12, M) else exchange M i.a (M.fp + i.c + M.reg i.b))
  else if i.op = 28 then shift M i.a i.b
  else if i.op = 29 then shift M (-i.a) (-i.b)
  else if i.op = 16 then swapS M i.a i.b
  else if i.op = 12 ∨ i.op = 13 ∨ i.op = 14 ∨ i.op = 15 then stack M i
  else transfer M i
def behind (i dir : Int) : Int := if dir > 0 then i + 1 else i
def holds (M : Mach) (i : Ins) : Bool :=
  if i.op = 23 ∨ i.op = 26 then decide (M.reg i.a = 0) else if i.op = 24 ∨ i.op = 27 then decide (M.reg i.a ≠ 0) else true
def jump (code : Prg) (M : Mach) (at_ : Nat) : Int × Mach :=
  if (partner code at_).2 = false then (23, M)
  else if holds M (code.getD at_ default) = false then (0, { M with pc := behind at_ M.dir })
  else if jumpB (code.getD at_ default).op = decide (M.dir > 0) ∧ holds M (code.getD (partner code at_).1.toNat default) = true then
    (0, { M with pc := behind (partner code at_).1 M.dir })
  else (15, M)
def enter (code : Prg) (M : Mach) (at_ : Nat) : Int × Mach :=
  if (partner code (code.getD at_ default).a).2 = false then (23, M)
  else if 100 ≤ M.calls.length then (19, M)
  else
    let turn := decide ((code.getD at_ default).op = 31)
    let dir := if turn then -M.dir else M.dir
    (0, { M with calls := M.calls ++ [((at_ : Int), turn)], dir := dir,
                 pc := if dir > 0 then (code.getD at_ default).a + 1 else (partner code (code.getD at_ default).a).1 })
def leave (code : Prg) (M : Mach) (at_ : Nat) : Int × Mach :=
  let start : Int := if (code.getD at_ default).op = 33 then (code.getD at_ default).a else at_
  if decide ((code.getD at_ default).op = 33) ≠ decide (M.dir > 0) ∨ M.calls.length = 0 then (23, M)
  else
    let a := M.calls.getLastD (0, false)
    if code.getD a.1.toNat default ≠ ⟨if a.2 then 31 else 30, start, 0, 0, 0⟩ then (23, M)
    else
      let dir := if a.2 then -M.dir else M.dir
      (0, { M with calls := M.calls.dropLast, dir := dir, pc := behind a.1 dir })
def step (code : Prg) (M : Mach) : Int × Mach :=
  let at_ : Int := if M.dir < 0 then M.pc - 1 else M.pc
  if at_ < 0 ∨ (code.length : Int) ≤ at_ then (4, M)
  else
    let i := code.getD at_.toNat default
    if i.op = 34 then (4, M)
    else if i.valid = false then (3, M)
    else if i.op = 30 ∨ i.op = 31 then enter code M at_.toNat
    else if i.op = 32 ∨ i.op = 33 then leave code M at_.toNat
    else if jumpB i.op = true ∨ landB i.op = true then jump code M at_.toNat
    else
      let x := exec M (if M.dir < 0 then i.inverse else i)
      if x.1 = 0 then (0, { x.2 with pc := x.2.pc + x.2.dir }) else (x.1, M)
end Bk
