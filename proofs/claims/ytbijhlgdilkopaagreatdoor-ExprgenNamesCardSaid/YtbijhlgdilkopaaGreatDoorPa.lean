/- Several texts in one: IsaS ImageS CpuS Undo ExecK Exec ExecB StepP StepQ. -/
import Derived.RowKit
import Derived.Laws.Entries
set_option linter.unusedVariables false
set_option linter.unusedSimpArgs false
/- Plain: the instruction set as Lean functions (no program in sight). -/
namespace Bk

/-- An instruction: opcode and operands. -/
structure Ins where
  op : Int
  a : Int
  b : Int
  c : Int
  d : Int
deriving DecidableEq, Inhabited

def inv (op : Int) : Int :=
  if op = 1 then 2 else if op = 2 then 1 else if op = 4 then 5 else if op = 5 then 4
  else if op = 12 then 13 else if op = 13 then 12 else if op = 17 then 18 else if op = 18 then 17
  else if op = 19 then 20 else if op = 20 then 19
  else if op = 22 then 25 else if op = 23 then 26 else if op = 24 then 27
  else if op = 25 then 22 else if op = 26 then 23 else if op = 27 then 24
  else if op = 28 then 29 else if op = 29 then 28 else if op = 32 then 33 else if op = 33 then 32 else op

def arity (n : Nat) : Int :=
  if n = 0 ∨ n = 34 then 0 else if n = 9 ∨ n = 11 then 4
  else if n = 8 ∨ (17 ≤ n ∧ n ≤ 20) ∨ n = 22 ∨ n = 25 ∨ (30 ≤ n ∧ n ≤ 33) then 1 else 2

def regB (x : Int) : Bool := decide (0 ≤ x ∧ x < 16)
def numB (x : Int) : Bool := decide (0 ≤ x ∧ x ≤ 16384)
def idxB (x : Int) : Bool := decide (0 ≤ x ∧ x < 65536)
def operB (x : Int) : Bool := decide (8 ≤ x ∧ x ≤ 23)
def jumpB (op : Int) : Bool := decide (op = 22 ∨ op = 23 ∨ op = 24)
def landB (op : Int) : Bool := decide (op = 25 ∨ op = 26 ∨ op = 27)

def zerosB (op a b c d : Int) : Bool :=
  (decide (0 < arity op.toNat) || decide (a = 0)) && (decide (1 < arity op.toNat) || decide (b = 0)) &&
  (decide (2 < arity op.toNat) || decide (c = 0)) && (decide (3 < arity op.toNat) || decide (d = 0))

def shapeB (op a b c d : Int) : Bool :=
  if op = 1 ∨ op = 2 ∨ op = 3 then regB a && regB b && decide (a ≠ b)
  else if op = 7 then regB a && regB b
  else if op = 4 ∨ op = 5 ∨ op = 6 ∨ op = 8 ∨ op = 17 ∨ op = 18 ∨ op = 19 ∨ op = 20 then regB a
  else if op = 9 then regB a && regB b && regB c && decide (a ≠ b) && decide (a ≠ c) && operB d
  else if op = 10 ∨ op = 12 ∨ op = 13 ∨ op = 14 ∨ op = 15 then regB a && numB b
  else if op = 11 then regB a && regB b && decide (a ≠ b) && numB c && numB d
  else if op = 16 ∨ op = 28 ∨ op = 29 then numB a && numB b
  else if op = 21 then regB a && decide (1 ≤ b ∧ b ≤ 23)
  else if op = 22 ∨ op = 25 ∨ op = 30 ∨ op = 31 ∨ op = 32 ∨ op = 33 then idxB a
  else if op = 23 ∨ op = 24 ∨ op = 26 ∨ op = 27 then regB a && idxB b
  else true

def validB (op a b c d : Int) : Bool := decide (op < 35) && zerosB op a b c d && shapeB op a b c d

/-- The target of an instruction. -/
def targetP (op a b : Int) : Int × Bool :=
  if op = 22 ∨ op = 25 ∨ op = 30 ∨ op = 31 ∨ op = 32 ∨ op = 33 then (a, true)
  else if op = 23 ∨ op = 24 ∨ op = 26 ∨ op = 27 then (b, true) else (0, false)

def retA (op a t : Int) : Int := if op = 22 ∨ op = 25 ∨ op = 30 ∨ op = 31 ∨ op = 32 ∨ op = 33 then t else a
def retB (op b t : Int) : Int := if op = 23 ∨ op = 24 ∨ op = 26 ∨ op = 27 then t else b

namespace Ins
def valid (i : Ins) : Bool := validB i.op i.a i.b i.c i.d
def inverse (i : Ins) : Ins := { i with op := inv i.op }
def target (i : Ins) : Int × Bool := targetP i.op i.a i.b
def retarget (i : Ins) (t : Int) : Ins := { i with a := retA i.op i.a t, b := retB i.op i.b t }
end Ins

/-- Bounds that every instruction in memory has. -/
structure Ins.Wf (i : Ins) : Prop where
  op0 : 0 ≤ i.op
  op1 : i.op ≤ 255
  a0 : -9223372036854775808 ≤ i.a
  a1 : i.a ≤ 9223372036854775807
  b0 : -9223372036854775808 ≤ i.b
  b1 : i.b ≤ 9223372036854775807
  c0 : -9223372036854775808 ≤ i.c
  c1 : i.c ≤ 9223372036854775807
  d0 : -9223372036854775808 ≤ i.d
  d1 : i.d ≤ 9223372036854775807

theorem inv_range (op : Int) (h0 : 0 ≤ op) (h1 : op ≤ 255) : 0 ≤ inv op ∧ inv op ≤ 255 := by
  unfold inv; repeat (first | (split; · omega) | omega)

theorem op_cases (op : Int) (h0 : 0 ≤ op) (h : op < 35) : op = 0 ∨ op = 1 ∨ op = 2 ∨ op = 3 ∨ op = 4 ∨ op = 5 ∨ op = 6 ∨ op = 7 ∨ op = 8 ∨ op = 9 ∨ op = 10 ∨ op = 11 ∨ op = 12 ∨ op = 13 ∨ op = 14 ∨ op = 15 ∨ op = 16 ∨ op = 17 ∨ op = 18 ∨ op = 19 ∨ op = 20 ∨ op = 21 ∨ op = 22 ∨ op = 23 ∨ op = 24 ∨ op = 25 ∨ op = 26 ∨ op = 27 ∨ op = 28 ∨ op = 29 ∨ op = 30 ∨ op = 31 ∨ op = 32 ∨ op = 33 ∨ op = 34 := by omega

end Bk

/- Plain: images: the partner of an instruction, regions, the check. -/
namespace Bk

abbrev Prg := List Ins

/-- The kinds of two partners fit. 'before': the first stands before the second. -/
def pairB (a b : Int) (before : Bool) : Bool :=
  if jumpB a then landB b else if landB a then jumpB b
  else if before then decide (a = 32) && decide (b = 33) else decide (a = 33) && decide (b = 32)

/-- The partner of the instruction with index i. -/
def partner (code : Prg) (i : Int) : Int × Bool :=
  if i < 0 ∨ (code.length : Int) ≤ i then (0, false)
  else if (code.getD i.toNat default).target.2 = false ∨ (code.getD i.toNat default).target.1 < 0 ∨ (code.length : Int) ≤ (code.getD i.toNat default).target.1 then (0, false)
  else if (code.getD i.toNat default).valid = false ∨ (code.getD (code.getD i.toNat default).target.1.toNat default).valid = false then (0, false)
  else if (code.getD (code.getD i.toNat default).target.1.toNat default).target.2 = false ∨ (code.getD (code.getD i.toNat default).target.1.toNat default).target.1 ≠ i then (0, false)
  else if pairB (code.getD i.toNat default).op (code.getD (code.getD i.toNat default).target.1.toNat default).op (decide (i < (code.getD i.toNat default).target.1)) then ((code.getD i.toNat default).target.1, true)
  else (0, false)

/-- The open procedures at index i: those that end before i are dropped. (The last one opened stands first.) -/
def dropOpen (i : Int) : List (Int × Int) → List (Int × Int)
  | [] => []
  | (f, t) :: rest => if t < i then dropOpen i rest else (f, t) :: rest

/-- One step of the walk over the code: what is open behind the instruction i; whether something was open before it; its region. -/
def regStep (code : Prg) (i : Nat) (opened : List (Int × Int)) : List (Int × Int) × Bool × Int :=
  let o := dropOpen i opened
  let o' := if (partner code i).2 && decide ((code.getD i default).op = 32) then ((i : Int), (partner code i).1) :: o else o
  (o', !o.isEmpty, match o' with | [] => -1 | (f, _) :: _ => f)

/-- The open procedures before the instruction i. -/
def openAt (code : Prg) : Nat → List (Int × Int)
  | 0 => []
  | i + 1 => (regStep code i (openAt code i)).1
def insideAt (code : Prg) (i : Nat) : Bool := (regStep code i (openAt code i)).2.1
def regionAt (code : Prg) (i : Nat) : Int := (regStep code i (openAt code i)).2.2

/-- The first fault of instruction i: an error number. -/
def fault (code : Prg) (i : Nat) : Int :=
  let x := code.getD i default
  if x.valid = false then 3
  else if x.target.2 = false then 0
  else if x.op = 30 ∨ x.op = 31 then
    (if (partner code x.target.1).2 = false ∨ (code.getD x.target.1.toNat default).op ≠ 32 then 23 else 0)
  else if (partner code i).2 = false then 23
  else if x.op = 32 ∧ insideAt code i = true then 20
  else if (jumpB x.op = true ∨ landB x.op = true) ∧ regionAt code i ≠ regionAt code x.target.1.toNat then 20
  else 0

/-- The first faulty instruction from index i on (n are left), and its error; (-1, 0): none. -/
def checkFrom (code : Prg) : Nat → Nat → Int × Int
  | 0, _ => (-1, 0)
  | n + 1, i => if fault code i ≠ 0 then (i, fault code i) else checkFrom code n (i + 1)

/-- An image. -/
structure Img where
  code : Prg
  mem : Int
  stacks : Int
deriving DecidableEq

def Img.sized (im : Img) : Bool := decide (im.code.length ≤ 65536) && decide (0 ≤ im.mem ∧ im.mem ≤ 16384) && decide (1 ≤ im.stacks ∧ im.stacks ≤ 16384)

def Img.check (im : Img) : Int × Int := if im.sized then checkFrom im.code im.code.length 0 else (-1, 2)
def Img.valid (im : Img) : Bool := decide (im.check.2 = 0)

/-- Every instruction in memory is within the bounds of its type. -/
def CodeWf (code : Prg) : Prop := ∀ k, k < code.length → (code.getD k default).Wf

theorem partner_eq (code : Prg) (k : Nat) (hk : k < code.length) {x y : Ins} {t back : Int} {ok ok2 vx vy : Bool} (hx : code.getD k default = x) (ht : x.target = (t, ok))
    (hy : code.getD t.toNat default = y) (hb : y.target = (back, ok2)) (hvx : x.valid = vx) (hvy : y.valid = vy) :
    partner code k = if ok = false ∨ t < 0 ∨ (code.length : Int) ≤ t then (0, false) else if vx = false ∨ vy = false then (0, false)
      else if ok2 = false ∨ back ≠ k then (0, false) else if pairB x.op y.op (decide ((k : Int) < t)) then (t, true) else (0, false) := by
  unfold partner
  rw [if_neg (by omega), Int.toNat_natCast, hx, ht, hy, hb, hvx, hvy]

theorem partner_inv {code : Prg} {i : Int} (h : (partner code i).2 = true) :
    0 ≤ i ∧ i < code.length ∧ 0 ≤ (partner code i).1 ∧ (partner code i).1 < code.length ∧ (code.getD i.toNat default).target = ((partner code i).1, true) ∧
      (code.getD i.toNat default).valid = true ∧ (code.getD (partner code i).1.toNat default).valid = true ∧
      (code.getD (partner code i).1.toNat default).target = (i, true) ∧
      pairB (code.getD i.toNat default).op (code.getD (partner code i).1.toNat default).op (decide (i < (partner code i).1)) = true := by
  unfold partner at h ⊢
  by_cases h1 : i < 0 ∨ (code.length : Int) ≤ i
  · rw [if_pos h1] at h; cases h
  rw [if_neg h1] at h ⊢
  generalize code.getD i.toNat default = x at *
  by_cases h2 : x.target.2 = false ∨ x.target.1 < 0 ∨ (code.length : Int) ≤ x.target.1
  · rw [if_pos h2] at h; cases h
  rw [if_neg h2] at h ⊢
  obtain ⟨y, hy⟩ : ∃ y, code.getD x.target.1.toNat default = y := ⟨_, rfl⟩
  simp only [hy] at h ⊢
  by_cases h4 : x.valid = false ∨ y.valid = false
  · rw [if_pos h4] at h; cases h
  rw [if_neg h4] at h ⊢
  by_cases h5 : y.target.2 = false ∨ y.target.1 ≠ i
  · rw [if_pos h5] at h; cases h
  rw [if_neg h5] at h ⊢
  by_cases h6 : pairB x.op y.op (decide (i < x.target.1)) = true
  · rw [if_pos h6]
    dsimp only
    rw [hy]
    have h2a : x.target.2 = true := by cases hx : x.target.2 <;> simp_all
    have h2b := fun e => h2 (Or.inr e)
    have h4a : x.valid = true := by cases hx : x.valid <;> simp_all
    have h4b : y.valid = true := by cases hx : y.valid <;> simp_all
    have h5a : y.target.2 = true := by cases hx : y.target.2 <;> simp_all
    have h5b : y.target.1 = i := by
      rcases Int.lt_trichotomy y.target.1 i with e | e | e
      · exact absurd (Or.inr (by omega)) h5
      · exact e
      · exact absurd (Or.inr (by omega)) h5
    exact ⟨by omega, by omega, by omega, by omega, Prod.ext rfl h2a, h4a, h4b, Prod.ext h5b h5a, h6⟩
  · rw [if_neg h6] at h; cases h

theorem partner_pos {code : Prg} {i : Int} (h : (partner code i).2 = true) : 0 ≤ (partner code i).1 ∧ (partner code i).1 < code.length :=
  let ⟨_, _, a, b, _⟩ := partner_inv h
  ⟨a, b⟩

theorem openAt_succ (code : Prg) (i : Nat) : openAt code (i + 1) = if (partner code i).2 = true ∧ (code.getD i default).op = 32 then ((i : Int), (partner code i).1) :: dropOpen i (openAt code i) else dropOpen i (openAt code i) := by
  simp [openAt, regStep]
theorem dropOpen_length (i : Int) (l : List (Int × Int)) : (dropOpen i l).length ≤ l.length := by
  induction l with
  | nil => simp [dropOpen]
  | cons x l ih => obtain ⟨f, t⟩ := x; simp only [dropOpen]; split <;> simp; omega
theorem openAt_length (code : Prg) (i : Nat) : (openAt code i).length ≤ i := by
  induction i with
  | zero => simp [openAt]
  | succ i ih =>
    have := dropOpen_length i (openAt code i)
    rw [openAt_succ]; split <;> simp <;> omega
theorem insideAt_eq (code : Prg) (i : Nat) : insideAt code i = !(dropOpen i (openAt code i)).isEmpty := rfl
theorem regionAt_eq (code : Prg) (i : Nat) : regionAt code i = match openAt code (i + 1) with | [] => -1 | (f, _) :: _ => f := rfl

theorem checkFrom_skip (code : Prg) (n i : Nat) (hi : i ≤ n) (h : ∀ k, k < i → fault code k = 0) : checkFrom code n 0 = checkFrom code (n - i) i := by
  induction i with
  | zero => rfl
  | succ i ih =>
    rw [ih (by omega) (fun k hk => h k (by omega))]
    have e : n - i = (n - (i + 1)) + 1 := by omega
    rw [e, checkFrom, if_neg (by have := h i (by omega); omega)]
theorem checkFrom_all (code : Prg) (n : Nat) (h : ∀ k, k < n → fault code k = 0) : checkFrom code n 0 = (-1, 0) := by
  rw [checkFrom_skip code n n (Nat.le_refl _) h, Nat.sub_self]; rfl
theorem checkFrom_at (code : Prg) (n i : Nat) (hi : i < n) (h : ∀ k, k < i → fault code k = 0) (hf : fault code i ≠ 0) : checkFrom code n 0 = ((i : Int), fault code i) := by
  rw [checkFrom_skip code n i (by omega) h]
  have e : n - i = (n - (i + 1)) + 1 := by omega
  rw [e, checkFrom, if_pos hf]
theorem check_fault {im : Img} (h : im.check.2 = 0) : im.sized = true ∧ ∀ k, k < im.code.length → fault im.code k = 0 := by
  unfold Img.check at h
  split at h
  · rename_i hs
    refine ⟨hs, fun k hk => ?_⟩
    rcases Decidable.em (∃ i, i < im.code.length ∧ (∀ j, j < i → fault im.code j = 0) ∧ fault im.code i ≠ 0) with ⟨i, hi, hj, hf⟩ | hno
    · rw [checkFrom_at im.code _ i hi hj hf] at h
      exact absurd h hf
    · have all : ∀ m, ∀ j, j < m → j < im.code.length → fault im.code j = 0 := by
        intro m
        induction m with
        | zero => intro j hj; omega
        | succ m ih =>
          intro j hj hjl
          rcases Nat.lt_or_ge j m with hlt | hge
          · exact ih j hlt hjl
          · obtain rfl : j = m := by omega
            rcases Decidable.em (fault im.code j = 0) with h0 | h0
            · exact h0
            · exact absurd ⟨j, hjl, fun i hi => ih i hi (by omega), h0⟩ hno
      exact all (k + 1) k (by omega) hk
  · cases h

theorem fault_zero {code : Prg} {k : Nat} (h : fault code k = 0) : (code.getD k default).valid = true ∧
    ((code.getD k default).target.2 = true → 0 ≤ (code.getD k default).target.1 ∧ (code.getD k default).target.1 < code.length) := by
  unfold fault at h
  simp only at h
  split at h
  · cases h
  rename_i hv
  refine ⟨by simpa using hv, fun ht => ?_⟩
  split at h
  · rename_i h2; rw [ht] at h2; cases h2
  split at h
  · split at h
    · cases h
    · rename_i h3
      have h4 : (partner code (code.getD k default).target.1).2 = true := by
        cases hp : (partner code (code.getD k default).target.1).2
        · exact absurd (Or.inl hp) h3
        · rfl
      obtain ⟨a, b, _⟩ := partner_inv h4
      exact ⟨a, b⟩
  · split at h
    · cases h
    · rename_i h3
      have h4 : (partner code k).2 = true := by simpa using h3
      obtain ⟨_, _, a, b, c, _⟩ := partner_inv h4
      rw [Int.toNat_natCast] at c
      have e : (code.getD k default).target.1 = (partner code k).1 := by rw [c]
      rw [e]; exact ⟨a, b⟩

end Bk

/- Plain: the machine: a step, a step back. -/
namespace Bk
open Go (bits BinOp IntKind)
open Go.RowKit (wrap64)

abbrev xor64 (x y : Int) : Int := bits .xor .i64 x y

def apply (op x y : Int) : Int × Int :=
  if op = 8 then (wrap64 (x + y), 0) else if op = 9 then (wrap64 (x - y), 0) else if op = 10 then (wrap64 (x * y), 0)
  else if op = 11 then (if y = 0 then (0, 11) else (wrap64 (x.tdiv y), 0))
  else if op = 12 then (if y = 0 then (0, 11) else (x.tmod y, 0))
  else if op = 13 then (bits .and .i64 x y, 0) else if op = 14 then (bits .or .i64 x y, 0) else if op = 15 then (bits .xor .i64 x y, 0)
  else if op = 16 then (if x = y then 1 else 0, 0) else if op = 17 then (if x ≠ y then 1 else 0, 0)
  else if op = 18 then (if x < y then 1 else 0, 0) else if op = 19 then (if x ≤ y then 1 else 0, 0)
  else if op = 20 then (if x > y then 1 else 0, 0) else if op = 21 then (if x ≥ y then 1 else 0, 0)
  else if op = 22 then (if x ≠ 0 ∧ y ≠ 0 then 1 else 0, 0) else if op = 23 then (if x ≠ 0 ∨ y ≠ 0 then 1 else 0, 0)
  else (0, 7)

/-- A machine. -/
structure Mach where
  pc : Int
  dir : Int
  r : List Int
  m : List Int
  s : List (List Int)
  calls : List (Int × Bool)
  fp : Int
  sb : Int
  inp : List Int
  out : List Int
deriving DecidableEq

namespace Mach
def reg (M : Mach) (k : Int) : Int := M.r.getD k.toNat 0
def setR (M : Mach) (k v : Int) : Mach := { M with r := M.r.set k.toNat v }
def turn (M : Mach) : Mach := { M with dir := -M.dir }
def stk (M : Mach) (k : Int) : List Int := M.s.getD k.toNat []
def setS (M : Mach) (k : Int) (l : List Int) : Mach := { M with s := M.s.set k.toNat l }
def setM (M : Mach) (k v : Int) : Mach := { M with m := M.m.set k.toNat v }
def setIn (M : Mach) (l : List Int) : Mach := { M with inp := l }
def setOut (M : Mach) (l : List Int) : Mach := { M with out := l }
end Mach

def exchange (M : Mach) (r at_ : Int) : Int × Mach :=
  if at_ < 0 ∨ (M.m.length : Int) ≤ at_ then (12, M)
  else (0, (M.setR r (M.m.getD at_.toNat 0)).setM at_ (M.reg r))

def shift (M : Mach) (cells stacks : Int) : Int × Mach :=
  if M.fp + cells < 0 ∨ (M.m.length : Int) < M.fp + cells ∨ M.sb + stacks < 0 ∨ (M.s.length : Int) < M.sb + stacks then (12, M)
  else (0, { M with fp := M.fp + cells, sb := M.sb + stacks })

def find (M : Mach) (k : Int) : Int := if k ≠ 0 then k + M.sb else k

def swapS (M : Mach) (a b : Int) : Int × Mach :=
  if (M.s.length : Int) ≤ find M a then (12, M) else if (M.s.length : Int) ≤ find M b then (12, M)
  else if find M a ≠ 0 ∧ 1000 < (M.stk (find M b)).length ∨ find M b ≠ 0 ∧ 1000 < (M.stk (find M a)).length then (5, M)
  else (0, { M with s := (M.s.set (find M a).toNat (M.stk (find M b))).set (find M b).toNat (M.stk (find M a)) })

def stack (M : Mach) (i : Ins) : Int × Mach :=
  if (M.s.length : Int) ≤ find M i.b then (12, M)
  else if i.op = 15 then (0, M.setR i.a (xor64 (M.reg i.a) (M.stk (find M i.b)).length))
  else if i.op = 12 then
    (if find M i.b ≠ 0 ∧ 1000 ≤ (M.stk (find M i.b)).length then (5, M)
     else (0, (M.setS (find M i.b) (M.stk (find M i.b) ++ [M.reg i.a])).setR i.a 0))
  else if (M.stk (find M i.b)).length = 0 then (13, M)
  else if i.op = 14 then (0, M.setR i.a (xor64 (M.reg i.a) ((M.stk (find M i.b)).getLastD 0)))
  else if M.reg i.a ≠ 0 then (14, M)
  else (0, (M.setS (find M i.b) (M.stk (find M i.b)).dropLast).setR i.a ((M.stk (find M i.b)).getLastD 0))

def transfer (M : Mach) (i : Ins) : Int × Mach :=
  if i.op = 18 ∧ 4096 ≤ M.inp.length ∨ i.op = 19 ∧ 4096 ≤ M.out.length then (5, M)
  else if i.op = 17 ∧ M.inp.length = 0 ∨ i.op = 20 ∧ M.out.length = 0 then (17, M)
  else if (i.op = 17 ∨ i.op = 20) ∧ M.reg i.a ≠ 0 then (14, M)
  else if i.op = 17 then (0, (M.setR i.a (M.inp.headD 0)).setIn M.inp.tail)
  else if i.op = 18 then (0, (M.setR i.a 0).setIn (M.reg i.a :: M.inp))
  else if i.op = 19 then (0, (M.setR i.a 0).setOut (M.out ++ [M.reg i.a]))
  else (0, (M.setR i.a (M.out.getLastD 0)).setOut M.out.dropLast)

def exec (M : Mach) (i : Ins) : Int × Mach :=
  if i.op = 0 then (0, M)
  else if i.op = 1 then (0, M.setR i.a (wrap64 (M.reg i.a + M.reg i.b)))
  else if i.op = 2 then (0, M.setR i.a (wrap64 (M.reg i.a - M.reg i.b)))
  else if i.op = 3 then (0, M.setR i.a (xor64 (M.reg i.a) (M.reg i.b)))
  else if i.op = 4 then (0, M.setR i.a (wrap64 (M.reg i.a + i.b)))
  else if i.op = 5 then (0, M.setR i.a (wrap64 (M.reg i.a - i.b)))
  else if i.op = 6 then (0, M.setR i.a (xor64 (M.reg i.a) i.b))
  else if i.op = 7 then (0, (M.setR i.a (M.reg i.b)).setR i.b (M.reg i.a))
  else if i.op = 8 then (0, M.setR i.a (wrap64 (-M.reg i.a)))
  else if i.op = 9 then
    (if (apply i.d (M.reg i.b) (M.reg i.c)).2 ≠ 0 then ((apply i.d (M.reg i.b) (M.reg i.c)).2, M)
     else (0, M.setR i.a (xor64 (M.reg i.a) (apply i.d (M.reg i.b) (M.reg i.c)).1)))
  else if i.op = 21 then (if M.reg i.a ≠ 0 then (i.b, M) else (0, M))
  else if i.op = 10 then exchange M i.a (M.fp + i.b)
  else if i.op = 11 then (if M.reg i.b < 0 ∨ i.d ≤ M.reg i.b then (12, M) else exchange M i.a (M.fp + i.c + M.reg i.b))
  else if i.op = 28 then shift M i.a i.b
  else if i.op = 29 then shift M (-i.a) (-i.b)
  else if i.op = 16 then swapS M i.a i.b
  else if i.op = 12 ∨ i.op = 13 ∨ i.op = 14 ∨ i.op = 15 then stack M i
  else transfer M i

def behind (i dir : Int) : Int := if dir > 0 then i + 1 else i

def holds (M : Mach) (i : Ins) : Bool :=
  if i.op = 23 ∨ i.op = 26 then decide (M.reg i.a = 0) else if i.op = 24 ∨ i.op = 27 then decide (M.reg i.a ≠ 0) else true

def jump (code : Prg) (M : Mach) (at_ : Nat) : Int × Mach :=
  if (partner code at_).2 = false then (23, M)
  else if holds M (code.getD at_ default) = false then (0, { M with pc := behind at_ M.dir })
  else if jumpB (code.getD at_ default).op = decide (M.dir > 0) ∧ holds M (code.getD (partner code at_).1.toNat default) = true then
    (0, { M with pc := behind (partner code at_).1 M.dir })
  else (15, M)

def enter (code : Prg) (M : Mach) (at_ : Nat) : Int × Mach :=
  if (partner code (code.getD at_ default).a).2 = false then (23, M)
  else if 100 ≤ M.calls.length then (19, M)
  else
    let turn := decide ((code.getD at_ default).op = 31)
    let dir := if turn then -M.dir else M.dir
    (0, { M with calls := M.calls ++ [((at_ : Int), turn)], dir := dir,
                 pc := if dir > 0 then (code.getD at_ default).a + 1 else (partner code (code.getD at_ default).a).1 })

def leave (code : Prg) (M : Mach) (at_ : Nat) : Int × Mach :=
  let start : Int := if (code.getD at_ default).op = 33 then (code.getD at_ default).a else at_
  if decide ((code.getD at_ default).op = 33) ≠ decide (M.dir > 0) ∨ M.calls.length = 0 then (23, M)
  else
    let a := M.calls.getLastD (0, false)
    if code.getD a.1.toNat default ≠ ⟨if a.2 then 31 else 30, start, 0, 0, 0⟩ then (23, M)
    else
      let dir := if a.2 then -M.dir else M.dir
      (0, { M with calls := M.calls.dropLast, dir := dir, pc := behind a.1 dir })

/-- A step of a machine that fits. -/
def step (code : Prg) (M : Mach) : Int × Mach :=
  let at_ : Int := if M.dir < 0 then M.pc - 1 else M.pc
  if at_ < 0 ∨ (code.length : Int) ≤ at_ then (4, M)
  else
    let i := code.getD at_.toNat default
    if i.op = 34 then (4, M)
    else if i.valid = false then (3, M)
    else if i.op = 30 ∨ i.op = 31 then enter code M at_.toNat
    else if i.op = 32 ∨ i.op = 33 then leave code M at_.toNat
    else if jumpB i.op = true ∨ landB i.op = true then jump code M at_.toNat
    else
      let x := exec M (if M.dir < 0 then i.inverse else i)
      if x.1 = 0 then (0, { x.2 with pc := x.2.pc + x.2.dir }) else (x.1, M)

def fitsB (im : Img) (M : Mach) : Bool :=
  decide (M.dir = 1 ∨ M.dir = -1) && decide (0 ≤ M.pc ∧ M.pc ≤ im.code.length) &&
  decide ((M.m.length : Int) = im.mem) && decide ((M.s.length : Int) = im.stacks ∧ 1 ≤ M.s.length) &&
  (M.s.drop 1).all (fun l => decide (l.length ≤ 1000)) && M.calls.all (fun a => decide (0 ≤ a.1 ∧ a.1 < im.code.length)) &&
  decide (M.calls.length ≤ 100 ∧ M.inp.length ≤ 4096 ∧ M.out.length ≤ 4096) &&
  decide (0 ≤ M.fp ∧ M.fp ≤ im.mem ∧ 0 ≤ M.sb ∧ M.sb ≤ im.stacks)

def cpuStep (im : Img) (M : Mach) : Int × Mach := if fitsB im M = false then (20, M) else step im.code M
def cpuBack (im : Img) (M : Mach) : Int × Mach :=
  if fitsB im M = false then (20, M) else ((step im.code M.turn).1, (step im.code M.turn).2.turn)
end Bk

/- Plain: an instruction that is not one of control is undone by its inverse. -/
set_option linter.unusedVariables false
namespace Bk
open Go (bits BinOp IntKind)
open Go.RowKit (wrap64)

/-- Within the bounds of an int. -/
def I64 (x : Int) : Prop := -9223372036854775808 ≤ x ∧ x ≤ 9223372036854775807
theorem wrap64_range (x : Int) : I64 (wrap64 x) := by unfold I64 wrap64; constructor <;> omega
theorem wrap64_id {x : Int} (h : I64 x) : wrap64 x = x := by unfold I64 at h; unfold wrap64; omega
theorem wrap_add_sub {x y : Int} (h : I64 x) : wrap64 (wrap64 (x + y) - y) = x := by unfold I64 at h; unfold wrap64; omega
theorem wrap_sub_add {x y : Int} (h : I64 x) : wrap64 (wrap64 (x - y) + y) = x := by unfold I64 at h; unfold wrap64; omega
theorem wrap_neg_neg {x : Int} (h : I64 x) : wrap64 (-wrap64 (-x)) = x := by unfold I64 at h; unfold wrap64; omega
theorem wrap_toNat (b : BitVec 64) : IntKind.i64.wrap (b.toNat : Int) = b.toInt := by
  have h := b.isLt
  rw [BitVec.toInt_eq_toNat_cond]
  simp [IntKind.wrap, IntKind.bits, IntKind.signed]
  split <;> split <;> omega
theorem toInt_range (b : BitVec 64) : I64 b.toInt := by
  have h1 := BitVec.le_toInt b
  have h2 := BitVec.toInt_lt (x := b)
  unfold I64; simp at h1 h2; omega
theorem xor_xor {x y : Int} (h : I64 x) : xor64 (xor64 x y) y = x := by
  show IntKind.i64.wrap ((BitVec.ofInt 64 (IntKind.i64.wrap ((BitVec.ofInt 64 x ^^^ BitVec.ofInt 64 y).toNat : Int)) ^^^ BitVec.ofInt 64 y).toNat : Int) = x
  rw [wrap_toNat (BitVec.ofInt 64 x ^^^ BitVec.ofInt 64 y), BitVec.ofInt_toInt, BitVec.xor_assoc, BitVec.xor_self, BitVec.xor_zero, wrap_toNat, BitVec.toInt_ofInt]
  unfold I64 at h
  simp [Int.bmod]; omega
theorem xor_range (x y : Int) : I64 (xor64 x y) := by
  show I64 (IntKind.i64.wrap ((BitVec.ofInt 64 x ^^^ BitVec.ofInt 64 y).toNat : Int))
  rw [wrap_toNat]; exact toInt_range _
theorem CodeWf.op0' {code : Prg} (h : CodeWf code) (k : Nat) (hk : k < code.length) : 0 ≤ (code.getD k default).op := (h k hk).op0
end Bk

/- Plain: what an instruction that is not one of control comes to, opcode by opcode. -/
namespace Bk
open Go.RowKit (wrap64)
theorem exec_0 (M : Mach) (a b c d : Int) : exec M ⟨0, a, b, c, d⟩ = (0, M) := rfl
theorem inverse_0 (a b c d : Int) : (⟨0, a, b, c, d⟩ : Ins).inverse = ⟨0, a, b, c, d⟩ := rfl
theorem exec_1 (M : Mach) (a b c d : Int) : exec M ⟨1, a, b, c, d⟩ = (0, M.setR a (wrap64 (M.reg a + M.reg b))) := rfl
theorem inverse_1 (a b c d : Int) : (⟨1, a, b, c, d⟩ : Ins).inverse = ⟨2, a, b, c, d⟩ := rfl
theorem exec_2 (M : Mach) (a b c d : Int) : exec M ⟨2, a, b, c, d⟩ = (0, M.setR a (wrap64 (M.reg a - M.reg b))) := rfl
theorem inverse_2 (a b c d : Int) : (⟨2, a, b, c, d⟩ : Ins).inverse = ⟨1, a, b, c, d⟩ := rfl
theorem exec_3 (M : Mach) (a b c d : Int) : exec M ⟨3, a, b, c, d⟩ = (0, M.setR a (xor64 (M.reg a) (M.reg b))) := rfl
theorem inverse_3 (a b c d : Int) : (⟨3, a, b, c, d⟩ : Ins).inverse = ⟨3, a, b, c, d⟩ := rfl
theorem exec_4 (M : Mach) (a b c d : Int) : exec M ⟨4, a, b, c, d⟩ = (0, M.setR a (wrap64 (M.reg a + b))) := rfl
theorem inverse_4 (a b c d : Int) : (⟨4, a, b, c, d⟩ : Ins).inverse = ⟨5, a, b, c, d⟩ := rfl
theorem exec_5 (M : Mach) (a b c d : Int) : exec M ⟨5, a, b, c, d⟩ = (0, M.setR a (wrap64 (M.reg a - b))) := rfl
theorem inverse_5 (a b c d : Int) : (⟨5, a, b, c, d⟩ : Ins).inverse = ⟨4, a, b, c, d⟩ := rfl
theorem exec_6 (M : Mach) (a b c d : Int) : exec M ⟨6, a, b, c, d⟩ = (0, M.setR a (xor64 (M.reg a) b)) := rfl
theorem inverse_6 (a b c d : Int) : (⟨6, a, b, c, d⟩ : Ins).inverse = ⟨6, a, b, c, d⟩ := rfl
theorem exec_7 (M : Mach) (a b c d : Int) : exec M ⟨7, a, b, c, d⟩ = (0, (M.setR a (M.reg b)).setR b (M.reg a)) := rfl
theorem inverse_7 (a b c d : Int) : (⟨7, a, b, c, d⟩ : Ins).inverse = ⟨7, a, b, c, d⟩ := rfl
theorem exec_8 (M : Mach) (a b c d : Int) : exec M ⟨8, a, b, c, d⟩ = (0, M.setR a (wrap64 (-M.reg a))) := rfl
theorem inverse_8 (a b c d : Int) : (⟨8, a, b, c, d⟩ : Ins).inverse = ⟨8, a, b, c, d⟩ := rfl
theorem exec_9 (M : Mach) (a b c d : Int) : exec M ⟨9, a, b, c, d⟩ = (if (apply d (M.reg b) (M.reg c)).2 ≠ 0 then ((apply d (M.reg b) (M.reg c)).2, M) else (0, M.setR a (xor64 (M.reg a) (apply d (M.reg b) (M.reg c)).1))) := rfl
theorem inverse_9 (a b c d : Int) : (⟨9, a, b, c, d⟩ : Ins).inverse = ⟨9, a, b, c, d⟩ := rfl
theorem exec_10 (M : Mach) (a b c d : Int) : exec M ⟨10, a, b, c, d⟩ = exchange M a (M.fp + b) := rfl
theorem inverse_10 (a b c d : Int) : (⟨10, a, b, c, d⟩ : Ins).inverse = ⟨10, a, b, c, d⟩ := rfl
theorem exec_11 (M : Mach) (a b c d : Int) : exec M ⟨11, a, b, c, d⟩ = (if M.reg b < 0 ∨ d ≤ M.reg b then (12, M) else exchange M a (M.fp + c + M.reg b)) := rfl
theorem inverse_11 (a b c d : Int) : (⟨11, a, b, c, d⟩ : Ins).inverse = ⟨11, a, b, c, d⟩ := rfl
theorem exec_12 (M : Mach) (a b c d : Int) : exec M ⟨12, a, b, c, d⟩ = stack M ⟨12, a, b, c, d⟩ := rfl
theorem inverse_12 (a b c d : Int) : (⟨12, a, b, c, d⟩ : Ins).inverse = ⟨13, a, b, c, d⟩ := rfl
theorem exec_13 (M : Mach) (a b c d : Int) : exec M ⟨13, a, b, c, d⟩ = stack M ⟨13, a, b, c, d⟩ := rfl
theorem inverse_13 (a b c d : Int) : (⟨13, a, b, c, d⟩ : Ins).inverse = ⟨12, a, b, c, d⟩ := rfl
theorem exec_14 (M : Mach) (a b c d : Int) : exec M ⟨14, a, b, c, d⟩ = stack M ⟨14, a, b, c, d⟩ := rfl
theorem inverse_14 (a b c d : Int) : (⟨14, a, b, c, d⟩ : Ins).inverse = ⟨14, a, b, c, d⟩ := rfl
theorem exec_15 (M : Mach) (a b c d : Int) : exec M ⟨15, a, b, c, d⟩ = stack M ⟨15, a, b, c, d⟩ := rfl
theorem inverse_15 (a b c d : Int) : (⟨15, a, b, c, d⟩ : Ins).inverse = ⟨15, a, b, c, d⟩ := rfl
theorem exec_16 (M : Mach) (a b c d : Int) : exec M ⟨16, a, b, c, d⟩ = swapS M a b := rfl
theorem inverse_16 (a b c d : Int) : (⟨16, a, b, c, d⟩ : Ins).inverse = ⟨16, a, b, c, d⟩ := rfl
theorem exec_17 (M : Mach) (a b c d : Int) : exec M ⟨17, a, b, c, d⟩ = transfer M ⟨17, a, b, c, d⟩ := rfl
theorem inverse_17 (a b c d : Int) : (⟨17, a, b, c, d⟩ : Ins).inverse = ⟨18, a, b, c, d⟩ := rfl
theorem exec_18 (M : Mach) (a b c d : Int) : exec M ⟨18, a, b, c, d⟩ = transfer M ⟨18, a, b, c, d⟩ := rfl
theorem inverse_18 (a b c d : Int) : (⟨18, a, b, c, d⟩ : Ins).inverse = ⟨17, a, b, c, d⟩ := rfl
theorem exec_19 (M : Mach) (a b c d : Int) : exec M ⟨19, a, b, c, d⟩ = transfer M ⟨19, a, b, c, d⟩ := rfl
theorem inverse_19 (a b c d : Int) : (⟨19, a, b, c, d⟩ : Ins).inverse = ⟨20, a, b, c, d⟩ := rfl
theorem exec_20 (M : Mach) (a b c d : Int) : exec M ⟨20, a, b, c, d⟩ = transfer M ⟨20, a, b, c, d⟩ := rfl
theorem inverse_20 (a b c d : Int) : (⟨20, a, b, c, d⟩ : Ins).inverse = ⟨19, a, b, c, d⟩ := rfl
theorem exec_21 (M : Mach) (a b c d : Int) : exec M ⟨21, a, b, c, d⟩ = (if M.reg a ≠ 0 then (b, M) else (0, M)) := rfl
theorem inverse_21 (a b c d : Int) : (⟨21, a, b, c, d⟩ : Ins).inverse = ⟨21, a, b, c, d⟩ := rfl
theorem exec_28 (M : Mach) (a b c d : Int) : exec M ⟨28, a, b, c, d⟩ = shift M a b := rfl
theorem inverse_28 (a b c d : Int) : (⟨28, a, b, c, d⟩ : Ins).inverse = ⟨29, a, b, c, d⟩ := rfl
theorem exec_29 (M : Mach) (a b c d : Int) : exec M ⟨29, a, b, c, d⟩ = shift M (-a) (-b) := rfl
theorem inverse_29 (a b c d : Int) : (⟨29, a, b, c, d⟩ : Ins).inverse = ⟨28, a, b, c, d⟩ := rfl
end Bk

/- Plain: an instruction that is not one of control is undone by its inverse (machines that fit). -/
set_option linter.unusedVariables false
namespace Bk
open Go (bits BinOp IntKind)
open Go.RowKit (wrap64)

/-- What a machine that fits an image has, besides its position and calls. -/
structure MOk (M : Mach) : Prop where
  rl : M.r.length = 16
  rr : ∀ x ∈ M.r, I64 x
  mr : ∀ x ∈ M.m, I64 x
  sr : ∀ l ∈ M.s, ∀ x ∈ l, I64 x
  ir : ∀ x ∈ M.inp, I64 x
  or_ : ∀ x ∈ M.out, I64 x
  sl : ∀ k, 1 ≤ k → (M.s.getD k []).length ≤ 1000
  inl : M.inp.length ≤ 4096
  outl : M.out.length ≤ 4096
  fp0 : 0 ≤ M.fp
  fp1 : M.fp ≤ M.m.length
  sb0 : 0 ≤ M.sb
  sb1 : M.sb ≤ M.s.length
  s1 : 1 ≤ M.s.length

theorem i64_zero : I64 0 := by unfold I64; omega
theorem getD_i64 {l : List Int} (h : ∀ x ∈ l, I64 x) (k : Nat) : I64 (l.getD k 0) := by
  rw [List.getD_eq_getElem?_getD]
  cases e : l[k]? with
  | none => exact i64_zero
  | some x => exact h x (List.mem_of_getElem? e)
theorem MOk.reg {M : Mach} (h : MOk M) (k : Int) : I64 (M.reg k) := getD_i64 h.rr _
theorem MOk.stk {M : Mach} (h : MOk M) (k : Int) : ∀ x ∈ M.stk k, I64 x := by
  unfold Mach.stk
  rw [List.getD_eq_getElem?_getD]
  cases e : M.s[k.toNat]? with
  | none => intro x hx; simp at hx
  | some l => exact h.sr l (List.mem_of_getElem? e)
theorem last_i64 {l : List Int} (h : ∀ x ∈ l, I64 x) : I64 (l.getLastD 0) := by
  cases l with
  | nil => exact i64_zero
  | cons a l =>
    rw [List.getLastD_eq_getLast?, List.getLast?_eq_some_getLast (by simp)]
    exact h _ (List.getLast_mem _)
theorem mem_set_i64 {l : List Int} (h : ∀ x ∈ l, I64 x) (k : Nat) {v : Int} (hv : I64 v) : ∀ x ∈ l.set k v, I64 x := by
  intro x hx
  rcases List.mem_or_eq_of_mem_set hx with h1 | rfl
  · exact h x h1
  · exact hv
theorem MOk.setR {M : Mach} (h : MOk M) (a : Int) {v : Int} (hv : I64 v) : MOk (M.setR a v) :=
  ⟨by simp [Mach.setR, h.rl], mem_set_i64 h.rr _ hv, h.mr, h.sr, h.ir, h.or_, h.sl, h.inl, h.outl, h.fp0, h.fp1, h.sb0, h.sb1, h.s1⟩

theorem reg_set (M : Mach) (a v : Int) (h1 : a.toNat < M.r.length) : (M.setR a v).reg a = v := by
  unfold Mach.setR Mach.reg
  simp [List.getD_eq_getElem?_getD, h1]
theorem reg_ne (M : Mach) (a b v : Int) (hne : a.toNat ≠ b.toNat) : (M.setR a v).reg b = M.reg b := by
  unfold Mach.setR Mach.reg
  simp [List.getD_eq_getElem?_getD, hne]
theorem setR_setR (M : Mach) (a u v : Int) : (M.setR a u).setR a v = M.setR a v := by
  unfold Mach.setR; simp
theorem setR_self (M : Mach) (a : Int) : M.setR a (M.reg a) = M := by
  unfold Mach.setR Mach.reg
  by_cases h : a.toNat < M.r.length
  · simp [List.getD_eq_getElem?_getD, h]
  · rw [List.set_eq_of_length_le (by omega)]
theorem setR_comm (M : Mach) (a b u v : Int) (hne : a.toNat ≠ b.toNat) : (M.setR a u).setR b v = (M.setR b v).setR a u := by
  unfold Mach.setR
  simp [List.set_comm _ _ hne]
/-- One register goes to another value, and back. -/
theorem reg_undo {M : Mach} {a : Int} {v u : Int} (hu : u = M.reg a) : (M.setR a v).setR a u = M := by
  subst hu; rw [setR_setR, setR_self]
theorem set_self {α} (l : List α) (k : Nat) (d : α) : l.set k (l.getD k d) = l := by
  by_cases h : k < l.length
  · simp [List.getD_eq_getElem?_getD, h]
  · rw [List.set_eq_of_length_le (by omega)]
theorem getD_set_self {α} (l : List α) (k : Nat) (v d : α) (h : k < l.length) : (l.set k v).getD k d = v := by simp [List.getD_eq_getElem?_getD, h]
theorem getD_set_ne {α} (l : List α) (k j : Nat) (v d : α) (h : k ≠ j) : (l.set k v).getD j d = l.getD j d := by simp [List.getD_eq_getElem?_getD, h]

theorem swap_back {α} (s : List α) (x y : Nat) (d : α) (h : x ≠ y) : (((s.set x (s.getD y d)).set y (s.getD x d)).set x (s.getD x d)).set y (s.getD y d) = s := by
  rw [List.set_comm _ _ (Ne.symm h), List.set_set, List.set_set, set_self, set_self]
/-- Ops that are executed and followed by the next one. -/
def straightB (op : Int) : Bool := decide (0 ≤ op ∧ op ≤ 21 ∨ op = 28 ∨ op = 29)

theorem exchange_undo {M M1 : Mach} (hM : MOk M) {r at_ : Int} (hr : r.toNat < 16) (h : exchange M r at_ = (0, M1)) : MOk M1 ∧ exchange M1 r at_ = (0, M) := by
  unfold exchange at h
  split at h
  · cases h
  · rename_i hc
    injection h with _ h
    subst h
    have hat : at_.toNat < M.m.length := by omega
    have hrl : r.toNat < M.r.length := by rw [hM.rl]; exact hr
    refine ⟨⟨by simp [Mach.setM, Mach.setR, hM.rl], mem_set_i64 hM.rr _ (getD_i64 hM.mr _), mem_set_i64 hM.mr _ (hM.reg r), hM.sr, hM.ir, hM.or_, hM.sl, hM.inl, hM.outl, hM.fp0, by simpa [Mach.setM, Mach.setR] using hM.fp1, hM.sb0, hM.sb1, hM.s1⟩, ?_⟩
    unfold exchange
    rw [if_neg (by simpa [Mach.setM, Mach.setR] using hc)]
    obtain ⟨pc, dir, rr, m, s, calls, fp, sb, inp, out⟩ := M
    simp only [Mach.reg, Mach.setR, Mach.setM] at *
    simp only [List.set_set, getD_set_self _ _ _ _ hat, getD_set_self _ _ _ _ hrl, set_self]

theorem shift_undo {M M1 : Mach} (hM : MOk M) {c d : Int} (h : shift M c d = (0, M1)) : MOk M1 ∧ shift M1 (-c) (-d) = (0, M) := by
  unfold shift at h
  split at h
  · cases h
  · rename_i hc
    injection h with _ h
    subst h
    have f0 := hM.fp0; have f1 := hM.fp1; have b0 := hM.sb0; have b1 := hM.sb1
    refine ⟨⟨hM.rl, hM.rr, hM.mr, hM.sr, hM.ir, hM.or_, hM.sl, hM.inl, hM.outl, by simp; omega, by simp; omega, by simp; omega, by simp; omega, hM.s1⟩, ?_⟩
    unfold shift
    simp only
    rw [if_neg (by omega)]
    obtain ⟨pc, dir, rr, m, s, calls, fp, sb, inp, out⟩ := M
    simp; omega

theorem find_nonneg {M : Mach} (hM : MOk M) {k : Int} (hk : 0 ≤ k) : 0 ≤ find M k := by
  unfold find; have := hM.sb0; split <;> omega
theorem find_zero {M : Mach} (hM : MOk M) {k : Int} (hk : 0 ≤ k) (h : find M k ≠ 0) : 1 ≤ (find M k).toNat := by
  have := find_nonneg hM hk; omega
theorem sr_set {s : List (List Int)} (h : ∀ l ∈ s, ∀ x ∈ l, I64 x) (k : Nat) {l : List Int} (hl : ∀ x ∈ l, I64 x) : ∀ l' ∈ s.set k l, ∀ x ∈ l', I64 x := by
  intro l' hx
  rcases List.mem_or_eq_of_mem_set hx with h1 | rfl
  · exact h l' h1
  · exact hl
theorem sl_set {s : List (List Int)} (h : ∀ k, 1 ≤ k → (s.getD k []).length ≤ 1000) (j : Nat) {l : List Int} (hl : 1 ≤ j → l.length ≤ 1000) : ∀ k, 1 ≤ k → ((s.set j l).getD k []).length ≤ 1000 := by
  intro k hk
  by_cases e : j = k
  · subst e
    by_cases hlt : j < s.length
    · rw [getD_set_self _ _ _ _ hlt]; exact hl hk
    · rw [List.set_eq_of_length_le (by omega)]; exact h _ hk
  · rw [getD_set_ne _ _ _ _ _ e]; exact h k hk

theorem swapS_undo {M M1 : Mach} (hM : MOk M) {a b : Int} (ha : 0 ≤ a) (hb : 0 ≤ b) (h : swapS M a b = (0, M1)) : MOk M1 ∧ swapS M1 a b = (0, M) := by
  unfold swapS at h
  split at h
  · cases h
  split at h
  · cases h
  split at h
  · cases h
  rename_i h1 h2 h3
  injection h with _ h
  subst h
  have fa := find_nonneg hM ha; have fb := find_nonneg hM hb
  have za := find_zero hM ha; have zb := find_zero hM hb
  have ea : ∀ s, find { M with s := s } a = find M a := fun _ => rfl
  have eb : ∀ s, find { M with s := s } b = find M b := fun _ => rfl
  have la := hM.sl (find M a).toNat; have lb := hM.sl (find M b).toNat
  generalize hfa : find M a = x at *
  generalize hfb : find M b = y at *
  have hx : x.toNat < M.s.length := by omega
  have hy : y.toNat < M.s.length := by omega
  have hsa := hM.stk x; have hsb := hM.stk y
  unfold Mach.stk at *
  refine ⟨⟨hM.rl, hM.rr, hM.mr, sr_set (sr_set hM.sr _ hsb) _ hsa, hM.ir, hM.or_, sl_set (sl_set hM.sl _ (fun h => by simp only [not_or, not_and] at h3; have := h3.1 (by omega); omega)) _ (fun h => by simp only [not_or, not_and] at h3; have := h3.2 (by omega); omega), hM.inl, hM.outl, hM.fp0, hM.fp1, hM.sb0, by simpa using hM.sb1, by simpa using hM.s1⟩, ?_⟩
  unfold swapS Mach.stk
  rw [ea, eb]
  simp only [List.length_set]
  rw [if_neg h1, if_neg h2]
  by_cases exy : x.toNat = y.toNat
  · obtain rfl : x = y := by omega
    rw [if_neg ?_]
    · obtain ⟨pc, dir, rr, m, s, calls, fp, sb, inp, out⟩ := M
      simp only at *
      simp only [set_self]
    · simp only [set_self]; exact h3
  · rw [if_neg ?_]
    · obtain ⟨pc, dir, rr, m, s, calls, fp, sb, inp, out⟩ := M
      simp only at *
      simp only [getD_set_self _ _ _ _ (show y.toNat < (s.set x.toNat (s.getD y.toNat [])).length by simpa using hy), getD_set_ne _ _ _ _ _ (Ne.symm exy), getD_set_self _ _ _ _ hx]
      rw [swap_back _ _ _ _ exy]
    · rw [getD_set_self _ _ _ _ (show y.toNat < (M.s.set x.toNat (M.s.getD y.toNat [])).length by simpa using hy), getD_set_ne _ _ _ _ _ (Ne.symm exy), getD_set_self _ _ _ _ hx]
      intro hc
      rcases hc with ⟨hc, hl⟩ | ⟨hc, hl⟩
      · have := la (za hc); omega
      · have := lb (zb hc); omega
end Bk

/- Plain: the instructions on stacks, the input and the output are undone; all instructions that are not of control. -/
set_option linter.unusedVariables false
namespace Bk
open Go (bits BinOp IntKind)
open Go.RowKit (wrap64)

theorem find_setR (M : Mach) (a v k : Int) : find (M.setR a v) k = find M k := by cases M; rfl
theorem find_setS (M : Mach) (a k : Int) (l : List Int) : find (M.setS a l) k = find M k := rfl
theorem stk_setR (M : Mach) (a v k : Int) : (M.setR a v).stk k = M.stk k := by cases M; rfl
theorem stk_setS (M : Mach) (k : Int) (l : List Int) (h : k.toNat < M.s.length) : (M.setS k l).stk k = l := by
  unfold Mach.setS Mach.stk; exact getD_set_self _ _ _ _ h
theorem reg_setS (M : Mach) (a k : Int) (l : List Int) : (M.setS k l).reg a = M.reg a := rfl
theorem s_setR (M : Mach) (a v : Int) : (M.setR a v).s = M.s := by cases M; rfl
theorem slen_setS (M : Mach) (k : Int) (l : List Int) : (M.setS k l).s.length = M.s.length := by simp [Mach.setS]
theorem r_setS (M : Mach) (k : Int) (l : List Int) : (M.setS k l).r = M.r := rfl
theorem setS_setR (M : Mach) (a v k : Int) (l : List Int) : (M.setR a v).setS k l = (M.setS k l).setR a v := rfl
theorem setS_setS (M : Mach) (k : Int) (l l' : List Int) : (M.setS k l).setS k l' = M.setS k l' := by simp [Mach.setS]
theorem setS_self (M : Mach) (k : Int) : M.setS k (M.stk k) = M := by
  unfold Mach.setS Mach.stk; rw [set_self]
theorem MOk.setS {M : Mach} (h : MOk M) (k : Int) {l : List Int} (hl : ∀ x ∈ l, I64 x) (hn : 1 ≤ k.toNat → l.length ≤ 1000) : MOk (M.setS k l) :=
  ⟨h.rl, h.rr, h.mr, sr_set h.sr _ hl, h.ir, h.or_, sl_set h.sl _ hn, h.inl, h.outl, h.fp0, h.fp1, h.sb0, by simpa [Mach.setS] using h.sb1, by simpa [Mach.setS] using h.s1⟩
theorem append_i64 {l : List Int} (h : ∀ x ∈ l, I64 x) {v : Int} (hv : I64 v) : ∀ x ∈ l ++ [v], I64 x := by
  intro x hx
  rcases List.mem_append.1 hx with h1 | h1
  · exact h x h1
  · simp at h1; subst h1; exact hv
theorem dropLast_i64 {l : List Int} (h : ∀ x ∈ l, I64 x) : ∀ x ∈ l.dropLast, I64 x := fun x hx => h x ((List.dropLast_sublist l).subset hx)
theorem last_back {l : List Int} (h : l.length ≠ 0) : l.dropLast ++ [l.getLastD 0] = l := by
  cases l with
  | nil => simp at h
  | cons a l =>
    rw [List.getLastD_eq_getLast?, List.getLast?_eq_some_getLast (by simp)]
    exact List.dropLast_concat_getLast _

theorem stack_undo {M M1 : Mach} (hM : MOk M) {i : Ins} (ha : i.a.toNat < 16) (hb : 0 ≤ i.b) (hop : i.op = 12 ∨ i.op = 13 ∨ i.op = 14 ∨ i.op = 15) (h : stack M i = (0, M1)) :
    MOk M1 ∧ stack M1 { i with op := inv i.op } = (0, M) := by
  have hal : i.a.toNat < M.r.length := by rw [hM.rl]; exact ha
  have zb := find_zero hM hb
  have fb := find_nonneg hM hb
  unfold stack at h
  split at h
  · cases h
  rename_i hk
  have hks : (find M i.b).toNat < M.s.length := by omega
  have hls : 1 ≤ (find M i.b).toNat → (M.stk (find M i.b)).length ≤ 1000 := hM.sl (find M i.b).toNat
  have hst := hM.stk (find M i.b)
  have hlast := last_i64 hst
  rcases hop with hop | hop | hop | hop
  · rw [if_neg (by omega), if_pos hop] at h
    split at h
    · cases h
    rename_i hfull
    injection h with _ h
    subst h
    refine ⟨(hM.setS _ (append_i64 hst (hM.reg _)) (fun h => ?_)).setR _ i64_zero, ?_⟩
    · simp only [not_and, List.length_append, List.length_cons, List.length_nil] at hfull ⊢; have := hfull (by omega); omega
    unfold stack
    simp only [find_setR, find_setS, stk_setR, s_setR, slen_setS, stk_setS _ _ _ hks]
    rw [if_neg hk, if_neg (by rw [hop]; decide), if_neg (by rw [hop]; decide), if_neg (by simp), if_neg (by rw [hop]; decide), if_neg (by rw [reg_set _ _ _ (by rw [r_setS]; exact hal)]; simp)]
    simp only [List.dropLast_concat, List.getLastD_concat, setS_setR, setS_setS, setS_self, setR_setR]
    rw [setR_self]
  · rw [if_neg (by omega), if_neg (by omega)] at h
    split at h
    · cases h
    rename_i hne
    rw [if_neg (by omega)] at h
    split at h
    · cases h
    rename_i hz
    injection h with _ h
    subst h
    refine ⟨(hM.setS _ (dropLast_i64 hst) (fun h => by have := hls h; rw [List.length_dropLast]; omega)).setR _ hlast, ?_⟩
    unfold stack
    simp only [find_setR, find_setS, stk_setR, s_setR, slen_setS, stk_setS _ _ _ hks]
    rw [if_neg hk, if_neg (by rw [hop]; decide), if_pos (by rw [hop]; decide), if_neg ?_]
    · rw [reg_set _ _ _ (by rw [r_setS]; exact hal), last_back hne, setS_setR, setS_setS, setS_self, setR_setR, ← show M.reg i.a = 0 from by omega, setR_self]
    · intro ⟨h1, h2⟩
      have := hls (zb h1)
      rw [List.length_dropLast] at h2
      omega
  · rw [if_neg (by omega), if_neg (by omega)] at h
    split at h
    · cases h
    rename_i hne
    injection h with _ h
    subst h
    refine ⟨hM.setR _ (xor_range _ _), ?_⟩
    unfold stack
    simp only [find_setR, stk_setR, s_setR]
    rw [if_neg hk, if_neg (by rw [hop]; decide), if_neg (by rw [hop]; decide), if_neg hne, if_pos (by rw [hop]; decide), reg_set _ _ _ hal, setR_setR, xor_xor (hM.reg _), setR_self]
  · rw [if_pos hop] at h
    injection h with _ h
    subst h
    refine ⟨hM.setR _ (xor_range _ _), ?_⟩
    unfold stack
    simp only [find_setR, stk_setR, s_setR]
    rw [if_neg hk, if_pos (by rw [hop]; decide), reg_set _ _ _ hal, setR_setR, xor_xor (hM.reg _), setR_self]

theorem head_tail {l : List Int} (h : l.length ≠ 0) : l.headD 0 :: l.tail = l := by
  cases l with
  | nil => simp at h
  | cons a l => rfl
theorem headD_i64 {l : List Int} (h : ∀ x ∈ l, I64 x) : I64 (l.headD 0) := by
  cases l with
  | nil => exact i64_zero
  | cons a l => exact h a (by simp)

theorem zero_undo {M : Mach} {a : Int} (v : Int) (hz : M.reg a = 0) : (M.setR a v).setR a 0 = M := reg_undo hz.symm
theorem setIn_setR (M : Mach) (a v : Int) (l : List Int) : (M.setIn l).setR a v = (M.setR a v).setIn l := rfl
theorem setOut_setR (M : Mach) (a v : Int) (l : List Int) : (M.setOut l).setR a v = (M.setR a v).setOut l := rfl
theorem setIn_setIn (M : Mach) (l l' : List Int) : (M.setIn l).setIn l' = M.setIn l' := rfl
theorem setOut_setOut (M : Mach) (l l' : List Int) : (M.setOut l).setOut l' = M.setOut l' := rfl
theorem setIn_self (M : Mach) : M.setIn M.inp = M := rfl
theorem setOut_self (M : Mach) : M.setOut M.out = M := rfl
theorem reg_setIn (M : Mach) (a : Int) (l : List Int) : (M.setIn l).reg a = M.reg a := rfl
theorem reg_setOut (M : Mach) (a : Int) (l : List Int) : (M.setOut l).reg a = M.reg a := rfl
theorem MOk.setIn {M : Mach} (h : MOk M) {l : List Int} (hl : ∀ x ∈ l, I64 x) (hn : l.length ≤ 4096) : MOk (M.setIn l) :=
  ⟨h.rl, h.rr, h.mr, h.sr, hl, h.or_, h.sl, hn, h.outl, h.fp0, h.fp1, h.sb0, h.sb1, h.s1⟩
theorem MOk.setOut {M : Mach} (h : MOk M) {l : List Int} (hl : ∀ x ∈ l, I64 x) (hn : l.length ≤ 4096) : MOk (M.setOut l) :=
  ⟨h.rl, h.rr, h.mr, h.sr, h.ir, hl, h.sl, h.inl, hn, h.fp0, h.fp1, h.sb0, h.sb1, h.s1⟩

theorem transfer_undo {M M1 : Mach} (hM : MOk M) {i : Ins} (ha : i.a.toNat < 16) (hop : i.op = 17 ∨ i.op = 18 ∨ i.op = 19 ∨ i.op = 20) (h : transfer M i = (0, M1)) :
    MOk M1 ∧ transfer M1 { i with op := inv i.op } = (0, M) := by
  have hal : i.a.toNat < M.r.length := by rw [hM.rl]; exact ha
  have hil := hM.inl
  have hol := hM.outl
  obtain ⟨op, a, b, c, d⟩ := i
  simp only at hal ha hop
  unfold transfer at h
  simp only at h
  rcases hop with rfl | rfl | rfl | rfl
  · rw [if_neg (by omega)] at h
    split at h
    · cases h
    rename_i hne
    split at h
    · cases h
    rename_i hz
    rw [if_pos rfl] at h
    injection h with _ h
    have hne' : M.inp.length ≠ 0 := fun e => hne (.inl ⟨rfl, e⟩)
    have hz' : M.reg a = 0 := by
      rcases Int.lt_trichotomy (M.reg a) 0 with e | e | e
      · exact absurd ⟨.inl rfl, by omega⟩ hz
      · exact e
      · exact absurd ⟨.inl rfl, by omega⟩ hz
    have e : M1.reg a = M.inp.headD 0 := by rw [← h, reg_setIn, reg_set _ _ _ hal]
    have e2 : M1.inp = M.inp.tail := by rw [← h]; rfl
    refine ⟨by rw [← h]; exact (hM.setR _ (headD_i64 hM.ir)).setIn (fun x hx => hM.ir x (List.mem_of_mem_tail hx)) (by simp; omega), ?_⟩
    unfold transfer
    simp only [show inv 17 = 18 from by decide]
    rw [if_neg (by rw [e2, List.length_tail]; omega), if_neg (by omega), if_neg (by omega), if_neg (by omega), if_pos trivial, e, e2, head_tail hne', ← h]
    simp only [setIn_setR, setIn_setIn, zero_undo _ hz', setIn_self]
  · split at h
    · cases h
    rename_i hf
    rw [if_neg (by omega), if_neg (by omega), if_neg (by omega), if_pos rfl] at h
    injection h with _ h
    have hf' : M.inp.length < 4096 := by
      rcases Nat.lt_or_ge M.inp.length 4096 with e | e
      · exact e
      · exact absurd (.inl ⟨rfl, e⟩) hf
    have e : M1.reg a = 0 := by rw [← h, reg_setIn, reg_set _ _ _ hal]
    have e2 : M1.inp = M.reg a :: M.inp := by rw [← h]; rfl
    refine ⟨by rw [← h]; exact (hM.setR _ i64_zero).setIn (fun x hx => by rcases List.mem_cons.1 hx with rfl | h; exact hM.reg _; exact hM.ir x h) (by simp; omega), ?_⟩
    unfold transfer
    simp only [show inv 18 = 17 from by decide]
    rw [if_neg (by omega), if_neg (by rw [e2]; simp), if_neg (by rw [e]; simp), if_pos trivial, e2, ← h]
    simp only [List.headD_cons, List.tail_cons, setIn_setR, setIn_setIn, setR_setR, setR_self, setIn_self]
  · split at h
    · cases h
    rename_i hf
    rw [if_neg (by omega), if_neg (by omega), if_neg (by omega), if_neg (by omega), if_pos rfl] at h
    injection h with _ h
    have hf' : M.out.length < 4096 := by
      rcases Nat.lt_or_ge M.out.length 4096 with e | e
      · exact e
      · exact absurd (.inr ⟨rfl, e⟩) hf
    have e : M1.reg a = 0 := by rw [← h, reg_setOut, reg_set _ _ _ hal]
    have e2 : M1.out = M.out ++ [M.reg a] := by rw [← h]; rfl
    refine ⟨by rw [← h]; exact (hM.setR _ i64_zero).setOut (append_i64 hM.or_ (hM.reg _)) (by simp; omega), ?_⟩
    unfold transfer
    simp only [show inv 19 = 20 from by decide]
    rw [if_neg (by omega), if_neg (by rw [e2]; simp), if_neg (by rw [e]; simp), if_neg (by omega), if_neg (by omega), if_neg (by omega), e2, ← h]
    simp only [List.dropLast_concat, List.getLastD_concat, setOut_setR, setOut_setOut, setR_setR, setR_self, setOut_self]
  · rw [if_neg (by omega)] at h
    split at h
    · cases h
    rename_i hne
    split at h
    · cases h
    rename_i hz
    rw [if_neg (by omega), if_neg (by omega), if_neg (by omega)] at h
    injection h with _ h
    have hne' : M.out.length ≠ 0 := fun e => hne (.inr ⟨rfl, e⟩)
    have hz' : M.reg a = 0 := by
      rcases Int.lt_trichotomy (M.reg a) 0 with e | e | e
      · exact absurd ⟨.inr rfl, by omega⟩ hz
      · exact e
      · exact absurd ⟨.inr rfl, by omega⟩ hz
    have e : M1.reg a = M.out.getLastD 0 := by rw [← h, reg_setOut, reg_set _ _ _ hal]
    have e2 : M1.out = M.out.dropLast := by rw [← h]; rfl
    refine ⟨by rw [← h]; exact (hM.setR _ (last_i64 hM.or_)).setOut (dropLast_i64 hM.or_) (by simp; omega), ?_⟩
    unfold transfer
    simp only [show inv 20 = 19 from by decide]
    rw [if_neg (by rw [e2, List.length_dropLast]; omega), if_neg (by omega), if_neg (by omega), if_neg (by omega), if_neg (by omega), if_pos trivial, e, e2, last_back hne', ← h]
    simp only [setOut_setR, setOut_setOut, zero_undo _ hz', setOut_self]

theorem exec_undo {M M1 : Mach} (hM : MOk M) {i : Ins} (hs : straightB i.op = true) (hv : i.valid = true) (h : exec M i = (0, M1)) : MOk M1 ∧ exec M1 i.inverse = (0, M) := by
  obtain ⟨op, a, b, c, d⟩ := i
  have hs' : 0 ≤ op ∧ op ≤ 21 ∨ op = 28 ∨ op = 29 := of_decide_eq_true hs
  simp only [Ins.valid, validB, Bool.and_eq_true] at hv
  obtain ⟨⟨_, _⟩, hsh⟩ := hv
  have rl := hM.rl
  have rg := hM.reg a
  have two : ∀ (x : Int), (M.setR a x).r.length = 16 := fun x => by simp [Mach.setR, rl]
  have ok : ∀ {v : Int}, I64 v → MOk (M.setR a v) := fun hv => hM.setR a hv
  have e : op = 0 ∨ op = 1 ∨ op = 2 ∨ op = 3 ∨ op = 4 ∨ op = 5 ∨ op = 6 ∨ op = 7 ∨ op = 8 ∨ op = 9 ∨ op = 10 ∨ op = 11 ∨ op = 12 ∨ op = 13 ∨ op = 14 ∨ op = 15 ∨ op = 16 ∨ op = 17 ∨ op = 18 ∨ op = 19 ∨ op = 20 ∨ op = 21 ∨ op = 28 ∨ op = 29 := by omega
  clear hs hs'
  rcases e with rfl | rfl | rfl | rfl | rfl | rfl | rfl | rfl | rfl | rfl | rfl | rfl | rfl | rfl | rfl | rfl | rfl | rfl | rfl | rfl | rfl | rfl | rfl | rfl
  · rw [inverse_0]
    rw [exec_0] at h
    rw [show exec M1 ⟨0, a, b, c, d⟩ = _ from exec_0 M1 a b c d]
    have e := h
    injection e with _ e; subst e; exact ⟨hM, rfl⟩
  · rw [inverse_1]
    rw [exec_1] at h
    rw [show exec M1 ⟨2, a, b, c, d⟩ = _ from exec_2 M1 a b c d]
    have e := h
    simp [shapeB, regB] at hsh
    injection e with _ e; subst e
    refine ⟨ok (wrap64_range _), ?_⟩
    rw [reg_set _ _ _ (by omega), reg_ne _ _ _ _ (by omega), wrap_add_sub rg, setR_setR, setR_self]
  · rw [inverse_2]
    rw [exec_2] at h
    rw [show exec M1 ⟨1, a, b, c, d⟩ = _ from exec_1 M1 a b c d]
    have e := h
    simp [shapeB, regB] at hsh
    injection e with _ e; subst e
    refine ⟨ok (wrap64_range _), ?_⟩
    rw [reg_set _ _ _ (by omega), reg_ne _ _ _ _ (by omega), wrap_sub_add rg, setR_setR, setR_self]
  · rw [inverse_3]
    rw [exec_3] at h
    rw [show exec M1 ⟨3, a, b, c, d⟩ = _ from exec_3 M1 a b c d]
    have e := h
    simp [shapeB, regB] at hsh
    injection e with _ e; subst e
    refine ⟨ok (xor_range _ _), ?_⟩
    rw [reg_set _ _ _ (by omega), reg_ne _ _ _ _ (by omega), xor_xor rg, setR_setR, setR_self]
  · rw [inverse_4]
    rw [exec_4] at h
    rw [show exec M1 ⟨5, a, b, c, d⟩ = _ from exec_5 M1 a b c d]
    have e := h
    simp [shapeB, regB] at hsh
    injection e with _ e; subst e
    refine ⟨ok (wrap64_range _), ?_⟩
    rw [reg_set _ _ _ (by omega), wrap_add_sub rg, setR_setR, setR_self]
  · rw [inverse_5]
    rw [exec_5] at h
    rw [show exec M1 ⟨4, a, b, c, d⟩ = _ from exec_4 M1 a b c d]
    have e := h
    simp [shapeB, regB] at hsh
    injection e with _ e; subst e
    refine ⟨ok (wrap64_range _), ?_⟩
    rw [reg_set _ _ _ (by omega), wrap_sub_add rg, setR_setR, setR_self]
  · rw [inverse_6]
    rw [exec_6] at h
    rw [show exec M1 ⟨6, a, b, c, d⟩ = _ from exec_6 M1 a b c d]
    have e := h
    simp [shapeB, regB] at hsh
    injection e with _ e; subst e
    refine ⟨ok (xor_range _ _), ?_⟩
    rw [reg_set _ _ _ (by omega), xor_xor rg, setR_setR, setR_self]
  · rw [inverse_7]
    rw [exec_7] at h
    rw [show exec M1 ⟨7, a, b, c, d⟩ = _ from exec_7 M1 a b c d]
    have e := h
    simp [shapeB, regB] at hsh
    injection e with _ e; subst e
    refine ⟨(hM.setR a (hM.reg b)).setR b rg, ?_⟩
    rw [reg_set _ b _ (by rw [two]; omega)]
    by_cases hab : a.toNat = b.toNat
    · obtain rfl : a = b := by omega
      simp only [setR_setR, setR_self]
    · rw [reg_ne _ b a _ (by omega), reg_set _ a _ (by omega), setR_comm _ b a _ _ (by omega), setR_setR, setR_setR, setR_self, setR_self]
  · rw [inverse_8]
    rw [exec_8] at h
    rw [show exec M1 ⟨8, a, b, c, d⟩ = _ from exec_8 M1 a b c d]
    have e := h
    simp [shapeB, regB] at hsh
    injection e with _ e; subst e
    refine ⟨ok (wrap64_range _), ?_⟩
    rw [reg_set _ _ _ (by omega), wrap_neg_neg rg, setR_setR, setR_self]
  · rw [inverse_9]
    rw [exec_9] at h
    rw [show exec M1 ⟨9, a, b, c, d⟩ = _ from exec_9 M1 a b c d]
    have e := h
    simp [shapeB, regB] at hsh
    split at e
    · rename_i hn; exact absurd (congrArg Prod.fst e) hn
    rename_i hn
    injection e with _ e; subst e
    refine ⟨ok (xor_range _ _), ?_⟩
    rw [reg_ne _ _ b _ (by omega), reg_ne _ _ c _ (by omega), if_neg hn, reg_set _ _ _ (by omega), xor_xor rg, setR_setR, setR_self]
  · rw [inverse_10]
    rw [exec_10] at h
    rw [show exec M1 ⟨10, a, b, c, d⟩ = _ from exec_10 M1 a b c d]
    have e := h
    simp [shapeB, regB] at hsh
    have fpk : M1.fp = M.fp := by unfold exchange at e; split at e; cases e; injection e with _ e; rw [← e]; rfl
    obtain ⟨h1, h2⟩ := exchange_undo hM (by omega) e
    refine ⟨h1, ?_⟩
    rw [fpk, h2]
  · rw [inverse_11]
    rw [exec_11] at h
    rw [show exec M1 ⟨11, a, b, c, d⟩ = _ from exec_11 M1 a b c d]
    have e := h
    simp [shapeB, regB] at hsh
    split at e
    · cases e
    rename_i hn
    have fpk : M1.fp = M.fp ∧ M1.reg b = M.reg b := by
      unfold exchange at e; split at e; cases e; injection e with _ e; rw [← e]
      exact ⟨rfl, reg_ne _ _ _ _ (by omega)⟩
    obtain ⟨h1, h2⟩ := exchange_undo hM (by omega) e
    refine ⟨h1, ?_⟩
    rw [fpk.1, fpk.2, if_neg hn, h2]
  · rw [inverse_12]
    rw [exec_12] at h
    rw [show exec M1 ⟨13, a, b, c, d⟩ = _ from exec_13 M1 a b c d]
    have e := h
    simp [shapeB, regB, numB] at hsh
    exact stack_undo hM (by simp; omega) (by simp; omega) (by simp) e
  · rw [inverse_13]
    rw [exec_13] at h
    rw [show exec M1 ⟨12, a, b, c, d⟩ = _ from exec_12 M1 a b c d]
    have e := h
    simp [shapeB, regB, numB] at hsh
    exact stack_undo hM (by simp; omega) (by simp; omega) (by simp) e
  · rw [inverse_14]
    rw [exec_14] at h
    rw [show exec M1 ⟨14, a, b, c, d⟩ = _ from exec_14 M1 a b c d]
    have e := h
    simp [shapeB, regB, numB] at hsh
    exact stack_undo hM (by simp; omega) (by simp; omega) (by simp) e
  · rw [inverse_15]
    rw [exec_15] at h
    rw [show exec M1 ⟨15, a, b, c, d⟩ = _ from exec_15 M1 a b c d]
    have e := h
    simp [shapeB, regB, numB] at hsh
    exact stack_undo hM (by simp; omega) (by simp; omega) (by simp) e
  · rw [inverse_16]
    rw [exec_16] at h
    rw [show exec M1 ⟨16, a, b, c, d⟩ = _ from exec_16 M1 a b c d]
    have e := h
    simp [shapeB, numB] at hsh
    exact swapS_undo hM (by omega) (by omega) e
  · rw [inverse_17]
    rw [exec_17] at h
    rw [show exec M1 ⟨18, a, b, c, d⟩ = _ from exec_18 M1 a b c d]
    have e := h
    simp [shapeB, regB] at hsh
    exact transfer_undo hM (by simp; omega) (by simp) e
  · rw [inverse_18]
    rw [exec_18] at h
    rw [show exec M1 ⟨17, a, b, c, d⟩ = _ from exec_17 M1 a b c d]
    have e := h
    simp [shapeB, regB] at hsh
    exact transfer_undo hM (by simp; omega) (by simp) e
  · rw [inverse_19]
    rw [exec_19] at h
    rw [show exec M1 ⟨20, a, b, c, d⟩ = _ from exec_20 M1 a b c d]
    have e := h
    simp [shapeB, regB] at hsh
    exact transfer_undo hM (by simp; omega) (by simp) e
  · rw [inverse_20]
    rw [exec_20] at h
    rw [show exec M1 ⟨19, a, b, c, d⟩ = _ from exec_19 M1 a b c d]
    have e := h
    simp [shapeB, regB] at hsh
    exact transfer_undo hM (by simp; omega) (by simp) e
  · rw [inverse_21]
    rw [exec_21] at h
    rw [show exec M1 ⟨21, a, b, c, d⟩ = _ from exec_21 M1 a b c d]
    have e := h
    simp [shapeB] at hsh
    split at e
    · have := congrArg Prod.fst e; simp at this; omega
    · rename_i hn
      injection e with _ e; subst e
      refine ⟨hM, ?_⟩
      show (if M.reg a ≠ 0 then (b, M) else (0, M)) = _
      rw [if_neg hn]
  · rw [inverse_28]
    rw [exec_28] at h
    rw [show exec M1 ⟨29, a, b, c, d⟩ = _ from exec_29 M1 a b c d]
    have e := h
    exact shift_undo hM e
  · rw [inverse_29]
    rw [exec_29] at h
    rw [show exec M1 ⟨28, a, b, c, d⟩ = _ from exec_28 M1 a b c d]
    have e := h
    obtain ⟨h1, h2⟩ := shift_undo hM e
    refine ⟨h1, ?_⟩
    rw [Int.neg_neg, Int.neg_neg] at h2; exact h2
end Bk

/- Plain: every step of a machine that fits a valid image is undone by a step of the turned machine, and the machine fits all the time. -/
set_option linter.unusedVariables false
namespace Bk
open Go.RowKit (wrap64)

def Mach.at_ (M : Mach) (p d : Int) : Mach := { M with pc := p, dir := d }
theorem at_self (M : Mach) : M.at_ M.pc M.dir = M := rfl
theorem at_at (M : Mach) (p d p' d' : Int) : (M.at_ p d).at_ p' d' = M.at_ p' d' := rfl
theorem turn_at (M : Mach) (p d : Int) : (M.at_ p d).turn = M.at_ p (-d) := rfl
theorem turn_eq (M : Mach) : M.turn = M.at_ M.pc (-M.dir) := rfl

/-- The second result is that at another position and direction. -/
def AtB (p d : Int) (x y : Int × Mach) : Prop := x = (y.1, y.2.at_ p d)
theorem AtB.ite {p d : Int} {c : Prop} [Decidable c] {a b a' b' : Int × Mach} (h : AtB p d a b) (h' : AtB p d a' b') : AtB p d (if c then a else a') (if c then b else b') := by
  split <;> assumption
theorem AtB.mk (p d e : Int) (M : Mach) : AtB p d (e, M.at_ p d) (e, M) := rfl
theorem exchange_at (M : Mach) (r a p d : Int) : AtB p d (exchange (M.at_ p d) r a) (exchange M r a) := by
  unfold exchange; exact AtB.ite rfl rfl
theorem shift_at (M : Mach) (r a p d : Int) : AtB p d (shift (M.at_ p d) r a) (shift M r a) := by
  unfold shift; exact AtB.ite rfl rfl
theorem swapS_at (M : Mach) (r a p d : Int) : AtB p d (swapS (M.at_ p d) r a) (swapS M r a) := by
  unfold swapS; exact AtB.ite rfl (AtB.ite rfl (AtB.ite rfl rfl))
theorem stack_at (M : Mach) (i : Ins) (p d : Int) : AtB p d (stack (M.at_ p d) i) (stack M i) := by
  unfold stack; exact AtB.ite rfl (AtB.ite rfl (AtB.ite (AtB.ite rfl rfl) (AtB.ite rfl (AtB.ite rfl (AtB.ite rfl rfl)))))
theorem transfer_at (M : Mach) (i : Ins) (p d : Int) : AtB p d (transfer (M.at_ p d) i) (transfer M i) := by
  unfold transfer; exact AtB.ite rfl (AtB.ite rfl (AtB.ite rfl (AtB.ite rfl (AtB.ite rfl (AtB.ite rfl rfl)))))
theorem exec_at (M : Mach) (i : Ins) (p d : Int) : exec (M.at_ p d) i = ((exec M i).1, (exec M i).2.at_ p d) := by
  show AtB p d (exec (M.at_ p d) i) (exec M i)
  unfold exec
  exact AtB.ite rfl (AtB.ite rfl (AtB.ite rfl (AtB.ite rfl (AtB.ite rfl (AtB.ite rfl (AtB.ite rfl (AtB.ite rfl (AtB.ite rfl (AtB.ite (AtB.ite rfl rfl) (AtB.ite (AtB.ite rfl rfl)
    (AtB.ite (exchange_at _ _ _ _ _) (AtB.ite (AtB.ite rfl (exchange_at _ _ _ _ _)) (AtB.ite (shift_at _ _ _ _ _) (AtB.ite (shift_at _ _ _ _ _) (AtB.ite (swapS_at _ _ _ _ _) (AtB.ite (stack_at _ _ _ _) (transfer_at _ _ _ _)))))))))))))))))

/-- What an instruction leaves alone. -/
def KeepB (M : Mach) (x : Int × Mach) : Prop := x.2.pc = M.pc ∧ x.2.dir = M.dir ∧ x.2.calls = M.calls ∧ x.2.m.length = M.m.length ∧ x.2.s.length = M.s.length
theorem KeepB.ite {M : Mach} {c : Prop} [Decidable c] {a b : Int × Mach} (h : KeepB M a) (h' : KeepB M b) : KeepB M (if c then a else b) := by
  split <;> assumption
theorem KeepB.self (M : Mach) (e : Int) : KeepB M (e, M) := ⟨rfl, rfl, rfl, rfl, rfl⟩
theorem KeepB.mk {M N : Mach} (e : Int) (h1 : N.pc = M.pc) (h2 : N.dir = M.dir) (h3 : N.calls = M.calls) (h4 : N.m.length = M.m.length) (h5 : N.s.length = M.s.length) : KeepB M (e, N) := ⟨h1, h2, h3, h4, h5⟩
theorem KeepB.r {M : Mach} (e a v : Int) : KeepB M (e, M.setR a v) := ⟨rfl, rfl, rfl, rfl, rfl⟩
theorem exchange_keeps (M : Mach) (r a : Int) : KeepB M (exchange M r a) := by
  unfold exchange; exact KeepB.ite (KeepB.self _ _) (KeepB.mk _ rfl rfl rfl (by simp [Mach.setM, Mach.setR]) rfl)
theorem shift_keeps (M : Mach) (r a : Int) : KeepB M (shift M r a) := by
  unfold shift; exact KeepB.ite (KeepB.self _ _) (KeepB.mk _ rfl rfl rfl rfl rfl)
theorem swapS_keeps (M : Mach) (r a : Int) : KeepB M (swapS M r a) := by
  unfold swapS; exact KeepB.ite (KeepB.self _ _) (KeepB.ite (KeepB.self _ _) (KeepB.ite (KeepB.self _ _) (KeepB.mk _ rfl rfl rfl rfl (by simp))))
theorem stack_keeps (M : Mach) (i : Ins) : KeepB M (stack M i) := by
  unfold stack
  exact KeepB.ite (KeepB.self _ _) (KeepB.ite (KeepB.r _ _ _) (KeepB.ite (KeepB.ite (KeepB.self _ _) (KeepB.mk _ rfl rfl rfl rfl (by simp [Mach.setS, Mach.setR]))) (KeepB.ite (KeepB.self _ _) (KeepB.ite (KeepB.r _ _ _) (KeepB.ite (KeepB.self _ _) (KeepB.mk _ rfl rfl rfl rfl (by simp [Mach.setS, Mach.setR])))))))
theorem transfer_keeps (M : Mach) (i : Ins) : KeepB M (transfer M i) := by
  unfold transfer
  have k : ∀ (e : Int) (N : Mach), N = N → KeepB M (e, M) := fun e _ _ => KeepB.self _ _
  exact KeepB.ite (KeepB.self _ _) (KeepB.ite (KeepB.self _ _) (KeepB.ite (KeepB.self _ _) (KeepB.ite (KeepB.mk _ rfl rfl rfl rfl rfl) (KeepB.ite (KeepB.mk _ rfl rfl rfl rfl rfl) (KeepB.ite (KeepB.mk _ rfl rfl rfl rfl rfl) (KeepB.mk _ rfl rfl rfl rfl rfl))))))
theorem exec_keeps (M : Mach) (i : Ins) : KeepB M (exec M i) := by
  unfold exec
  exact KeepB.ite (KeepB.self _ _) (KeepB.ite (KeepB.r _ _ _) (KeepB.ite (KeepB.r _ _ _) (KeepB.ite (KeepB.r _ _ _) (KeepB.ite (KeepB.r _ _ _) (KeepB.ite (KeepB.r _ _ _) (KeepB.ite (KeepB.r _ _ _) (KeepB.ite (KeepB.mk _ rfl rfl rfl rfl rfl) (KeepB.ite (KeepB.r _ _ _)
    (KeepB.ite (KeepB.ite (KeepB.self _ _) (KeepB.r _ _ _)) (KeepB.ite (KeepB.ite (KeepB.self _ _) (KeepB.self _ _)) (KeepB.ite (exchange_keeps _ _ _) (KeepB.ite (KeepB.ite (KeepB.self _ _) (exchange_keeps _ _ _)) (KeepB.ite (shift_keeps _ _ _) (KeepB.ite (shift_keeps _ _ _) (KeepB.ite (swapS_keeps _ _ _) (KeepB.ite (stack_keeps _ _) (transfer_keeps _ _)))))))))))))))))

theorem jump_not_land {a : Int} (h : jumpB a = true) : landB a = false := by
  have := of_decide_eq_true h; apply decide_eq_false; omega
theorem land_not_jump {a : Int} (h : landB a = true) : jumpB a = false := by
  have := of_decide_eq_true h; apply decide_eq_false; omega
theorem pairB_sym {a b : Int} {bf : Bool} (h : pairB a b bf = true) : pairB b a (!bf) = true := by
  unfold pairB at h ⊢
  by_cases ja : jumpB a = true
  · rw [if_pos ja] at h
    rw [if_neg (by rw [land_not_jump h]; simp), if_pos h, ja]
  rw [if_neg ja] at h
  by_cases la : landB a = true
  · rw [if_pos la] at h
    rw [if_pos h, la]
  rw [if_neg la] at h
  cases bf with
  | true =>
    simp only [if_true, Bool.and_eq_true, decide_eq_true_eq] at h
    obtain ⟨rfl, rfl⟩ := h
    decide
  | false =>
    simp only [Bool.false_eq_true, if_false, Bool.and_eq_true, decide_eq_true_eq] at h
    obtain ⟨rfl, rfl⟩ := h
    decide
theorem pairB_irrefl {a : Int} {bf : Bool} (h : pairB a a bf = true) : False := by
  unfold pairB at h
  by_cases ja : jumpB a = true
  · rw [if_pos ja, jump_not_land ja] at h; cases h
  rw [if_neg ja] at h
  by_cases la : landB a = true
  · rw [if_pos la] at h; exact ja h
  rw [if_neg la] at h
  cases bf <;> simp at h <;> omega
theorem partner_sym {code : Prg} {i : Int} (h : (partner code i).2 = true) : partner code (partner code i).1 = (i, true) := by
  obtain ⟨a1, a2, a3, a4, a5, a6, a7, a8, a9⟩ := partner_inv h
  generalize (partner code i).1 = p at *
  obtain ⟨k, rfl⟩ := Int.eq_ofNat_of_zero_le a3
  obtain ⟨j, rfl⟩ := Int.eq_ofNat_of_zero_le a1
  simp only [Int.toNat_natCast] at *
  have hne : j ≠ k := by
    rintro rfl
    exact pairB_irrefl a9
  rw [partner_eq code k (by omega) rfl a8 (by rw [Int.toNat_natCast]) a5 a7 a6]
  rw [if_neg (fun h => by rcases h with h | h | h; cases h; omega; omega), if_neg (by simp), if_neg (by simp), if_pos ?_]
  have := pairB_sym a9
  rwa [show decide ((k : Int) < j) = !decide ((j : Int) < k) from by rw [← decide_not, decide_eq_decide]; omega]

theorem inv_valid' {x : Ins} (h : x.valid = true) (h0 : 0 ≤ x.op) : x.inverse.valid = true := by
  obtain ⟨op, a, b, c, d⟩ := x
  have h35 : op < 35 := by
    unfold Ins.valid validB at h
    simp only [Bool.and_eq_true, decide_eq_true_eq] at h
    exact h.1.1
  rcases op_cases op h0 h35 with rfl | rfl | rfl | rfl | rfl | rfl | rfl | rfl | rfl | rfl | rfl | rfl | rfl | rfl | rfl | rfl | rfl | rfl | rfl | rfl | rfl | rfl | rfl | rfl | rfl | rfl | rfl | rfl | rfl | rfl | rfl | rfl | rfl | rfl | rfl
  all_goals exact h
theorem inv_out {op : Int} (h : op < 0 ∨ 34 ≤ op) : inv op = op := by
  unfold inv; repeat (first | rw [if_neg (by omega)])
theorem inv_inv {op : Int} : inv (inv op) = op := by
  by_cases h : op < 0 ∨ 34 ≤ op
  · rw [inv_out h, inv_out h]
  · rcases op_cases op (by omega) (by omega) with rfl | rfl | rfl | rfl | rfl | rfl | rfl | rfl | rfl | rfl | rfl | rfl | rfl | rfl | rfl | rfl | rfl | rfl | rfl | rfl | rfl | rfl | rfl | rfl | rfl | rfl | rfl | rfl | rfl | rfl | rfl | rfl | rfl | rfl | rfl <;> decide
theorem inv_straight {o : Int} (ho : straightB o = true) : straightB (inv o) = true := by
  have h := of_decide_eq_true ho
  have c : o = 0 ∨ o = 1 ∨ o = 2 ∨ o = 3 ∨ o = 4 ∨ o = 5 ∨ o = 6 ∨ o = 7 ∨ o = 8 ∨ o = 9 ∨ o = 10 ∨ o = 11 ∨ o = 12 ∨ o = 13 ∨ o = 14 ∨ o = 15 ∨ o = 16 ∨ o = 17 ∨ o = 18 ∨ o = 19 ∨ o = 20 ∨ o = 21 ∨ o = 28 ∨ o = 29 := by omega
  rcases c with rfl | rfl | rfl | rfl | rfl | rfl | rfl | rfl | rfl | rfl | rfl | rfl | rfl | rfl | rfl | rfl | rfl | rfl | rfl | rfl | rfl | rfl | rfl | rfl <;> decide
theorem ctl_iff {o : Int} : (jumpB o = true ∨ landB o = true) ↔ 22 ≤ o ∧ o ≤ 27 := by
  unfold jumpB landB; simp only [decide_eq_true_eq]; omega
theorem pairB_ctl {x y : Int} {bf : Bool} (h : pairB x y bf = true) (hx : 22 ≤ x ∧ x ≤ 27) : jumpB x = true ∧ landB y = true ∨ landB x = true ∧ jumpB y = true := by
  unfold pairB at h
  rcases ctl_iff.2 hx with e | e
  · rw [if_pos e] at h; exact .inl ⟨e, h⟩
  · rw [if_neg (by rw [land_not_jump e]; simp), if_pos e] at h; exact .inr ⟨e, h⟩
theorem inverse_inverse (x : Ins) : x.inverse.inverse = x := by
  obtain ⟨op, a, b, c, d⟩ := x; simp [Ins.inverse, inv_inv]

/-- What is said of every instruction of a valid image. -/
theorem fault_facts {code : Prg} {k : Nat} (h : fault code k = 0) : (code.getD k default).valid = true ∧
    (((code.getD k default).op = 30 ∨ (code.getD k default).op = 31) → (partner code (code.getD k default).a).2 = true ∧ (code.getD (code.getD k default).a.toNat default).op = 32) ∧
    (((code.getD k default).op = 32 ∨ (code.getD k default).op = 33 ∨ (22 ≤ (code.getD k default).op ∧ (code.getD k default).op ≤ 27)) → (partner code k).2 = true) := by
  have hv := (fault_zero h).1
  unfold fault at h
  simp only at h
  rw [if_neg (by rw [hv]; simp)] at h
  generalize hx : code.getD k default = x at *
  refine ⟨hv, fun hc => ?_, fun hc => ?_⟩
  · have ht : x.target = (x.a, true) := by unfold Ins.target targetP; rw [if_pos (by omega)]
    rw [ht] at h
    simp only at h
    rw [if_neg (by simp), if_pos hc] at h
    split at h
    · cases h
    · rename_i h2
      refine ⟨?_, ?_⟩
      · cases hp : (partner code x.a).2
        · exact absurd (Or.inl hp) h2
        · rfl
      · rcases Int.lt_trichotomy (code.getD x.a.toNat default).op 32 with e | e | e
        · exact absurd (Or.inr (by omega)) h2
        · exact e
        · exact absurd (Or.inr (by omega)) h2
  · have ht : x.target.2 = true := by
      unfold Ins.target targetP
      by_cases h1 : x.op = 22 ∨ x.op = 25 ∨ x.op = 30 ∨ x.op = 31 ∨ x.op = 32 ∨ x.op = 33
      · rw [if_pos h1]
      · rw [if_neg h1, if_pos (by omega)]
    rw [if_neg (by rw [ht]; simp), if_neg (by omega)] at h
    split at h
    · cases h
    · rename_i h2; simpa using h2

/-- A machine (of well-formed numbers) fits. -/
structure Fit (im : Img) (M : Mach) : Prop where
  ok : MOk M
  d : M.dir = 1 ∨ M.dir = -1
  p0 : 0 ≤ M.pc
  p1 : M.pc ≤ im.code.length
  ml : (M.m.length : Int) = im.mem
  sn : (M.s.length : Int) = im.stacks
  cl : M.calls.length ≤ 100
  cs : ∀ a ∈ M.calls, 0 ≤ a.1 ∧ a.1 < im.code.length

theorem Fit.turn {im : Img} {M : Mach} (h : Fit im M) : Fit im M.turn :=
  ⟨⟨h.ok.rl, h.ok.rr, h.ok.mr, h.ok.sr, h.ok.ir, h.ok.or_, h.ok.sl, h.ok.inl, h.ok.outl, h.ok.fp0, h.ok.fp1, h.ok.sb0, h.ok.sb1, h.ok.s1⟩, by simp [Mach.turn]; rcases h.d with e | e <;> simp [e], h.p0, h.p1, h.ml, h.sn, h.cl, h.cs⟩
theorem MOk.at_ {M : Mach} (h : MOk M) (p d : Int) : MOk (M.at_ p d) := ⟨h.rl, h.rr, h.mr, h.sr, h.ir, h.or_, h.sl, h.inl, h.outl, h.fp0, h.fp1, h.sb0, h.sb1, h.s1⟩

theorem turn_turn (M : Mach) : M.turn.turn = M := by
  obtain ⟨pc, dir, r, m, s, calls, fp, sb, inp, out⟩ := M; simp [Mach.turn]

/-- The instruction that the next step executes. -/
def nextAt (M : Mach) : Int := if M.dir < 0 then M.pc - 1 else M.pc

theorem step_eq (code : Prg) (M : Mach) : step code M =
    if nextAt M < 0 ∨ (code.length : Int) ≤ nextAt M then (4, M)
    else if (code.getD (nextAt M).toNat default).op = 34 then (4, M)
    else if (code.getD (nextAt M).toNat default).valid = false then (3, M)
    else if (code.getD (nextAt M).toNat default).op = 30 ∨ (code.getD (nextAt M).toNat default).op = 31 then enter code M (nextAt M).toNat
    else if (code.getD (nextAt M).toNat default).op = 32 ∨ (code.getD (nextAt M).toNat default).op = 33 then leave code M (nextAt M).toNat
    else if jumpB (code.getD (nextAt M).toNat default).op = true ∨ landB (code.getD (nextAt M).toNat default).op = true then jump code M (nextAt M).toNat
    else (let x := exec M (if M.dir < 0 then (code.getD (nextAt M).toNat default).inverse else code.getD (nextAt M).toNat default)
        if x.1 = 0 then (0, { x.2 with pc := x.2.pc + x.2.dir }) else (x.1, M)) := rfl

theorem step_in {code : Prg} {M : Mach} (k : Nat) (hk : nextAt M = k) (hn : k < code.length) (h34 : (code.getD k default).op ≠ 34) (hv : (code.getD k default).valid = true) :
    step code M = if (code.getD k default).op = 30 ∨ (code.getD k default).op = 31 then enter code M k else if (code.getD k default).op = 32 ∨ (code.getD k default).op = 33 then leave code M k
      else if jumpB (code.getD k default).op = true ∨ landB (code.getD k default).op = true then jump code M k
      else (let x := exec M (if M.dir < 0 then (code.getD k default).inverse else code.getD k default)
        if x.1 = 0 then (0, { x.2 with pc := x.2.pc + x.2.dir }) else (x.1, M)) := by
  rw [step_eq, hk]
  simp only [Int.toNat_natCast]
  rw [if_neg (by omega), if_neg h34, if_neg (by rw [hv]; simp)]

theorem step_ok_in {code : Prg} {M : Mach} (h : (step code M).1 = 0) : ∃ k : Nat, nextAt M = k ∧ k < code.length ∧ (code.getD k default).op ≠ 34 ∧ (code.getD k default).valid = true := by
  rw [step_eq] at h
  generalize nextAt M = n at h ⊢
  by_cases h1 : n < 0 ∨ (code.length : Int) ≤ n
  · rw [if_pos h1] at h; simp at h
  rw [if_neg h1] at h
  by_cases h2 : (code.getD n.toNat default).op = 34
  · rw [if_pos h2] at h; simp at h
  rw [if_neg h2] at h
  by_cases h3 : (code.getD n.toNat default).valid = false
  · rw [if_pos h3] at h; simp at h
  exact ⟨n.toNat, by omega, by omega, h2, by simpa using h3⟩
theorem next_turn_fwd {M : Mach} (p d : Int) (h : d = 1) : nextAt (M.at_ p d).turn = p - 1 := by subst h; rfl
theorem next_turn_bwd {M : Mach} (p d : Int) (h : d = -1) : nextAt (M.at_ p d).turn = p := by subst h; rfl

theorem straight_undo {im : Img} (hv : im.check.2 = 0) (hw : CodeWf im.code) {M M' : Mach} (hf : Fit im M) {k : Nat} (hk : nextAt M = k) (hn : k < im.code.length) (hs : straightB (im.code.getD k default).op = true) (h : step im.code M = (0, M')) :
    Fit im M' ∧ step im.code M'.turn = (0, M.turn) := by
  have hff := fault_facts ((check_fault hv).2 k hn)
  have hval := hff.1
  have hs' := of_decide_eq_true hs
  have h34 : (im.code.getD k default).op ≠ 34 := by omega
  have hj : ¬ (jumpB (im.code.getD k default).op = true ∨ landB (im.code.getD k default).op = true) := by rw [ctl_iff]; omega
  have key : ∀ N : Mach, nextAt N = k → step im.code N = (let x := exec N (if N.dir < 0 then (im.code.getD k default).inverse else im.code.getD k default)
        if x.1 = 0 then (0, { x.2 with pc := x.2.pc + x.2.dir }) else (x.1, N)) := by
    intro N hN
    rw [step_in k hN hn h34 hval, if_neg (by omega), if_neg (by omega), if_neg hj]
  rw [key M hk] at h
  simp only at h
  have ival : (im.code.getD k default).inverse.valid = true := inv_valid' hval (hw.op0' k hn)
  have iinv := inverse_inverse (im.code.getD k default)
  have istr : straightB (im.code.getD k default).inverse.op = true := inv_straight hs
  generalize im.code.getD k default = i at *
  obtain ⟨j, hj1, hj2, hj3⟩ : ∃ j : Ins, j = (if M.dir < 0 then i.inverse else i) ∧ j.valid = true ∧ straightB j.op = true := by
    refine ⟨_, rfl, ?_, ?_⟩ <;> split <;> assumption
  rw [← hj1] at h
  split at h
  · rename_i hx
    injection h with _ h
    obtain ⟨k1, k2, k3, k4, k5⟩ := exec_keeps M j
    have hu := exec_undo hf.ok hj3 hj2 (M1 := (exec M j).2) (Prod.ext hx rfl)
    have hM' : M' = (exec M j).2.at_ (M.pc + M.dir) M.dir := by
      rw [← h]
      show ({ (exec M j).2 with pc := (exec M j).2.pc + (exec M j).2.dir } : Mach) = { (exec M j).2 with pc := M.pc + M.dir, dir := M.dir }
      rw [k1, ← k2]
    subst hM'
    have hpc : 0 ≤ M.pc + M.dir ∧ M.pc + M.dir ≤ im.code.length := by
      unfold nextAt at hk
      rcases hf.d with e | e
      · rw [e] at hk ⊢; simp at hk; omega
      · rw [e] at hk ⊢; simp at hk; omega
    refine ⟨⟨hu.1.at_ _ _, hf.d, hpc.1, hpc.2, by show ((exec M j).2.m.length : Int) = _; rw [k4]; exact hf.ml, by show ((exec M j).2.s.length : Int) = _; rw [k5]; exact hf.sn, by show (exec M j).2.calls.length ≤ _; rw [k3]; exact hf.cl, by show ∀ a ∈ (exec M j).2.calls, _; rw [k3]; exact hf.cs⟩, ?_⟩
    have hnx : nextAt ((exec M j).2.at_ (M.pc + M.dir) M.dir).turn = k := by
      rcases hf.d with e | e
      · rw [next_turn_fwd _ _ e]; unfold nextAt at hk; rw [e] at hk ⊢; simp at hk; omega
      · rw [next_turn_bwd _ _ e]; unfold nextAt at hk; rw [e] at hk ⊢; simp at hk; omega
    rw [key _ hnx]
    simp only
    have hj' : (if ((exec M j).2.at_ (M.pc + M.dir) M.dir).turn.dir < 0 then i.inverse else i) = j.inverse := by
      rw [hj1]
      show (if -M.dir < 0 then _ else _) = _
      rcases hf.d with e | e
      · rw [e]; simp
      · rw [e]; simp [iinv]
    rw [hj', turn_at, exec_at, hu.2]
    simp only [if_true]
    congr 1
    show ({ M with pc := M.pc + M.dir + -M.dir, dir := -M.dir } : Mach) = M.turn
    unfold Mach.turn
    rw [show M.pc + M.dir + -M.dir = M.pc by omega]
  · exact absurd (congrArg Prod.fst h) (by assumption)

theorem jump_undo {im : Img} (hv : im.check.2 = 0) (hw : CodeWf im.code) {M M' : Mach} (hf : Fit im M) {k : Nat} (hk : nextAt M = k) (hn : k < im.code.length) (hs : 22 ≤ (im.code.getD k default).op ∧ (im.code.getD k default).op ≤ 27) (h : step im.code M = (0, M')) :
    Fit im M' ∧ step im.code M'.turn = (0, M.turn) := by
  have all := (check_fault hv).2
  have key : ∀ (q : Nat) (N : Mach), nextAt N = q → q < im.code.length → (22 ≤ (im.code.getD q default).op ∧ (im.code.getD q default).op ≤ 27) → step im.code N = jump im.code N q := by
    intro q N hN hq ho
    rw [step_in q hN hq (by omega) (fault_facts (all q hq)).1, if_neg (by omega), if_neg (by omega), if_pos (ctl_iff.2 ho)]
  rw [key k M hk hn hs] at h
  have hp := (fault_facts (all k hn)).2.2 (by omega)
  have hsym := partner_sym hp
  obtain ⟨a1, a2, a3, a4, a5, a6, a7, a8, a9⟩ := partner_inv hp
  have hkd : (M.dir = 1 ∧ M.pc = k) ∨ (M.dir = -1 ∧ M.pc = k + 1) := by
    unfold nextAt at hk
    rcases hf.d with e | e
    · rw [e] at hk; simp at hk; exact .inl ⟨e, hk⟩
    · rw [e] at hk; simp at hk; exact .inr ⟨e, by omega⟩
  unfold jump at h
  rw [if_neg (by rw [hp]; simp)] at h
  obtain ⟨t, ht⟩ := Int.eq_ofNat_of_zero_le a3
  rw [ht] at a4 a7 a8 a9 hsym h
  simp only [Int.toNat_natCast] at a4 a7 a8 a9 hsym h
  have hh : ∀ p d i, holds (M.at_ p d) i = holds M i := fun _ _ _ => rfl
  have fit : ∀ p : Int, 0 ≤ p → p ≤ im.code.length → Fit im (M.at_ p M.dir) := fun p h0 h1 => ⟨hf.ok.at_ _ _, hf.d, h0, h1, hf.ml, hf.sn, hf.cl, hf.cs⟩
  split at h
  · rename_i hno
    injection h with _ h
    subst h
    refine ⟨fit _ (by unfold behind; split <;> omega) (by unfold behind; split <;> omega), ?_⟩
    show step im.code (M.at_ (behind k M.dir) M.dir).turn = _
    rw [key k _ ?_ hn hs]
    · unfold jump
      rw [if_neg (by rw [hp]; simp), turn_at, hh, if_pos hno]
      congr 1
      unfold Mach.turn Mach.at_ behind
      rcases hkd with ⟨e, e2⟩ | ⟨e, e2⟩ <;> simp [e, e2]
    · rcases hkd with ⟨e, e2⟩ | ⟨e, e2⟩
      · rw [next_turn_fwd _ _ e]; unfold behind; rw [e]; simp
      · rw [next_turn_bwd _ _ e]; unfold behind; rw [e]; simp
  · rename_i hyes
    split at h
    · rename_i hc
      obtain ⟨hl, hq⟩ := hc
      injection h with _ h
      subst h
      have ops := pairB_ctl a9 hs
      have hts : 22 ≤ (im.code.getD t default).op ∧ (im.code.getD t default).op ≤ 27 := by
        rcases ops with ⟨_, h2⟩ | ⟨_, h2⟩
        · exact ctl_iff.1 (.inr h2)
        · exact ctl_iff.1 (.inl h2)
      have htn : t < im.code.length := by omega
      refine ⟨fit _ (by unfold behind; split <;> omega) (by unfold behind; split <;> omega), ?_⟩
      show step im.code (M.at_ (behind t M.dir) M.dir).turn = _
      rw [key t _ ?_ htn hts]
      · unfold jump
        rw [hsym]
        simp only [Int.toNat_natCast]
        rw [if_neg (by simp), turn_at, hh, if_neg (by rw [hq]; simp), if_pos ?_]
        · congr 1
          unfold Mach.turn Mach.at_ behind
          rcases hkd with ⟨e, e2⟩ | ⟨e, e2⟩ <;> simp [e, e2]
        · refine ⟨?_, by rw [hh]; cases hm : holds M (im.code.getD k default); exact absurd hm hyes; rfl⟩
          show _ = decide (-M.dir > 0)
          rcases hkd with ⟨e, e2⟩ | ⟨e, e2⟩
          · rw [e] at hl ⊢
            rcases ops with ⟨h1, h2⟩ | ⟨h1, h2⟩
            · rw [land_not_jump h2]; rfl
            · rw [land_not_jump h1] at hl; cases hl
          · rw [e] at hl ⊢
            rcases ops with ⟨h1, h2⟩ | ⟨h1, h2⟩
            · rw [h1] at hl; cases hl
            · rw [h2]; rfl
      · rcases hkd with ⟨e, e2⟩ | ⟨e, e2⟩
        · rw [next_turn_fwd _ _ e]; unfold behind; rw [e]; simp
        · rw [next_turn_bwd _ _ e]; unfold behind; rw [e]; simp
    · cases h
end Bk

/- Plain: calls and returns are undone; every step is undone. -/
set_option linter.unusedVariables false
namespace Bk
open Go.RowKit (wrap64)

theorem call_shape {x : Ins} (hv : x.valid = true) (h : x.op = 30 ∨ x.op = 31) : x = ⟨x.op, x.a, 0, 0, 0⟩ := by
  obtain ⟨op, a, b, c, d⟩ := x
  simp only [Ins.valid, validB, Bool.and_eq_true] at hv
  obtain ⟨⟨_, hz⟩, _⟩ := hv
  simp only at h
  rcases h with rfl | rfl
  · simp [zerosB, arity] at hz; obtain ⟨⟨rfl, rfl⟩, rfl⟩ := hz; rfl
  · simp [zerosB, arity] at hz; obtain ⟨⟨rfl, rfl⟩, rfl⟩ := hz; rfl
theorem pair32 {b : Int} {bf : Bool} (h : pairB 32 b bf = true) : b = 33 ∧ bf = true := by
  cases bf <;> simp_all [pairB, jumpB, landB]
theorem pair33 {b : Int} {bf : Bool} (h : pairB 33 b bf = true) : b = 32 ∧ bf = false := by
  cases bf <;> simp_all [pairB, jumpB, landB]
theorem start_end {code : Prg} {s : Nat} (hp : (partner code s).2 = true) (ho : (code.getD s default).op = 32) :
    ∃ e : Nat, partner code s = ((e : Int), true) ∧ s < e ∧ e < code.length ∧ (code.getD e default).op = 33 ∧ (code.getD e default).a = s ∧ partner code e = ((s : Int), true) ∧ (code.getD e default).valid = true := by
  have hsym := partner_sym hp
  obtain ⟨a1, a2, a3, a4, a5, a6, a7, a8, a9⟩ := partner_inv hp
  obtain ⟨e, he⟩ := Int.eq_ofNat_of_zero_le a3
  rw [he] at a4 a5 a7 a8 a9 hsym
  simp only [Int.toNat_natCast] at a4 a5 a7 a8 a9 hsym
  rw [ho] at a9
  obtain ⟨h33, hlt⟩ := pair32 a9
  have hlt := of_decide_eq_true hlt
  refine ⟨e, Prod.ext he hp, by omega, by omega, h33, ?_, hsym, a7⟩
  have : (code.getD e default).target.1 = (code.getD e default).a := by unfold Ins.target targetP; rw [if_pos (by omega)]
  rw [← this, a8]
theorem end_start {code : Prg} {e : Nat} (hp : (partner code e).2 = true) (ho : (code.getD e default).op = 33) :
    ∃ s : Nat, partner code e = ((s : Int), true) ∧ s < e ∧ (code.getD s default).op = 32 ∧ (code.getD e default).a = s ∧ partner code s = ((e : Int), true) := by
  have hsym := partner_sym hp
  obtain ⟨a1, a2, a3, a4, a5, a6, a7, a8, a9⟩ := partner_inv hp
  obtain ⟨s, hs⟩ := Int.eq_ofNat_of_zero_le a3
  rw [hs] at a4 a5 a7 a8 a9 hsym
  simp only [Int.toNat_natCast] at a4 a5 a7 a8 a9 hsym
  rw [ho] at a9
  obtain ⟨h32, hlt⟩ := pair33 a9
  have hlt := of_decide_eq_false hlt
  have hne : s ≠ e := by rintro rfl; omega
  refine ⟨s, Prod.ext hs hp, by omega, h32, ?_, hsym⟩
  have : (code.getD e default).target.1 = (code.getD e default).a := by unfold Ins.target targetP; rw [if_pos (by omega)]
  rw [← this, a5]

theorem getLastD_append (l : List (Int × Bool)) (x d : Int × Bool) : (l ++ [x]).getLastD d = x := by simp
theorem back_calls {l : List (Int × Bool)} (h : l.length ≠ 0) : l.dropLast ++ [l.getLastD (0, false)] = l := by
  cases l with
  | nil => simp at h
  | cons a l =>
    rw [List.getLastD_eq_getLast?, List.getLast?_eq_some_getLast (by simp)]
    exact List.dropLast_concat_getLast _

theorem enter_undo {im : Img} (hv : im.check.2 = 0) (hw : CodeWf im.code) {M M' : Mach} (hf : Fit im M) {k : Nat} (hk : nextAt M = k) (hn : k < im.code.length) (hs : (im.code.getD k default).op = 30 ∨ (im.code.getD k default).op = 31) (h : step im.code M = (0, M')) :
    Fit im M' ∧ step im.code M'.turn = (0, M.turn) := by
  have all := (check_fault hv).2
  have hff := fault_facts (all k hn)
  rw [step_in k hk hn (by omega) hff.1, if_pos hs] at h
  obtain ⟨hp, ho⟩ := hff.2.1 hs
  have hshape := call_shape hff.1 hs
  have pin := partner_inv hp
  obtain ⟨s, hsn⟩ := Int.eq_ofNat_of_zero_le pin.1
  have hslt : s < im.code.length := by omega
  rw [hsn] at hp ho
  simp only [Int.toNat_natCast] at ho
  obtain ⟨e, he, hse, hen, heo, hea, hsym, hev⟩ := start_end hp ho
  have hkd : (M.dir = 1 ∧ M.pc = k) ∨ (M.dir = -1 ∧ M.pc = k + 1) := by
    unfold nextAt at hk
    rcases hf.d with e | e
    · rw [e] at hk; simp at hk; exact .inl ⟨e, hk⟩
    · rw [e] at hk; simp at hk; exact .inr ⟨e, by omega⟩
  unfold enter at h
  rw [hsn, he] at h
  simp only at h
  rw [if_neg (by simp)] at h
  split at h
  · cases h
  rename_i hlen
  injection h with _ h
  obtain ⟨tu, htu⟩ : ∃ tu : Bool, decide ((im.code.getD k default).op = 31) = tu := ⟨_, rfl⟩
  rw [htu] at h
  obtain ⟨dd, hdd⟩ : ∃ dd : Int, (if tu = true then -M.dir else M.dir) = dd := ⟨_, rfl⟩
  rw [hdd] at h
  have hd1 : dd = 1 ∨ dd = -1 := by rw [← hdd]; rcases hf.d with e | e <;> rw [e] <;> cases tu <;> simp
  have hback : (if tu = true then - -dd else -dd) = -M.dir := by rw [← hdd]; cases tu <;> simp
  subst h
  refine ⟨⟨⟨hf.ok.rl, hf.ok.rr, hf.ok.mr, hf.ok.sr, hf.ok.ir, hf.ok.or_, hf.ok.sl, hf.ok.inl, hf.ok.outl, hf.ok.fp0, hf.ok.fp1, hf.ok.sb0, hf.ok.sb1, hf.ok.s1⟩, hd1, by simp only; split <;> omega, by simp only; split <;> omega, hf.ml, hf.sn, by simp; omega, fun a ha => by rcases List.mem_append.1 ha with h | h; exact hf.cs a h; simp at h; subst h; exact ⟨by simp, by simpa using hn⟩⟩, ?_⟩
  have hcode : im.code.getD k default = ⟨if tu = true then 31 else 30, s, 0, 0, 0⟩ := by
    rw [hshape, hsn]
    cases htu' : tu with
    | true => rw [htu'] at htu; rw [of_decide_eq_true htu]; simp
    | false => rw [htu'] at htu; have := of_decide_eq_false htu; rw [show (im.code.getD k default).op = 30 by omega]; simp
  have fin : ∀ (at_ : Nat), ∀ st : Int, st = s → (decide ((im.code.getD at_ default).op = 33) = decide (-dd > 0)) → (if (im.code.getD at_ default).op = 33 then (im.code.getD at_ default).a else (at_ : Int)) = st →
      leave im.code ({ M with calls := M.calls ++ [((k : Int), tu)], dir := -dd, pc := if dd > 0 then (s : Int) + 1 else e } : Mach) at_ = (0, M.turn) := by
    intro at_ st hst hdec hstart
    subst hst
    unfold leave
    simp only [hstart]
    rw [if_neg (by rw [hdec]; simp)]
    simp only [getLastD_append, Int.toNat_natCast, hcode]
    rw [if_neg (by simp)]
    simp only [List.dropLast_concat, hback]
    congr 1
    unfold Mach.turn behind
    rcases hkd with ⟨e1, e2⟩ | ⟨e1, e2⟩ <;> simp [e1, e2]
  rcases hd1 with e1 | e1
  · have hnx : nextAt (({ M with calls := M.calls ++ [((k : Int), tu)], dir := dd, pc := if dd > 0 then (s : Int) + 1 else (e : Int) } : Mach)).turn = s := by
      unfold nextAt Mach.turn; rw [e1]; simp
    rw [step_in s hnx hslt (by omega) (fault_facts (all s hslt)).1, if_neg (by omega), if_pos (by omega)]
    exact fin s s rfl (by rw [ho, e1]; decide) (by rw [if_neg (by omega)])
  · have hnx : nextAt (({ M with calls := M.calls ++ [((k : Int), tu)], dir := dd, pc := if dd > 0 then (s : Int) + 1 else (e : Int) } : Mach)).turn = e := by
      unfold nextAt Mach.turn; rw [e1]; simp
    rw [step_in e hnx hen (by omega) hev, if_neg (by omega), if_pos (by omega)]
    exact fin e s rfl (by rw [heo, e1]; decide) (by rw [if_pos heo, hea])

theorem leave_undo {im : Img} (hv : im.check.2 = 0) (hw : CodeWf im.code) {M M' : Mach} (hf : Fit im M) {k : Nat} (hk : nextAt M = k) (hn : k < im.code.length) (hs : (im.code.getD k default).op = 32 ∨ (im.code.getD k default).op = 33) (h : step im.code M = (0, M')) :
    Fit im M' ∧ step im.code M'.turn = (0, M.turn) := by
  have all := (check_fault hv).2
  have hff := fault_facts (all k hn)
  rw [step_in k hk hn (by omega) hff.1, if_neg (by omega), if_pos hs] at h
  have hkd : (M.dir = 1 ∧ M.pc = k) ∨ (M.dir = -1 ∧ M.pc = k + 1) := by
    unfold nextAt at hk
    rcases hf.d with e | e
    · rw [e] at hk; simp at hk; exact .inl ⟨e, hk⟩
    · rw [e] at hk; simp at hk; exact .inr ⟨e, by omega⟩
  have hp := hff.2.2 (by omega)
  unfold leave at h
  simp only at h
  split at h
  · cases h
  rename_i hc
  have hc1 : decide ((im.code.getD k default).op = 33) = decide (M.dir > 0) := by
    cases h1 : decide ((im.code.getD k default).op = 33) <;> cases h2 : decide (M.dir > 0) <;> first | rfl | (exact absurd (Or.inl (by rw [h1, h2]; simp)) hc)
  have hc2 : M.calls.length ≠ 0 := fun e => hc (Or.inr e)
  obtain ⟨s, hst⟩ : ∃ s : Nat, (if (im.code.getD k default).op = 33 then (im.code.getD k default).a else (k : Int)) = (s : Int) := by
    split
    · rename_i h33
      obtain ⟨s, _, _, _, h4, _⟩ := end_start hp h33
      exact ⟨s, h4⟩
    · exact ⟨k, rfl⟩
  rw [hst] at h
  obtain ⟨ca, hca⟩ : ∃ ca, M.calls.getLastD (0, false) = ca := ⟨_, rfl⟩
  rw [hca] at h
  obtain ⟨site, tu⟩ := ca
  have hmem : (site, tu) ∈ M.calls := by
    rw [← back_calls hc2, hca]; simp
  obtain ⟨hs0, hs1⟩ := hf.cs _ hmem
  obtain ⟨q, hq⟩ := Int.eq_ofNat_of_zero_le hs0
  simp only at hq hs1 h
  subst hq
  have hqn : q < im.code.length := by omega
  simp only [Int.toNat_natCast] at h
  by_cases hcode : im.code.getD q default = ⟨if tu = true then 31 else 30, (s : Int), 0, 0, 0⟩
  case neg => rw [if_pos hcode] at h; cases h
  rw [if_neg (fun g => g hcode)] at h
  injection h with _ h
  obtain ⟨dd, hdd⟩ : ∃ dd : Int, (if tu = true then -M.dir else M.dir) = dd := ⟨_, rfl⟩
  rw [hdd] at h
  have hd1 : dd = 1 ∨ dd = -1 := by rw [← hdd]; rcases hf.d with e | e <;> rw [e] <;> cases tu <;> simp
  have hback : (if tu = true then - -dd else -dd) = -M.dir := by rw [← hdd]; cases tu <;> simp
  subst h
  refine ⟨⟨⟨hf.ok.rl, hf.ok.rr, hf.ok.mr, hf.ok.sr, hf.ok.ir, hf.ok.or_, hf.ok.sl, hf.ok.inl, hf.ok.outl, hf.ok.fp0, hf.ok.fp1, hf.ok.sb0, hf.ok.sb1, hf.ok.s1⟩, hd1, by unfold behind; simp only; split <;> omega, by unfold behind; simp only; split <;> omega, hf.ml, hf.sn, by simp; have := hf.cl; omega, fun a ha => hf.cs a ((List.dropLast_sublist _).subset ha)⟩, ?_⟩
  have hop : (im.code.getD q default).op = 30 ∨ (im.code.getD q default).op = 31 := by rw [hcode]; cases tu <;> simp
  have hqf := fault_facts (all q hqn)
  obtain ⟨hpq, hoq⟩ := hqf.2.1 hop
  have hqa : (im.code.getD q default).a = s := by rw [hcode]
  rw [hqa] at hpq hoq
  simp only [Int.toNat_natCast] at hoq
  obtain ⟨e, he, hse, hen, heo, hea, hsym, hev⟩ := start_end hpq hoq
  have hnx : nextAt (({ M with calls := M.calls.dropLast, dir := dd, pc := behind q dd } : Mach)).turn = q := by
    unfold nextAt Mach.turn behind
    rcases hd1 with e1 | e1 <;> rw [e1] <;> simp
  rw [step_in q hnx hqn (by omega) hqf.1, if_pos hop]
  unfold enter
  rw [hqa, he]
  simp only
  have htu : decide ((im.code.getD q default).op = 31) = tu := by rw [hcode]; cases tu <;> simp
  rw [if_neg (by simp), if_neg (by simp [Mach.turn]; have := hf.cl; omega), htu]
  show (0, ({ M with calls := M.calls.dropLast ++ [((q : Int), tu)], dir := if tu = true then - -dd else -dd, pc := if (if tu = true then - -dd else -dd) > 0 then (s : Int) + 1 else e } : Mach)) = _
  rw [hback, ← hca, back_calls hc2]
  congr 1
  unfold Mach.turn
  have hpc : (if -M.dir > 0 then (s : Int) + 1 else (e : Int)) = M.pc := by
    rcases hkd with ⟨e1, e2⟩ | ⟨e1, e2⟩
    · have h33 : (im.code.getD k default).op = 33 := by rw [e1] at hc1; simpa using hc1
      rw [if_pos h33] at hst
      obtain ⟨s', g1, g2, g3, g4, g5⟩ := end_start hp h33
      have : s' = s := by omega
      subst this
      rw [g5] at he
      injection he with he _
      rw [e1, e2, if_neg (by omega), he]
    · have h33 : (im.code.getD k default).op ≠ 33 := by rw [e1] at hc1; simpa using hc1
      rw [if_neg h33] at hst
      rw [e1, e2, if_pos (by omega), hst]
  rw [hpc]

/-- EVERY STEP IS UNDONE by a step of the turned machine; the machine still fits. -/
theorem step_undo {im : Img} (hv : im.check.2 = 0) (hw : CodeWf im.code) {M M' : Mach} (hf : Fit im M) (h : step im.code M = (0, M')) : Fit im M' ∧ step im.code M'.turn = (0, M.turn) := by
  obtain ⟨k, hk, hn, h34, hval⟩ := step_ok_in (code := im.code) (M := M) (by rw [h])
  have h0 := hw.op0' k hn
  have h35 : (im.code.getD k default).op < 35 := by
    unfold Ins.valid validB at hval
    simp only [Bool.and_eq_true, decide_eq_true_eq] at hval
    exact hval.1.1
  by_cases h1 : (im.code.getD k default).op = 30 ∨ (im.code.getD k default).op = 31
  · exact enter_undo hv hw hf hk hn h1 h
  by_cases h2 : (im.code.getD k default).op = 32 ∨ (im.code.getD k default).op = 33
  · exact leave_undo hv hw hf hk hn h2 h
  by_cases h3 : 22 ≤ (im.code.getD k default).op ∧ (im.code.getD k default).op ≤ 27
  · exact jump_undo hv hw hf hk hn h3 h
  · exact straight_undo hv hw hf hk hn (decide_eq_true (by omega)) h
end Bk
