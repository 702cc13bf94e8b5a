/- Plain: images: the partner of an instruction, regions, the check. -/
import Derived.Test.YtfobnkgfbdmakaaDoorIsaS
namespace Bk

abbrev Prg := List Ins

/-- The kinds of two partners fit. 'before': the first stands before the second. -/
def pairB (a b : Int) (before : Bool) : Bool :=
  if jumpB a then landB b else if landB a then jumpB b
  else if before then decide (a = 32) && decide (b = 33) else decide (a = 33) && decide (b = 32)

/-- The partner of the instruction with index i. -/
def partner (code : Prg) (i : Int) : Int × Bool :=
  if i < 0 ∨ (code.length : Int) ≤ i then (0, false)
  else if (code.getD i.toNat default).target.2 = false ∨ (code.getD i.toNat default).target.1 < 0 ∨ (code.length : Int) ≤ (code.getD i.toNat default).target.1 then (0, false)
  else if (code.getD i.toNat default).valid = false ∨ (code.getD (code.getD i.toNat default).target.1.toNat default).valid = false then (0, false)
  else if (code.getD (code.getD i.toNat default).target.1.toNat default).target.2 = false ∨ (code.getD (code.getD i.toNat default).target.1.toNat default).target.1 ≠ i then (0, false)
  else if pairB (code.getD i.toNat default).op (code.getD (code.getD i.toNat default).target.1.toNat default).op (decide (i < (code.getD i.toNat default).target.1)) then ((code.getD i.toNat default).target.1, true)
  else (0, false)

/-- The open procedures at index i: those that end before i are dropped. (The last one opened stands first.) -/
def dropOpen (i : Int) : List (Int × Int) → List (Int × Int)
  | [] => []
  | (f, t) :: rest => if t < i then dropOpen i rest else (f, t) :: rest

/-- One step of the walk over the code: what is open behind the instruction i; whether something was open before it; its region. -/
def regStep (code : Prg) (i : Nat) (opened : List (Int × Int)) : List (Int × Int) × Bool × Int :=
  let o := dropOpen i opened
  let o' := if (partner code i).2 && decide ((code.getD i default).op = 32) then ((i : Int), (partner code i).1) :: o else o
  (o', !o.isEmpty, match o' with | [] => -1 | (f, _) :: _ => f)

/-- The open procedures before the instruction i. -/
def openAt (code : Prg) : Nat → List (Int × Int)
  | 0 => []
  | i + 1 => (regStep code i (openAt code i)).1
def insideAt (code : Prg) (i : Nat) : Bool := (regStep code i (openAt code i)).2.1
def regionAt (code : Prg) (i : Nat) : Int := (regStep code i (openAt code i)).2.2

/-- The first fault of instruction i: an error number. -/
def fault (code : Prg) (i : Nat) : Int :=
  let x := code.getD i default
  if x.valid = false then 3
  else if x.target.2 = false then 0
  else if x.op = 30 ∨ x.op = 31 then
    (if (partner code x.target.1).2 = false ∨ (code.getD x.target.1.toNat default).op ≠ 32 then 23 else 0)
  else if (partner code i).2 = false then 23
  else if x.op = 32 ∧ insideAt code i = true then 20
  else if (jumpB x.op = true ∨ landB x.op = true) ∧ regionAt code i ≠ regionAt code x.target.1.toNat then 20
  else 0

/-- The first faulty instruction from index i on (n are left), and its error; (-1, 0): none. -/
def checkFrom (code : Prg) : Nat → Nat → Int × Int
  | 0, _ => (-1, 0)
  | n + 1, i => if fault code i ≠ 0 then (i, fault code i) else checkFrom code n (i + 1)

/-- An image. -/
structure Img where
  code : Prg
  mem : Int
  stacks : Int
deriving DecidableEq

def Img.sized (im : Img) : Bool := decide (im.code.length ≤ 65536) && decide (0 ≤ im.mem ∧ im.mem ≤ 16384) && decide (1 ≤ im.stacks ∧ im.stacks ≤ 16384)

def Img.check (im : Img) : Int × Int := if im.sized then checkFrom im.code im.code.length 0 else (-1, 2)
def Img.valid (im : Img) : Bool := decide (im.check.2 = 0)

/-- Every instruction in memory is within the bounds of its type. -/
def CodeWf (code : Prg) : Prop := ∀ k, k < code.length → (code.getD k default).Wf

theorem partner_eq (code : Prg) (k : Nat) (hk : k < code.length) {x y : Ins} {t back : Int} {ok ok2 vx vy : Bool} (hx : code.getD k default = x) (ht : x.target = (t, ok))
    (hy : code.getD t.toNat default = y) (hb : y.target = (back, ok2)) (hvx : x.valid = vx) (hvy : y.valid = vy) :
    partner code k = if ok = false ∨ t < 0 ∨ (code.length : Int) ≤ t then (0, false) else if vx = false ∨ vy = false then (0, false)
      else if ok2 = false ∨ back ≠ k then (0, false) else if pairB x.op y.op (decide ((k : Int) < t)) then (t, true) else (0, false) := by
  unfold partner
  rw [if_neg (by omega), Int.toNat_natCast, hx, ht, hy, hb, hvx, hvy]

theorem partner_inv {code : Prg} {i : Int} (h : (partner code i).2 = true) :
    0 ≤ i ∧ i < code.length ∧ 0 ≤ (partner code i).1 ∧ (partner code i).1 < code.length ∧ (code.getD i.toNat default).target = ((partner code i).1, true) ∧
      (code.getD i.toNat default).valid = true ∧ (code.getD (partner code i).1.toNat default).valid = true ∧
      (code.getD (partner code i).1.toNat default).target = (i, true) ∧
      pairB (code.getD i.toNat default).op (code.getD (partner code i).1.toNat default).op (decide (i < (partner code i).1)) = true := by
  unfold partner at h ⊢
  by_cases h1 : i < 0 ∨ (code.length : Int) ≤ i
  · rw [if_pos h1] at h; cases h
  rw [if_neg h1] at h ⊢
  generalize code.getD i.toNat default = x at *
  by_cases h2 : x.target.2 = false ∨ x.target.1 < 0 ∨ (code.length : Int) ≤ x.target.1
  · rw [if_pos h2] at h; cases h
  rw [if_neg h2] at h ⊢
  obtain ⟨y, hy⟩ : ∃ y, code.getD x.target.1.toNat default = y := ⟨_, rfl⟩
  simp only [hy] at h ⊢
  by_cases h4 : x.valid = false ∨ y.valid = false
  · rw [if_pos h4] at h; cases h
  rw [if_neg h4] at h ⊢
  by_cases h5 : y.target.2 = false ∨ y.target.1 ≠ i
  · rw [if_pos h5] at h; cases h
  rw [if_neg h5] at h ⊢
  by_cases h6 : pairB x.op y.op (decide (i < x.target.1)) = true
  · rw [if_pos h6]
    dsimp only
    rw [hy]
    have h2a : x.target.2 = true := by cases hx : x.target.2 <;> simp_all
    have h2b := fun e => h2 (Or.inr e)
    have h4a : x.valid = true := by cases hx : x.valid <;> simp_all
    have h4b : y.valid = true := by cases hx : y.valid <;> simp_all
    have h5a : y.target.2 = true := by cases hx : y.target.2 <;> simp_all
    have h5b : y.target.1 = i := by
      rcases Int.lt_trichotomy y.target.1 i with e | e | e
      · exact absurd (Or.inr (by omega)) h5
      · exact e
      · exact absurd (Or.inr (by omega)) h5
    exact ⟨by omega, by omega, by omega, by omega, Prod.ext rfl h2a, h4a, h4b, Prod.ext h5b h5a, h6⟩
  · rw [if_neg h6] at h; cases h

theorem partner_pos {code : Prg} {i : Int} (h : (partner code i).2 = true) : 0 ≤ (partner code i).1 ∧ (partner code i).1 < code.length :=
  let ⟨_, _, a, b, _⟩ := partner_inv h
  ⟨a, b⟩

theorem openAt_succ (code : Prg) (i : Nat) : openAt code (i + 1) = if (partner code i).2 = true ∧ (code.getD i default).op = 32 then ((i : Int), (partner code i).1) :: dropOpen i (openAt code i) else dropOpen i (openAt code i) := by
  simp [openAt, regStep]
theorem dropOpen_length (i : Int) (l : List (Int × Int)) : (dropOpen i l).length ≤ l.length := by
  induction l with
  | nil => simp [dropOpen]
  | cons x l ih => obtain ⟨f, t⟩ := x; simp only [dropOpen]; split <;> simp; omega
theorem openAt_length (code : Prg) (i : Nat) : (openAt code i).length ≤ i := by
  induction i with
  | zero => simp [openAt]
  | succ i ih =>
    have := dropOpen_length i (openAt code i)
    rw [openAt_succ]; split <;> simp <;> omega
theorem insideAt_eq (code : Prg) (i : Nat) : insideAt code i = !(dropOpen i (openAt code i)).isEmpty := rfl
theorem regionAt_eq (code : Prg) (i : Nat) : regionAt code i = match openAt code (i + 1) with | [] => -1 | (f, _) :: _ => f := rfl

theorem checkFrom_skip (code : Prg) (n i : Nat) (hi : i ≤ n) (h : ∀ k, k < i → fault code k = 0) : checkFrom code n 0 = checkFrom code (n - i) i := by
  induction i with
  | zero => rfl
  | succ i ih =>
    rw [ih (by omega) (fun k hk => h k (by omega))]
    have e : n - i = (n - (i + 1)) + 1 := by omega
    rw [e, checkFrom, if_neg (by have := h i (by omega); omega)]
theorem checkFrom_all (code : Prg) (n : Nat) (h : ∀ k, k < n → fault code k = 0) : checkFrom code n 0 = (-1, 0) := by
  rw [checkFrom_skip code n n (Nat.le_refl _) h, Nat.sub_self]; rfl
theorem checkFrom_at (code : Prg) (n i : Nat) (hi : i < n) (h : ∀ k, k < i → fault code k = 0) (hf : fault code i ≠ 0) : checkFrom code n 0 = ((i : Int), fault code i) := by
  rw [checkFrom_skip code n i (by omega) h]
  have e : n - i = (n - (i + 1)) + 1 := by omega
  rw [e, checkFrom, if_pos hf]
end Bk
