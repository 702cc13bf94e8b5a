/- Plain: the instruction set as Lean functions (no program in sight). -/
namespace Bk

/-- An instruction: opcode and operands. -/
structure Ins where
  op : Int
  a : Int
  b : Int
  c : Int
  d : Int
deriving DecidableEq, Inhabited

def inv (op : Int) : Int :=
  if op = 1 then 2 else if op = 2 then 1 else if op = 4 then 5 else if op = 5 then 4
  else if op = 12 then 13 else if op = 13 then 12 else if op = 17 then 18 else if op = 18 then 17
  else if op = 19 then 20 else if op = 20 then 19
  else if op = 22 then 25 else if op = 23 then 26 else if op = 24 then 27
  else if op = 25 then 22 else if op = 26 then 23 else if op = 27 then 24
  else if op = 28 then 29 else if op = 29 then 28 else if op = 32 then 33 else if op = 33 then 32 else op

def arity (n : Nat) : Int :=
  if n = 0 ∨ n = 34 then 0 else if n = 9 ∨ n = 11 then 4
  else if n = 8 ∨ (17 ≤ n ∧ n ≤ 20) ∨ n = 22 ∨ n = 25 ∨ (30 ≤ n ∧ n ≤ 33) then 1 else 2

def regB (x : Int) : Bool := decide (0 ≤ x ∧ x < 16)
def numB (x : Int) : Bool := decide (0 ≤ x ∧ x ≤ 16384)
def idxB (x : Int) : Bool := decide (0 ≤ x ∧ x < 65536)
def operB (x : Int) : Bool := decide (8 ≤ x ∧ x ≤ 23)
def jumpB (op : Int) : Bool := decide (op = 22 ∨ op = 23 ∨ op = 24)
def landB (op : Int) : Bool := decide (op = 25 ∨ op = 26 ∨ op = 27)

def zerosB (op a b c d : Int) : Bool :=
  (decide (0 < arity op.toNat) || decide (a = 0)) && (decide (1 < arity op.toNat) || decide (b = 0)) &&
  (decide (2 < arity op.toNat) || decide (c = 0)) && (decide (3 < arity op.toNat) || decide (d = 0))

def shapeB (op a b c d : Int) : Bool :=
  if op = 1 ∨ op = 2 ∨ op = 3 then regB a && regB b && decide (a ≠ b)
  else if op = 7 then regB a && regB b
  else if op = 4 ∨ op = 5 ∨ op = 6 ∨ op = 8 ∨ op = 17 ∨ op = 18 ∨ op = 19 ∨ op = 20 then regB a
  else if op = 9 then regB a && regB b && regB c && decide (a ≠ b) && decide (a ≠ c) && operB d
  else if op = 10 ∨ op = 12 ∨ op = 13 ∨ op = 14 ∨ op = 15 then regB a && numB b
  else if op = 11 then regB a && regB b && decide (a ≠ b) && numB c && numB d
  else if op = 16 ∨ op = 28 ∨ op = 29 then numB a && numB b
  else if op = 21 then regB a && decide (1 ≤ b ∧ b ≤ 23)
  else if op = 22 ∨ op = 25 ∨ op = 30 ∨ op = 31 ∨ op = 32 ∨ op = 33 then idxB a
  else if op = 23 ∨ op = 24 ∨ op = 26 ∨ op = 27 then regB a && idxB b
  else true

def validB (op a b c d : Int) : Bool := decide (op < 35) && zerosB op a b c d && shapeB op a b c d

/-- The target of an instruction. -/
def targetP (op a b : Int) : Int × Bool :=
  if op = 22 ∨ op = 25 ∨ op = 30 ∨ op = 31 ∨ op = 32 ∨ op = 33 then (a, true)
  else if op = 23 ∨ op = 24 ∨ op = 26 ∨ op = 27 then (b, true) else (0, false)

def retA (op a t : Int) : Int := if op = 22 ∨ op = 25 ∨ op = 30 ∨ op = 31 ∨ op = 32 ∨ op = 33 then t else a
def retB (op b t : Int) : Int := if op = 23 ∨ op = 24 ∨ op = 26 ∨ op = 27 then t else b

namespace Ins
def valid (i : Ins) : Bool := validB i.op i.a i.b i.c i.d
def inverse (i : Ins) : Ins := { i with op := inv i.op }
def target (i : Ins) : Int × Bool := targetP i.op i.a i.b
def retarget (i : Ins) (t : Int) : Ins := { i with a := retA i.op i.a t, b := retB i.op i.b t }
end Ins

/-- Bounds that every instruction in memory has. -/
structure Ins.Wf (i : Ins) : Prop where
  op0 : 0 ≤ i.op
  op1 : i.op ≤ 255
  a0 : -9223372036854775808 ≤ i.a
  a1 : i.a ≤ 9223372036854775807
  b0 : -9223372036854775808 ≤ i.b
  b1 : i.b ≤ 9223372036854775807
  c0 : -9223372036854775808 ≤ i.c
  c1 : i.c ≤ 9223372036854775807
  d0 : -9223372036854775808 ≤ i.d
  d1 : i.d ≤ 9223372036854775807

theorem inv_range (op : Int) (h0 : 0 ≤ op) (h1 : op ≤ 255) : 0 ≤ inv op ∧ inv op ≤ 255 := by
  unfold inv; repeat (first | (split; · omega) | omega)

theorem op_cases (op : Int) (h0 : 0 ≤ op) (h : op < 35) : op = 0 ∨ op = 1 ∨ op = 2 ∨ op = 3 ∨ op = 4 ∨ op = 5 ∨ op = 6 ∨ op = 7 ∨ op = 8 ∨ op = 9 ∨ op = 10 ∨ op = 11 ∨ op = 12 ∨ op = 13 ∨ op = 14 ∨ op = 15 ∨ op = 16 ∨ op = 17 ∨ op = 18 ∨ op = 19 ∨ op = 20 ∨ op = 21 ∨ op = 22 ∨ op = 23 ∨ op = 24 ∨ op = 25 ∨ op = 26 ∨ op = 27 ∨ op = 28 ∨ op = 29 ∨ op = 30 ∨ op = 31 ∨ op = 32 ∨ op = 33 ∨ op = 34 := by omega

end Bk
