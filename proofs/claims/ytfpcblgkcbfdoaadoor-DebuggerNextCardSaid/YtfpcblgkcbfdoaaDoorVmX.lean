/- Several texts in one: VmS VmA VmP. -/
import Derived.Test.YtfpcblgkcbfdoaaDoorPa
import Derived.Test.YtfpcblgkcbfdoaaDoorMh
import Derived.Test.YtfpcblgkcbfdoaaDoorCpX
import Derived.Test.YtfpcblgkcbfdoaaDoorCpV
set_option linter.unusedVariables false
set_option linter.unusedSimpArgs false
/- Plain: the machine after so many steps; a virtual machine: a machine so many steps behind its first one, with fuel. -/
set_option linter.unusedVariables false
namespace Bk
open Go.RowKit (wrap64)
theorem ite_err {M : Mach} {c : Prop} [Decidable c] {a b : Int × Mach} (h : a.1 ≠ 0 → a.2 = M) (h' : b.1 ≠ 0 → b.2 = M) : (if c then a else b).1 ≠ 0 → (if c then a else b).2 = M := by
  split
  · exact h
  · exact h'
theorem step_err {code : Prg} {M : Mach} : (step code M).1 ≠ 0 → (step code M).2 = M := by
  rw [step_eq]
  have self : ∀ e : Int, ((e, M) : Int × Mach).1 ≠ 0 → ((e, M) : Int × Mach).2 = M := fun _ _ => rfl
  have ok : ∀ N : Mach, (((0 : Int), N) : Int × Mach).1 ≠ 0 → (((0 : Int), N) : Int × Mach).2 = M := fun _ h => absurd rfl h
  have en : ∀ k, (enter code M k).1 ≠ 0 → (enter code M k).2 = M := fun k => by unfold enter; exact ite_err (self _) (ite_err (self _) (ok _))
  have le : ∀ k, (leave code M k).1 ≠ 0 → (leave code M k).2 = M := fun k => by unfold leave; exact ite_err (self _) (ite_err (self _) (ok _))
  have ju : ∀ k, (jump code M k).1 ≠ 0 → (jump code M k).2 = M := fun k => by unfold jump; exact ite_err (self _) (ite_err (ok _) (ite_err (ok _) (self _)))
  exact ite_err (self _) (ite_err (self _) (ite_err (self _) (ite_err (en _) (ite_err (le _) (ite_err (ju _) (ite_err (ok _) (self _)))))))
theorem Fit.step {im : Img} (hv : im.check.2 = 0) (hw : CodeWf im.code) {M : Mach} (hf : Fit im M) : Fit im (Bk.step im.code M).2 := by
  by_cases h0 : (Bk.step im.code M).1 = 0
  · exact (step_undo hv hw hf (Prod.ext h0 rfl)).1
  · rw [step_err h0]; exact hf
/-- The machine after so many steps. -/
def tr (code : Prg) (M : Mach) : Nat → Mach
  | 0 => M
  | i + 1 => (Bk.step code (tr code M i)).2
/-- The error of the step with that number. -/
def te (code : Prg) (M : Mach) (j : Nat) : Int := (Bk.step code (tr code M j)).1
theorem tr_sb {code : Prg} {M : Mach} {K : Nat} (h : SB K M) : ∀ j, SB (K + j) (tr code M j)
  | 0 => h
  | j + 1 => (tr_sb h j).step code
theorem tr_fit {im : Img} (hv : im.check.2 = 0) (hw : CodeWf im.code) {M : Mach} (hf : Fit im M) : ∀ j, Fit im (tr im.code M j)
  | 0 => hf
  | j + 1 => (tr_fit hv hw hf j).step hv hw
theorem te_ok {code : Prg} {M : Mach} {j : Nat} (h : te code M j = 0) : Bk.step code (tr code M j) = (0, tr code M (j + 1)) := Prod.ext h rfl
theorem te_err {code : Prg} {M : Mach} {j : Nat} (h : te code M j ≠ 0) : Bk.step code (tr code M j) = (te code M j, tr code M j) := Prod.ext rfl (step_err h)
theorem tr_back {im : Img} (hv : im.check.2 = 0) (hw : CodeWf im.code) {M : Mach} (hf : Fit im M) {j : Nat} (h : te im.code M j = 0) :
    ((Bk.step im.code (tr im.code M (j + 1)).turn).1, (Bk.step im.code (tr im.code M (j + 1)).turn).2.turn) = (0, tr im.code M j) := by
  rw [(step_undo hv hw (tr_fit hv hw hf j) (te_ok h)).2, turn_turn]
/-- What stays: a valid image, a first machine that fits, machines of bounded size up to J steps behind it. -/
structure VEnv (im : Img) (M : Mach) (J : Nat) : Prop where
  ck : im.check.2 = 0
  hw : CodeWf im.code
  ft : Fit im M
  bd : ∀ j, j ≤ J → MBd (tr im.code M j)
theorem VEnv.fit {im : Img} {M : Mach} {J : Nat} (h : VEnv im M J) (j : Nat) : Fit im (tr im.code M j) := tr_fit h.ck h.hw h.ft j
theorem VEnv.back {im : Img} {M : Mach} {J : Nat} (h : VEnv im M J) {j : Nat} (hj : te im.code M j = 0) :
    ((Bk.step im.code (tr im.code M (j + 1)).turn).1, (Bk.step im.code (tr im.code M (j + 1)).turn).2.turn) = (0, tr im.code M j) := tr_back h.ck h.hw h.ft hj
theorem VEnv.of {im : Img} {M : Mach} (hck : im.check.2 = 0) (hw : CodeWf im.code) (hf : Fit im M) {K : Nat} (hs : SB K M) {J : Nat} (hJ : K + J ≤ 17592186044400) : VEnv im M J :=
  ⟨hck, hw, hf, fun j hj => MBd.of hck (tr_fit hck hw hf j) (tr_sb hs j) (by omega)⟩
/-- All steps before the one with the number j succeed. -/
def Ran (code : Prg) (M : Mach) (j : Nat) : Prop := ∀ i, i < j → te code M i = 0
theorem Ran.zero (code : Prg) (M : Mach) : Ran code M 0 := fun i hi => absurd hi (Nat.not_lt_zero _)
theorem Ran.succ {code : Prg} {M : Mach} {j : Nat} (h : Ran code M j) (hj : te code M j = 0) : Ran code M (j + 1) := fun i hi => by
  rcases Nat.lt_succ_iff_lt_or_eq.1 hi with h' | rfl
  · exact h i h'
  · exact hj
theorem Ran.le {code : Prg} {M : Mach} {j k : Nat} (h : Ran code M j) (hk : k ≤ j) : Ran code M k := fun i hi => h i (by omega)
/-- A machine is halted. -/
def halt (code : Prg) (M : Mach) : Bool := decide (M.dir = 1) && (decide (M.calls.length = 0) && (decide (M.pc = code.length) || decide ((code.getD M.pc.toNat default).op = 34)))
/-- The number of steps of a run with f units of fuel, from j on. -/
def runV (code : Prg) (M : Mach) : Nat → Nat → Nat
  | 0, _ => 0
  | f + 1, j => if halt code (tr code M j) = true ∨ te code M j ≠ 0 then 0 else runV code M f (j + 1) + 1
/-- How a run ends that stands at j with f units of fuel. -/
def endE (code : Prg) (M : Mach) (f j : Nat) : Int := if halt code (tr code M j) = true then 0 else if f = 0 then 18 else te code M j
theorem runV_le (code : Prg) (M : Mach) : ∀ f j, runV code M f j ≤ f
  | 0, _ => Nat.le_refl _
  | f + 1, j => by
    unfold runV
    split
    · exact Nat.zero_le _
    · have := runV_le code M f (j + 1); omega
theorem runV_ran {code : Prg} {M : Mach} : ∀ f j, Ran code M j → Ran code M (j + runV code M f j)
  | 0, _, h => h
  | f + 1, j, h => by
    unfold runV
    split
    · exact h
    · rename_i hn
      have := runV_ran f (j + 1) (h.succ (Decidable.byContradiction fun e => hn (.inr e)))
      rw [show j + (runV code M f (j + 1) + 1) = j + 1 + runV code M f (j + 1) by omega]
      exact this
theorem runV_lt {code : Prg} {M : Mach} : ∀ f j i, i < runV code M f j → halt code (tr code M (j + i)) = false ∧ te code M (j + i) = 0 ∧ i < f
  | 0, _, i, h => absurd h (Nat.not_lt_zero _)
  | f + 1, j, i, h => by
    unfold runV at h
    split at h
    · exact absurd h (Nat.not_lt_zero _)
    · rename_i hn
      rcases i with _ | i
      · refine ⟨?_, Decidable.byContradiction fun e => hn (.inr e), by omega⟩
        cases hh : halt code (tr code M (j + 0)) with
        | false => rfl
        | true => exact absurd (.inl hh) hn
      · obtain ⟨a, b, c⟩ := runV_lt (code := code) (M := M) f (j + 1) i (by omega)
        rw [show j + 1 + i = j + (i + 1) by omega] at a b
        exact ⟨a, b, by omega⟩
theorem runV_stop {code : Prg} {M : Mach} : ∀ f j, halt code (tr code M (j + runV code M f j)) = true ∨ runV code M f j = f ∨ te code M (j + runV code M f j) ≠ 0
  | 0, _ => .inr (.inl rfl)
  | f + 1, j => by
    unfold runV
    split
    · rename_i hn
      rcases hn with h | h
      · exact .inl h
      · exact .inr (.inr h)
    · have := runV_stop (code := code) (M := M) f (j + 1)
      rw [show j + (runV code M f (j + 1) + 1) = j + 1 + runV code M f (j + 1) by omega]
      rcases this with h | h | h
      · exact .inl h
      · exact .inr (.inl (by omega))
      · exact .inr (.inr h)
end Bk

/- A virtual machine in memory: the image's three cells, the machine, fuel and ticks. -/
set_option maxRecDepth 100000
set_option linter.unusedVariables false
namespace Bk
open Go Go.RowKit
section
variable {w w' : World} {P : Pl} {M : Mach} {vm vs vc vi vo : Value} {sv : List Value}
/-- The cells behind the machine. -/
theorem MOn.cpost (h : MOn w P M vm vs vc vi vo sv) (k : Nat) : w.cell? ⟨P.b, P.off + 25 + k, none⟩ = P.post[k]? := by
  have hl := (mc_get (M := M) (vm := vm) (vs := vs) (vc := vc) (vi := vi) (vo := vo) h.rl).2.2.2.2.2.2.2.2.2.2
  rw [h.blk.cell, ← h.hoff, List.getElem?_toArray, List.getElem?_append_right (by simp; omega)]
  congr 1
  simp; omega
/-- The cells before the machine. -/
theorem MOn.cpre (h : MOn w P M vm vs vc vi vo sv) (k : Nat) (hk : k < P.pre.length) : w.cell? ⟨P.b, k, none⟩ = P.pre[k]? := by
  rw [h.blk.cell, List.getElem?_toArray, List.getElem?_append_left (by simp; omega), List.getElem?_append_left hk]
/-- A store behind the machine. -/
theorem MOn.setPost (h : MOn w P M vm vs vc vi vo sv) (k : Nat) (u : Value) {o : Nat} (ho : o = P.off + 25 + k) : MOn (w.setCell ⟨P.b, o, none⟩ u) { P with post := P.post.set k u } M vm vs vc vi vo sv := by
  subst ho
  have ne : ∀ g, g ≠ P.b → (w.setCell ⟨P.b, P.off + 25 + k, none⟩ u).heap[g]? = w.heap[g]? := fun g hg => Below.heap_setCell w ⟨P.b, P.off + 25 + k, none⟩ u g hg
  have hsz : (w.setCell ⟨P.b, P.off + 25 + k, none⟩ u).heap.size = w.heap.size := by simp [World.setCell]
  have hl := (mc_get (M := M) (vm := vm) (vs := vs) (vc := vc) (vi := vi) (vo := vo) h.rl).2.2.2.2.2.2.2.2.2.2
  refine ⟨h.hoff, h.rl, ?_, ?_, ?_, by rw [hsz]; exact h.gm, by rw [hsz]; exact h.gs, h.am, h.as_, ?_, fun k hk => by rw [hsz]; exact h.fx k hk⟩
  · have := h.blk.set_ (P.off + 25 + k) u
    rw [List.setIfInBounds_toArray, List.set_append_right _ _ (by simp; have := h.hoff; omega)] at this
    have e : P.off + 25 + k - (P.pre ++ mcells M vm vs vc vi vo).length = k := by simp; have := h.hoff; omega
    rw [e] at this
    exact this
  · exact h.m.keep fun hn => ne _ (h.am (by rw [intCells_length] at hn; exact hn)).1
  · exact h.s.keep fun hn => ne _ (h.as_ (by rw [h.l.1.1] at hn; exact hn))
  · exact h.l.keep (fun b o hd => World.cell?_of_block (ne b fun e => hd.2 (.inl e))) fun k hk => ⟨by rw [hsz]; exact hk.1, hk.2⟩
end
/-- The place with other numbers behind the machine. -/
def VPl (P : Pl) (f t : Int) : Pl := { P with post := [.int .i64 f, .int .i64 t] }
theorem VPl.O {P : Pl} {f t : Int} : (VPl P f t).O = P.O := rfl
/-- A VM stands at a place: its machine j steps behind the first one, with f units of fuel. -/
def VAt (w : World) (P : Pl) (code : Prg) (M : Mach) (j f : Nat) : Prop := MAt w (VPl P f j) (tr code M j) ∧ Ran code M j
theorem VAt.next {w w' : World} {P : Pl} {code : Prg} {M : Mach} {j f : Nat} (h : VAt w P code M j f) (hb : Below w.heap.size w w') : VAt w' P code M j f := ⟨h.1.next hb, h.2⟩
theorem VAt.b_lt {w : World} {P : Pl} {code : Prg} {M : Mach} {j f : Nat} (h : VAt w P code M j f) : P.b < w.heap.size := by
  obtain ⟨⟨_, _, _, _, _, _, h⟩, _⟩ := h; exact h.lt
end Bk

/- What is fixed of a block that holds an image and a machine; its code in memory. -/
set_option maxRecDepth 100000
set_option linter.unusedVariables false
namespace Go.Proofs.YtfpcblgkcbfdoaaDoor
open Go.RowKit Bk
/-- What is fixed: how the block lies; the image; its code in memory. -/
structure VFx (w : World) (P : Pl) (A : Option Addr) (n cap : Nat) (im : Img) : Prop where
  pre : P.pre = [.slice A n cap, .int .i64 im.mem, .int .i64 im.stacks]
  off : P.off = 3
  env : Env w P A n im.code
theorem Env.pl {w : World} {P : Pl} {A : Option Addr} {n : Nat} {code : Prg} (h : Env w P A n code) (f t : Int) : Env w (VPl P f t) A n code := ⟨h.hC, h.hw, h.hT, h.hG, h.hl⟩
theorem VFx.next {w w' : World} {P : Pl} {A : Option Addr} {n cap : Nat} {im : Img} (h : VFx w P A n cap im) (hb : Below w.heap.size w w') : VFx w' P A n cap im := ⟨h.pre, h.off, h.env.next hb⟩
theorem VFx.fr {w w' : World} {P : Pl} {A : Option Addr} {n cap : Nat} {im : Img} (h : VFx w P A n cap im) (hf : Fr P.O w w') : VFx w' P A n cap im := ⟨h.pre, h.off, h.env.fr hf⟩
theorem VFx.other {w w' : World} {P : Pl} {A : Option Addr} {n cap : Nat} {im : Img} {lo hi : Nat} (h : VFx w P A n cap im) (hR : Rd w (fun k => lo ≤ k ∧ k < hi ∧ ¬ P.O k) 5 A n (codeCells im.code)) (hi' : hi ≤ w.heap.size) {O : Nat → Prop} (hf : Fr O w w') (hO : ∀ k, lo ≤ k → k < hi → ¬ O k) (hG : ¬ O 0) : VFx w' P A n cap im :=
  ⟨h.pre, h.off, ⟨(hR.keep fun b o hd => hf.cell (Nat.lt_of_lt_of_le hd.2.1 hi') (hO b hd.1 hd.2.1) o).mono fun k hk => ⟨Nat.lt_of_lt_of_le hk.2.1 (Nat.le_trans hi' hf.size), hk.2.2⟩, h.env.hw, fun k hk => (hf.cell h.env.hT.lt hG _).trans (h.env.hT k hk), h.env.hG, h.env.hl⟩⟩
theorem Rd.frR {w w' : World} {A : Option Addr} {n lo hi : Nat} {P : Pl} {xs : List Value} (hR : Rd w (fun k => lo ≤ k ∧ k < hi ∧ ¬ P.O k) 5 A n xs) (hi' : hi ≤ w.heap.size) {O : Nat → Prop} (hf : Fr O w w') (hO : ∀ k, lo ≤ k → k < hi → ¬ P.O k → ¬ O k) : Rd w' (fun k => lo ≤ k ∧ k < hi ∧ ¬ P.O k) 5 A n xs :=
  hR.keep fun b o hd => hf.cell (Nat.lt_of_lt_of_le hd.2.1 hi') (hO b hd.1 hd.2.1 hd.2.2) o
theorem _root_.Bk.VAt.other {w w' : World} {P : Pl} {code : Prg} {M : Mach} {j f : Nat} (h : VAt w P code M j f) {O : Nat → Prop} (hf : Fr O w w') (h1 : ¬ O P.b) (h2 : ¬ O P.gm) (h3 : ¬ O P.gs) (hx : ∀ k, O k → P.fx k) : VAt w' P code M j f := ⟨h.1.other hf h1 h2 h3 hx, h.2⟩
theorem _root_.Bk.VAt.foreign {w w' : World} {P : Pl} {code : Prg} {M : Mach} {j f : Nat} (h : VAt w P code M j f) (hb : Below w.heap.size w w') {fx : Nat → Prop} (h1 : ∀ k, fx k → P.fx k ∨ w.heap.size ≤ k) (h2 : ∀ k, fx k → k < w'.heap.size) : VAt w' { P with fx := fx } code M j f := ⟨h.1.foreign hb h1 h2, h.2⟩
theorem VFx.pl {w : World} {P : Pl} {A : Option Addr} {n cap : Nat} {im : Img} (h : VFx w P A n cap im) (fx : Nat → Prop) : VFx w { P with fx := fx } A n cap im := ⟨h.pre, h.off, ⟨h.env.hC, h.env.hw, h.env.hT, h.env.hG, h.env.hl⟩⟩
end Go.Proofs.YtfpcblgkcbfdoaaDoor
