/- Several texts in one: VmS VmA VmP VmB VmC VmE. -/
import Derived.Test.YteenmpjjaheggaaDoorPa
import Derived.Test.YteenmpjjaheggaaDoorMh
import Derived.Test.YteenmpjjaheggaaDoorCpX
import Derived.Test.YteenmpjjaheggaaDoorCpV
import Derived.Test.YteenmpjjaheggaaDoorZHeld
set_option linter.unusedVariables false
set_option linter.unusedSimpArgs false
/- Plain: the machine after so many steps; a virtual machine: a machine so many steps behind its first one, with fuel. -/
set_option linter.unusedVariables false
namespace Bk
open Go.RowKit (wrap64)
theorem ite_err {M : Mach} {c : Prop} [Decidable c] {a b : Int × Mach} (h : a.1 ≠ 0 → a.2 = M) (h' : b.1 ≠ 0 → b.2 = M) : (if c then a else b).1 ≠ 0 → (if c then a else b).2 = M := by
  split
  · exact h
  · exact h'
theorem step_err {code : Prg} {M : Mach} : (step code M).1 ≠ 0 → (step code M).2 = M := by
  rw [step_eq]
  have self : ∀ e : Int, ((e, M) : Int × Mach).1 ≠ 0 → ((e, M) : Int × Mach).2 = M := fun _ _ => rfl
  have ok : ∀ N : Mach, (((0 : Int), N) : Int × Mach).1 ≠ 0 → (((0 : Int), N) : Int × Mach).2 = M := fun _ h => absurd rfl h
  have en : ∀ k, (enter code M k).1 ≠ 0 → (enter code M k).2 = M := fun k => by unfold enter; exact ite_err (self _) (ite_err (self _) (ok _))
  have le : ∀ k, (leave code M k).1 ≠ 0 → (leave code M k).2 = M := fun k => by unfold leave; exact ite_err (self _) (ite_err (self _) (ok _))
  have ju : ∀ k, (jump code M k).1 ≠ 0 → (jump code M k).2 = M := fun k => by unfold jump; exact ite_err (self _) (ite_err (ok _) (ite_err (ok _) (self _)))
  exact ite_err (self _) (ite_err (self _) (ite_err (self _) (ite_err (en _) (ite_err (le _) (ite_err (ju _) (ite_err (ok _) (self _)))))))
theorem Fit.step {im : Img} (hv : im.check.2 = 0) (hw : CodeWf im.code) {M : Mach} (hf : Fit im M) : Fit im (Bk.step im.code M).2 := by
  by_cases h0 : (Bk.step im.code M).1 = 0
  · exact (step_undo hv hw hf (Prod.ext h0 rfl)).1
  · rw [step_err h0]; exact hf
/-- The machine after so many steps. -/
def tr (code : Prg) (M : Mach) : Nat → Mach
  | 0 => M
  | i + 1 => (Bk.step code (tr code M i)).2
/-- The error of the step with that number. -/
def te (code : Prg) (M : Mach) (j : Nat) : Int := (Bk.step code (tr code M j)).1
theorem tr_sb {code : Prg} {M : Mach} {K : Nat} (h : SB K M) : ∀ j, SB (K + j) (tr code M j)
  | 0 => h
  | j + 1 => (tr_sb h j).step code
theorem tr_fit {im : Img} (hv : im.check.2 = 0) (hw : CodeWf im.code) {M : Mach} (hf : Fit im M) : ∀ j, Fit im (tr im.code M j)
  | 0 => hf
  | j + 1 => (tr_fit hv hw hf j).step hv hw
theorem te_ok {code : Prg} {M : Mach} {j : Nat} (h : te code M j = 0) : Bk.step code (tr code M j) = (0, tr code M (j + 1)) := Prod.ext h rfl
theorem te_err {code : Prg} {M : Mach} {j : Nat} (h : te code M j ≠ 0) : Bk.step code (tr code M j) = (te code M j, tr code M j) := Prod.ext rfl (step_err h)
theorem tr_back {im : Img} (hv : im.check.2 = 0) (hw : CodeWf im.code) {M : Mach} (hf : Fit im M) {j : Nat} (h : te im.code M j = 0) :
    ((Bk.step im.code (tr im.code M (j + 1)).turn).1, (Bk.step im.code (tr im.code M (j + 1)).turn).2.turn) = (0, tr im.code M j) := by
  rw [(step_undo hv hw (tr_fit hv hw hf j) (te_ok h)).2, turn_turn]
/-- What stays: a valid image, a first machine that fits, machines of bounded size up to J steps behind it. -/
structure VEnv (im : Img) (M : Mach) (J : Nat) : Prop where
  ck : im.check.2 = 0
  hw : CodeWf im.code
  ft : Fit im M
  bd : ∀ j, j ≤ J → MBd (tr im.code M j)
theorem VEnv.fit {im : Img} {M : Mach} {J : Nat} (h : VEnv im M J) (j : Nat) : Fit im (tr im.code M j) := tr_fit h.ck h.hw h.ft j
theorem VEnv.back {im : Img} {M : Mach} {J : Nat} (h : VEnv im M J) {j : Nat} (hj : te im.code M j = 0) :
    ((Bk.step im.code (tr im.code M (j + 1)).turn).1, (Bk.step im.code (tr im.code M (j + 1)).turn).2.turn) = (0, tr im.code M j) := tr_back h.ck h.hw h.ft hj
theorem VEnv.of {im : Img} {M : Mach} (hck : im.check.2 = 0) (hw : CodeWf im.code) (hf : Fit im M) {K : Nat} (hs : SB K M) {J : Nat} (hJ : K + J ≤ 20000000000000) : VEnv im M J :=
  ⟨hck, hw, hf, fun j hj => MBd.of hck (tr_fit hck hw hf j) (tr_sb hs j) (by omega)⟩
/-- All steps before the one with the number j succeed. -/
def Ran (code : Prg) (M : Mach) (j : Nat) : Prop := ∀ i, i < j → te code M i = 0
theorem Ran.zero (code : Prg) (M : Mach) : Ran code M 0 := fun i hi => absurd hi (Nat.not_lt_zero _)
theorem Ran.succ {code : Prg} {M : Mach} {j : Nat} (h : Ran code M j) (hj : te code M j = 0) : Ran code M (j + 1) := fun i hi => by
  rcases Nat.lt_succ_iff_lt_or_eq.1 hi with h' | rfl
  · exact h i h'
  · exact hj
theorem Ran.le {code : Prg} {M : Mach} {j k : Nat} (h : Ran code M j) (hk : k ≤ j) : Ran code M k := fun i hi => h i (by omega)
/-- A machine is halted. -/
def halt (code : Prg) (M : Mach) : Bool := decide (M.dir = 1) && (decide (M.calls.length = 0) && (decide (M.pc = code.length) || decide ((code.getD M.pc.toNat default).op = 34)))
/-- The number of steps of a run with f units of fuel, from j on. -/
def runV (code : Prg) (M : Mach) : Nat → Nat → Nat
  | 0, _ => 0
  | f + 1, j => if halt code (tr code M j) = true ∨ te code M j ≠ 0 then 0 else runV code M f (j + 1) + 1
/-- How a run ends that stands at j with f units of fuel. -/
def endE (code : Prg) (M : Mach) (f j : Nat) : Int := if halt code (tr code M j) = true then 0 else if f = 0 then 18 else te code M j
theorem runV_le (code : Prg) (M : Mach) : ∀ f j, runV code M f j ≤ f
  | 0, _ => Nat.le_refl _
  | f + 1, j => by
    unfold runV
    split
    · exact Nat.zero_le _
    · have := runV_le code M f (j + 1); omega
theorem runV_ran {code : Prg} {M : Mach} : ∀ f j, Ran code M j → Ran code M (j + runV code M f j)
  | 0, _, h => h
  | f + 1, j, h => by
    unfold runV
    split
    · exact h
    · rename_i hn
      have := runV_ran f (j + 1) (h.succ (Decidable.byContradiction fun e => hn (.inr e)))
      rw [show j + (runV code M f (j + 1) + 1) = j + 1 + runV code M f (j + 1) by omega]
      exact this
theorem runV_lt {code : Prg} {M : Mach} : ∀ f j i, i < runV code M f j → halt code (tr code M (j + i)) = false ∧ te code M (j + i) = 0 ∧ i < f
  | 0, _, i, h => absurd h (Nat.not_lt_zero _)
  | f + 1, j, i, h => by
    unfold runV at h
    split at h
    · exact absurd h (Nat.not_lt_zero _)
    · rename_i hn
      rcases i with _ | i
      · refine ⟨?_, Decidable.byContradiction fun e => hn (.inr e), by omega⟩
        cases hh : halt code (tr code M (j + 0)) with
        | false => rfl
        | true => exact absurd (.inl hh) hn
      · obtain ⟨a, b, c⟩ := runV_lt (code := code) (M := M) f (j + 1) i (by omega)
        rw [show j + 1 + i = j + (i + 1) by omega] at a b
        exact ⟨a, b, by omega⟩
theorem runV_stop {code : Prg} {M : Mach} : ∀ f j, halt code (tr code M (j + runV code M f j)) = true ∨ runV code M f j = f ∨ te code M (j + runV code M f j) ≠ 0
  | 0, _ => .inr (.inl rfl)
  | f + 1, j => by
    unfold runV
    split
    · rename_i hn
      rcases hn with h | h
      · exact .inl h
      · exact .inr (.inr h)
    · have := runV_stop (code := code) (M := M) f (j + 1)
      rw [show j + (runV code M f (j + 1) + 1) = j + 1 + runV code M f (j + 1) by omega]
      rcases this with h | h | h
      · exact .inl h
      · exact .inr (.inl (by omega))
      · exact .inr (.inr h)
end Bk

/- A virtual machine in memory: the image's three cells, the machine, fuel and ticks. -/
set_option maxRecDepth 100000
set_option linter.unusedVariables false
namespace Bk
open Go Go.RowKit
section
variable {w w' : World} {P : Pl} {M : Mach} {vm vs vc vi vo : Value} {sv : List Value}
/-- The cells behind the machine. -/
theorem MOn.cpost (h : MOn w P M vm vs vc vi vo sv) (k : Nat) : w.cell? ⟨P.b, P.off + 25 + k, none⟩ = P.post[k]? := by
  have hl := (mc_get (M := M) (vm := vm) (vs := vs) (vc := vc) (vi := vi) (vo := vo) h.rl).2.2.2.2.2.2.2.2.2.2
  rw [h.blk.cell, ← h.hoff, List.getElem?_toArray, List.getElem?_append_right (by simp; omega)]
  congr 1
  simp; omega
/-- The cells before the machine. -/
theorem MOn.cpre (h : MOn w P M vm vs vc vi vo sv) (k : Nat) (hk : k < P.pre.length) : w.cell? ⟨P.b, k, none⟩ = P.pre[k]? := by
  rw [h.blk.cell, List.getElem?_toArray, List.getElem?_append_left (by simp; omega), List.getElem?_append_left hk]
/-- A store behind the machine. -/
theorem MOn.setPost (h : MOn w P M vm vs vc vi vo sv) (k : Nat) (u : Value) {o : Nat} (ho : o = P.off + 25 + k) : MOn (w.setCell ⟨P.b, o, none⟩ u) { P with post := P.post.set k u } M vm vs vc vi vo sv := by
  subst ho
  have ne : ∀ g, g ≠ P.b → (w.setCell ⟨P.b, P.off + 25 + k, none⟩ u).heap[g]? = w.heap[g]? := fun g hg => Below.heap_setCell w ⟨P.b, P.off + 25 + k, none⟩ u g hg
  have hsz : (w.setCell ⟨P.b, P.off + 25 + k, none⟩ u).heap.size = w.heap.size := by simp [World.setCell]
  have hl := (mc_get (M := M) (vm := vm) (vs := vs) (vc := vc) (vi := vi) (vo := vo) h.rl).2.2.2.2.2.2.2.2.2.2
  refine ⟨h.hoff, h.rl, ?_, ?_, ?_, by rw [hsz]; exact h.gm, by rw [hsz]; exact h.gs, h.am, h.as_, ?_, fun k hk => by rw [hsz]; exact h.fx k hk⟩
  · have := h.blk.set_ (P.off + 25 + k) u
    rw [List.setIfInBounds_toArray, List.set_append_right _ _ (by simp; have := h.hoff; omega)] at this
    have e : P.off + 25 + k - (P.pre ++ mcells M vm vs vc vi vo).length = k := by simp; have := h.hoff; omega
    rw [e] at this
    exact this
  · exact h.m.keep fun hn => ne _ (h.am (by rw [intCells_length] at hn; exact hn)).1
  · exact h.s.keep fun hn => ne _ (h.as_ (by rw [h.l.1.1] at hn; exact hn))
  · exact h.l.keep (fun b o hd => World.cell?_of_block (ne b fun e => hd.2 (.inl e))) fun k hk => ⟨by rw [hsz]; exact hk.1, hk.2⟩
end
/-- The place with other numbers behind the machine. -/
def VPl (P : Pl) (f t : Int) : Pl := { P with post := [.int .i64 f, .int .i64 t] }
theorem VPl.O {P : Pl} {f t : Int} : (VPl P f t).O = P.O := rfl
/-- A VM stands at a place: its machine j steps behind the first one, with f units of fuel. -/
def VAt (w : World) (P : Pl) (code : Prg) (M : Mach) (j f : Nat) : Prop := MAt w (VPl P f j) (tr code M j) ∧ Ran code M j
theorem VAt.next {w w' : World} {P : Pl} {code : Prg} {M : Mach} {j f : Nat} (h : VAt w P code M j f) (hb : Below w.heap.size w w') : VAt w' P code M j f := ⟨h.1.next hb, h.2⟩
theorem VAt.b_lt {w : World} {P : Pl} {code : Prg} {M : Mach} {j f : Nat} (h : VAt w P code M j f) : P.b < w.heap.size := by
  obtain ⟨⟨_, _, _, _, _, _, h⟩, _⟩ := h; exact h.lt
end Bk

/- What is fixed of a block that holds an image and a machine; its code in memory. -/
set_option maxRecDepth 100000
set_option linter.unusedVariables false
namespace Go.Proofs.YteenmpjjaheggaaDoor
open Go.RowKit Bk
/-- What is fixed: how the block lies; the image; its code in memory. -/
structure VFx (w : World) (P : Pl) (A : Option Addr) (n cap : Nat) (im : Img) : Prop where
  pre : P.pre = [.slice A n cap, .int .i64 im.mem, .int .i64 im.stacks]
  off : P.off = 3
  env : Env w P A n im.code
theorem Env.pl {w : World} {P : Pl} {A : Option Addr} {n : Nat} {code : Prg} (h : Env w P A n code) (f t : Int) : Env w (VPl P f t) A n code := ⟨h.hC, h.hw, h.hT, h.hG, h.hl⟩
theorem VFx.next {w w' : World} {P : Pl} {A : Option Addr} {n cap : Nat} {im : Img} (h : VFx w P A n cap im) (hb : Below w.heap.size w w') : VFx w' P A n cap im := ⟨h.pre, h.off, h.env.next hb⟩
theorem VFx.fr {w w' : World} {P : Pl} {A : Option Addr} {n cap : Nat} {im : Img} (h : VFx w P A n cap im) (hf : Fr P.O w w') : VFx w' P A n cap im := ⟨h.pre, h.off, h.env.fr hf⟩
theorem VFx.other {w w' : World} {P : Pl} {A : Option Addr} {n cap : Nat} {im : Img} {lo hi : Nat} (h : VFx w P A n cap im) (hR : Rd w (fun k => lo ≤ k ∧ k < hi ∧ ¬ P.O k) 5 A n (codeCells im.code)) (hi' : hi ≤ w.heap.size) {O : Nat → Prop} (hf : Fr O w w') (hO : ∀ k, lo ≤ k → k < hi → ¬ O k) (hG : ¬ O 0) : VFx w' P A n cap im :=
  ⟨h.pre, h.off, ⟨(hR.keep fun b o hd => hf.cell (Nat.lt_of_lt_of_le hd.2.1 hi') (hO b hd.1 hd.2.1) o).mono fun k hk => ⟨Nat.lt_of_lt_of_le hk.2.1 (Nat.le_trans hi' hf.size), hk.2.2⟩, h.env.hw, fun k hk => (hf.cell h.env.hT.lt hG _).trans (h.env.hT k hk), h.env.hG, h.env.hl⟩⟩
theorem Rd.frR {w w' : World} {A : Option Addr} {n lo hi : Nat} {P : Pl} {xs : List Value} (hR : Rd w (fun k => lo ≤ k ∧ k < hi ∧ ¬ P.O k) 5 A n xs) (hi' : hi ≤ w.heap.size) {O : Nat → Prop} (hf : Fr O w w') (hO : ∀ k, lo ≤ k → k < hi → ¬ P.O k → ¬ O k) : Rd w' (fun k => lo ≤ k ∧ k < hi ∧ ¬ P.O k) 5 A n xs :=
  hR.keep fun b o hd => hf.cell (Nat.lt_of_lt_of_le hd.2.1 hi') (hO b hd.1 hd.2.1 hd.2.2) o
theorem _root_.Bk.VAt.other {w w' : World} {P : Pl} {code : Prg} {M : Mach} {j f : Nat} (h : VAt w P code M j f) {O : Nat → Prop} (hf : Fr O w w') (h1 : ¬ O P.b) (h2 : ¬ O P.gm) (h3 : ¬ O P.gs) (hx : ∀ k, O k → P.fx k) : VAt w' P code M j f := ⟨h.1.other hf h1 h2 h3 hx, h.2⟩
theorem _root_.Bk.VAt.foreign {w w' : World} {P : Pl} {code : Prg} {M : Mach} {j f : Nat} (h : VAt w P code M j f) (hb : Below w.heap.size w w') {fx : Nat → Prop} (h1 : ∀ k, fx k → P.fx k ∨ w.heap.size ≤ k) (h2 : ∀ k, fx k → k < w'.heap.size) : VAt w' { P with fx := fx } code M j f := ⟨h.1.foreign hb h1 h2, h.2⟩
theorem VFx.pl {w : World} {P : Pl} {A : Option Addr} {n cap : Nat} {im : Img} (h : VFx w P A n cap im) (fx : Nat → Prop) : VFx w { P with fx := fx } A n cap im := ⟨h.pre, h.off, ⟨h.env.hC, h.env.hw, h.env.hT, h.env.hG, h.env.hl⟩⟩
end Go.Proofs.YteenmpjjaheggaaDoor

/- The walks of the VM's Step, Back. -/
set_option maxRecDepth 100000
set_option maxHeartbeats 8000000
set_option maxRecDepth 100000
set_option linter.unusedVariables false
set_option linter.unusedSimpArgs false
namespace Go.Proofs.YteenmpjjaheggaaDoor
open Go.RowKit Bk
theorem c_VStepNil (w : World) : Calls Tryd.prog 55 #[.pointer none] w fun e w' => e = .returned (.int .i64 1) ∧ Below w.heap.size w w' := by
  go_enter Tryd.func55, Tryd.ntmps55
  go_wp2_with fail
  go_ret
  exact ⟨rfl, by go_grown⟩
theorem c_VStep0 {w : World} {P : Pl} {A : Option Addr} {n cap : Nat} {im : Img} {M : Mach} {j : Nat} (hX : VFx w P A n cap im) (hA : VAt w P im.code M j 0) :
    Calls Tryd.prog 55 #[.pointer (some ⟨P.b, 0, none⟩)] w fun e w' => e = .returned (.int .i64 18) ∧ Below w.heap.size w w' := by
  have hE := True.intro
  have HX := Lib.hid hX; have HE := Lib.hid hE; obtain ⟨⟨vm, vs, vc, vi, vo, sv, h⟩, hr⟩ := hA; obtain ⟨b, tt, pre, post, off, gm, gs, fx⟩ := P; obtain ⟨hpre, hoff, hv⟩ := hX; dsimp only at hpre hoff; subst hpre hoff; have HM := Lib.hid h; have HR := Lib.hid hr
  have e28 : w.cell? ⟨b, 28, none⟩ = some (.int .i64 0) := h.cpost 0
  clear h hr hv hE HE
  go_enter Tryd.func55, Tryd.ntmps55
  go_wp2_with fail
  go_ret
  exact ⟨rfl, by go_grown⟩
theorem c_VStepOk {w : World} {P : Pl} {A : Option Addr} {n cap : Nat} {im : Img} {M : Mach} {J j f : Nat} (hX : VFx w P A n cap im) (hE : VEnv im M J) (hJ : j ≤ J) (hj : j ≤ 4000000000000) (hf : f ≤ 4000000000000) (hA : VAt w P im.code M j (f + 1)) (h0 : te im.code M j = 0) :
    Calls Tryd.prog 55 #[.pointer (some ⟨P.b, 0, none⟩)] w fun e w' => e = .returned (.int .i64 0) ∧ VAt w' P im.code M (j + 1) f ∧ Fr P.O w w' := by
  have HX := Lib.hid hX; have HE := Lib.hid hE; obtain ⟨⟨vm, vs, vc, vi, vo, sv, h⟩, hr⟩ := hA; obtain ⟨b, tt, pre, post, off, gm, gs, fx⟩ := P; obtain ⟨hpre, hoff, hv⟩ := hX; dsimp only at hpre hoff; subst hpre hoff; have HM := Lib.hid h; have HR := Lib.hid hr
  have e0 : w.cell? ⟨b, 0, none⟩ = some (.slice A n cap) := h.cpre 0 (by simp [VPl]); have e1 : w.cell? ⟨b, 1, none⟩ = some (.int .i64 im.mem) := h.cpre 1 (by simp [VPl]); have e2 : w.cell? ⟨b, 2, none⟩ = some (.int .i64 im.stacks) := h.cpre 2 (by simp [VPl])
  obtain ⟨F, hF⟩ : ∃ F : Int, F = ((f + 1 : Nat) : Int) := ⟨_, rfl⟩
  obtain ⟨T, hT⟩ : ∃ T : Int, T = (j : Int) := ⟨_, rfl⟩
  have e28 : w.cell? ⟨b, 28, none⟩ = some (.int .i64 F) := hF ▸ h.cpost 0
  have f1 : ¬ F ≤ 0 := by omega
  have f2 : F ≤ 4000000000001 := by omega
  have t1 : 0 ≤ T := by omega
  have t2 : T ≤ 4000000000000 := by omega
  have HF := Lib.hid hF; have HT := Lib.hid hT; have H0 := Lib.hid h0
  clear h hr hv hE h0 hF hT
  go_enter Tryd.func55, Tryd.ntmps55
  go_wp2_with fail
  go_still_tail 7, (by kernel_rfl)
  change wpList _ _ _ _ _ w.drew
  go_wp2_with fail
  have hs := c_Step (HM.out.heap (w' := w.drew) rfl) cap im ((HX.out.env.pl _ _).next (by go_grown)) HE.out.ck (HE.out.fit j) (HE.out.bd j hJ)
  refine (OnM.of hs (te_ok H0.out).symm).mono ?_
  rintro e w3 ⟨rfl, hm3, hf3⟩
  obtain ⟨vm', vs', vc', vi', vo', sv', h3⟩ := hm3
  have z3 : b < w3.heap.size := h3.lt
  have g28 : w3.cell? ⟨b, 28, none⟩ = some (.int .i64 F) := HF.out ▸ h3.cpost 0
  have g29 : w3.cell? ⟨b, 29, none⟩ = some (.int .i64 T) := HT.out ▸ h3.cpost 1
  have fr : ∀ o, w3.frozen? ⟨b, o, none⟩ = false := fun o => h3.frozen o
  have H3 := Lib.hid h3
  have HF3 : Hid (Fr (Pl.O ⟨b, tt, [.slice A n cap, .int .i64 im.mem, .int .i64 im.stacks], post, 3, gm, gs, fx⟩) w w3) := Lib.hid ((Fr.of (by go_grown)).trans hf3)
  clear h3 hf3 hs e0 e1 e2 e28
  go_wp2_with fail
  go_ret
  refine ⟨rfl, ⟨⟨vm', vs', vc', vi', vo', sv', ?_⟩, HR.out.succ H0.out⟩, ?_⟩
  · have h4 := (H3.out.setPost 0 (.int .i64 (F - 1)) (o := 28) rfl).setPost 1 (.int .i64 (T + 1)) (o := 29) rfl
    have q1 : F - 1 = (f : Int) := by have := HF.out; omega
    have q2 : T + 1 = ((j + 1 : Nat) : Int) := by have := HT.out; omega
    rw [q1, q2] at h4
    rw [q1, q2]
    exact h4
  · have HF3 := HF3.out
    repeat' (first | with_reducible (first | assumption | apply Fr.refl | apply Fr.drew | apply Fr.drewN | apply Fr.alloc | apply Fr.set) | exact .inl rfl | exact .inr (.inl rfl) | exact .inr (.inr rfl) | (apply Fr.of; assumption))
theorem c_VStepErr {w : World} {P : Pl} {A : Option Addr} {n cap : Nat} {im : Img} {M : Mach} {J j f : Nat} (hX : VFx w P A n cap im) (hE : VEnv im M J) (hJ : j ≤ J) (hj : j ≤ 4000000000000) (hf : f ≤ 4000000000000) (hA : VAt w P im.code M j (f + 1)) (h0 : te im.code M j ≠ 0) :
    Calls Tryd.prog 55 #[.pointer (some ⟨P.b, 0, none⟩)] w fun e w' => e = .returned (.int .i64 (te im.code M j)) ∧ VAt w' P im.code M j (f + 1) ∧ Fr P.O w w' := by
  have HX := Lib.hid hX; have HE := Lib.hid hE; obtain ⟨⟨vm, vs, vc, vi, vo, sv, h⟩, hr⟩ := hA; obtain ⟨b, tt, pre, post, off, gm, gs, fx⟩ := P; obtain ⟨hpre, hoff, hv⟩ := hX; dsimp only at hpre hoff; subst hpre hoff; have HM := Lib.hid h; have HR := Lib.hid hr
  have e0 : w.cell? ⟨b, 0, none⟩ = some (.slice A n cap) := h.cpre 0 (by simp [VPl]); have e1 : w.cell? ⟨b, 1, none⟩ = some (.int .i64 im.mem) := h.cpre 1 (by simp [VPl]); have e2 : w.cell? ⟨b, 2, none⟩ = some (.int .i64 im.stacks) := h.cpre 2 (by simp [VPl])
  obtain ⟨F, hF⟩ : ∃ F : Int, F = ((f + 1 : Nat) : Int) := ⟨_, rfl⟩
  have e28 : w.cell? ⟨b, 28, none⟩ = some (.int .i64 F) := hF ▸ h.cpost 0
  have f1 : ¬ F ≤ 0 := by omega
  obtain ⟨ee, hee⟩ : ∃ ee, te im.code M j = ee := ⟨_, rfl⟩
  have hst := te_err h0
  rw [hee] at h0 hst ⊢
  have e3 : (ee == 0) = false := by simpa using h0
  have e4 : decide (ee = 0) = false := by simpa using h0
  have HST := Lib.hid hst
  clear h hr hv hE hF hee hst
  go_enter Tryd.func55, Tryd.ntmps55
  go_wp2_with fail
  go_still_tail 7, (by kernel_rfl)
  change wpList _ _ _ _ _ w.drew
  go_wp2_with fail
  have hs := c_Step (HM.out.heap (w' := w.drew) rfl) cap im ((HX.out.env.pl _ _).next (by go_grown)) HE.out.ck (HE.out.fit j) (HE.out.bd j hJ)
  refine (OnM.of hs HST.out.symm).mono ?_
  rintro e w3 ⟨rfl, hm3, hf3⟩
  have HF3 : Hid (Fr (Pl.O ⟨b, tt, [.slice A n cap, .int .i64 im.mem, .int .i64 im.stacks], post, 3, gm, gs, fx⟩) w w3) := Lib.hid ((Fr.of (by go_grown)).trans hf3)
  have H3 := Lib.hid hm3
  clear hm3 hf3 hs e0 e1 e2 e28
  go_wp2_with fail
  go_ret
  exact ⟨rfl, ⟨H3.out, HR.out⟩, HF3.out⟩
end Go.Proofs.YteenmpjjaheggaaDoor

/- The walks of the VM's Fuel, Ticks, Halted, Machine, Add. -/
set_option maxRecDepth 100000
set_option maxHeartbeats 8000000
set_option maxRecDepth 100000
set_option linter.unusedVariables false
set_option linter.unusedSimpArgs false
namespace Go.Proofs.YteenmpjjaheggaaDoor
open Go.RowKit Bk
theorem c_VHaltedNil (w : World) : Calls Tryd.prog 56 #[.pointer none] w fun e w' => e = .returned (.bool false) ∧ Below w.heap.size w w' := by
  go_enter Tryd.func56, Tryd.ntmps56
  go_wp2_with fail
  go_ret
  exact ⟨rfl, by go_grown⟩
theorem c_VHalted {w : World} {P : Pl} {A : Option Addr} {n cap : Nat} {im : Img} {M : Mach} {J j f : Nat} (hX : VFx w P A n cap im) (hE : VEnv im M J) (hJ : j ≤ J) (hA : VAt w P im.code M j f) :
    Calls Tryd.prog 56 #[.pointer (some ⟨P.b, 0, none⟩)] w fun e w' => e = .returned (.bool (halt im.code (tr im.code M j))) ∧ Below w.heap.size w w' := by
  have HX := Lib.hid hX; have HE := Lib.hid hE; obtain ⟨⟨vm, vs, vc, vi, vo, sv, h⟩, hr⟩ := hA; obtain ⟨b, tt, pre, post, off, gm, gs, fx⟩ := P; obtain ⟨hpre, hoff, hv⟩ := hX; dsimp only at hpre hoff; subst hpre hoff; have HM := Lib.hid h; have HR := Lib.hid hr
  have hfit := hE.fit j
  have hbd := hE.bd j hJ
  have hnn := hv.hn
  have hn6 : n ≤ 65536 := by rw [hnn]; exact hv.hl
  have e0 : w.cell? ⟨b, 0, none⟩ = some (.slice A n cap) := h.cpre 0 (by simp [VPl])
  have e3 : w.cell? ⟨b, 3, none⟩ = some (.int .i64 (tr im.code M j).pc) := h.c0
  have e4 : w.cell? ⟨b, 4, none⟩ = some (.int .i64 (tr im.code M j).dir) := h.c1
  obtain ⟨Ac, cc, hvc, _⟩ := h.l.2.1
  have e23 : w.cell? ⟨b, 23, none⟩ = some (.slice Ac (tr im.code M j).calls.length cc) := by have := h.c20; rw [hvc] at this; exact this
  obtain ⟨r, hr'⟩ : ∃ r, halt im.code (tr im.code M j) = r := ⟨_, rfl⟩
  rw [hr']
  unfold halt at hr'
  obtain ⟨N, hN⟩ : ∃ N, tr im.code M j = N := ⟨_, rfl⟩
  rw [hN] at e3 e4 e23 hr' hfit hbd
  have p0 := hfit.p0; have p1 := hfit.p1
  obtain ⟨k, hk⟩ : ∃ k : Nat, N.pc = (k : Int) := ⟨N.pc.toNat, by omega⟩
  rw [hk] at e3 hr' p0 p1
  rw [← hnn] at hr' p1
  have hcl := hbd.cl
  have HCD := Lib.hid hfit.d
  obtain ⟨dd, hdd⟩ : ∃ dd, N.dir = dd := ⟨_, rfl⟩
  obtain ⟨cl, hcc⟩ : ∃ cl, N.calls.length = cl := ⟨_, rfl⟩
  rw [hdd] at e4 hr'; rw [hcc] at e23 hr' hcl
  have HHR := Lib.hid hr'; have HV := Lib.hid hv; have HN := Lib.hid hnn
  have HHN := Lib.hid hN
  clear h hr hE HE HM HR HX hfit hbd hr' hvc hv hN hdd hcc hk hnn HCD
  by_cases h1 : dd = 1
  · subst h1
    by_cases h2 : cl = 0
    · subst h2
      by_cases h3 : k = n
      · subst h3
        obtain rfl : r = true := by rw [← HHR.out]; simp
        clear HV
        go_enter Tryd.func56, Tryd.ntmps56
        go_wp2_with fail
        go_ret
        exact ⟨rfl, by go_grown⟩
      · have hlt : k < n := by omega
        have hkc : k < im.code.length := by rw [← HN.out]; exact hlt
        obtain ⟨bc, oc, rfl⟩ := HV.out.form hkc
        obtain ⟨x, hx⟩ : ∃ x, im.code.getD k default = x := ⟨_, rfl⟩
        have hxx := HV.out.at_ hkc hx
        have x0 := hxx.c0
        obtain ⟨op, hop⟩ : ∃ op, x.op = op := ⟨_, rfl⟩
        rw [hop] at x0
        have i1 : (0 : Int) ≤ (k : Int) := by omega
        have i2 : (k : Int) < (n : Int) := by omega
        have i3 : ((k : Int) == (n : Int)) = false := by simp; omega
        have hrr : r = decide (op = 34) := by rw [← HHR.out, Int.toNat_natCast, hx, hop, decide_eq_false (show ¬ ((k : Int) = (n : Int)) by omega)]; simp
        have HRR := Lib.hid hrr
        clear hrr hxx hx hop HV
        go_enter Tryd.func56, Tryd.ntmps56
        go_wp2_with fail
        go_ret
        exact ⟨ret_bool (by rw [HRR.out]; rfl), by go_grown⟩
    · obtain rfl : r = false := by rw [← HHR.out]; simp [h2]
      have h3 : (0 : Int) < (cl : Int) := by omega
      clear HV
      go_enter Tryd.func56, Tryd.ntmps56
      go_wp2_with fail
      go_ret
      exact ⟨rfl, by go_grown⟩
  · obtain rfl : r = false := by rw [← HHR.out]; simp [h1]
    have h3 : (dd != 1) = true := by simpa using h1
    clear HV
    go_enter Tryd.func56, Tryd.ntmps56
    go_wp2_with fail
    go_ret
    exact ⟨rfl, by go_grown⟩
theorem c_VMachine {w : World} {P : Pl} {A : Option Addr} {n cap : Nat} {im : Img} {M : Mach} {J j f : Nat} (hX : VFx w P A n cap im) (hE : VEnv im M J) (hJ : j ≤ J) (hA : VAt w P im.code M j f) :
    Calls Tryd.prog 29 #[.pointer (some ⟨P.b, 0, none⟩)] w fun e w' => ∃ vm vs vc vi vo sv, e = .returned (.agg (mcells (tr im.code M j) vm vs vc vi vo).toArray) ∧ MOwn w' w.heap.size (tr im.code M j) vm vs vc vi vo sv ∧ Below w.heap.size w w' := by
  have HX := Lib.hid hX; have HE := Lib.hid hE; obtain ⟨⟨vm, vs, vc, vi, vo, sv, h⟩, hr⟩ := hA; obtain ⟨b, tt, pre, post, off, gm, gs, fx⟩ := P; obtain ⟨hpre, hoff, hv⟩ := hX; dsimp only at hpre hoff; subst hpre hoff; have HM := Lib.hid h; have HR := Lib.hid hr
  have hlt : b < w.heap.size := h.lt
  clear h hr hv hE
  go_enter Tryd.func29, Tryd.ntmps29
  go_wp2_with fail
  refine calls_nameY ?_
  intro w1 hw1
  have hB_w1 : Below w.heap.size w w1 := by rw [hw1]; exact (by go_grown)
  have K1 : Blk w1 w.heap.size 27 #[.int .i64 0, .int .i64 0, .int .i64 0, .int .i64 0, .int .i64 0, .int .i64 0, .int .i64 0, .int .i64 0, .int .i64 0, .int .i64 0, .int .i64 0, .int .i64 0, .int .i64 0, .int .i64 0, .int .i64 0, .int .i64 0, .int .i64 0, .int .i64 0, .slice none 0 0, .slice none 0 0, .slice none 0 0, .int .i64 0, .int .i64 0, .slice none 0 0, .slice none 0 0] := by rw [hw1]; exact (by repeat' (first | assumption | exact Blk.new' (by simp) _ _ | apply Blk.alloc | apply Blk.drew))
  have z1 : w1.heap.size = w.heap.size + 1 := by rw [hw1]; simp
  have HK1 := Lib.hid K1
  clear hw1 K1
  refine (c_Clone (HM.out.next hB_w1).rd (HE.out.bd j hJ)).mono ?_
  rintro e w2 ⟨bx, gm', gs', rfl, r1, r2, r3, ⟨vm', vs', vc', vi', vo', sv', hcl⟩, hb2⟩
  have hB_w2 := hB_w1.next hb2
  have HK2 := Lib.hid (HK1.out.next hb2)
  have HO := Lib.hid (hcl.own r2 r3)
  have HRD := Lib.hid hcl.rd
  have hbx : bx < w2.heap.size := hcl.lt
  have hlen := mc_len (tr im.code M j) vm' vs' vc' vi' vo' hcl.rl
  have hone : ∀ v ∈ mcells (tr im.code M j) vm' vs' vc' vi' vo', v.oneCell' = true := by
    obtain ⟨_, _, rfl, _⟩ := hcl.rd.m; obtain ⟨_, _, rfl, _⟩ := hcl.rd.s; obtain ⟨_, _, rfl, _⟩ := hcl.l.2.1; obtain ⟨_, _, rfl, _⟩ := hcl.l.2.2.1; obtain ⟨_, _, rfl, _⟩ := hcl.l.2.2.2
    exact mc_one rfl rfl rfl rfl rfl
  have HONE := Lib.hid hone; have HLEN := Lib.hid hlen
  clear hcl hb2 hone hlen
  go_wp2_with (first | (refine wpList_loadG 27 rfl rfl rfl (load_mach HRD.out) ?_; simp only [Act.put, Bk.PU]) | (refine wpList_store_row rfl 27 (.tmp 2) (.tmp 11) rfl w.heap.size (mcells (tr im.code M j) vm' vs' vc' vi' vo').toArray rfl rfl 27 #[.int .i64 0, .int .i64 0, .int .i64 0, .int .i64 0, .int .i64 0, .int .i64 0, .int .i64 0, .int .i64 0, .int .i64 0, .int .i64 0, .int .i64 0, .int .i64 0, .int .i64 0, .int .i64 0, .int .i64 0, .int .i64 0, .int .i64 0, .int .i64 0, .slice none 0 0, .slice none 0 0, .slice none 0 0, .int .i64 0, .int .i64 0, .slice none 0 0, .slice none 0 0] HK2.out (by rw [info_mach25]; simp [HLEN.out]) (by simp [HLEN.out]) (all_oneCell_toArray HONE.out) ?_; simp only [Act.put, Bk.PU]))
  generalize hw9 : World.setRow _ _ _ = w9
  have hf9 : Fr (· = w.heap.size) w2 w9 := by rw [← hw9]; exact (Fr.setRow _ _ _).mono (fun k hk => hk)
  have hB9 : Below w.heap.size w w9 := ((Fr.of hB_w2).trans (hf9.mono (O' := (· = w.heap.size)) (fun k hk => hk))).below (Nat.le_refl _) (fun k hk => by omega)
  have HKF : Hid (Blk w9 w.heap.size 27 (mcells (tr im.code M j) vm' vs' vc' vi' vo').toArray) := by rw [← hw9]; exact Lib.hid (setRow_heap _ _ _ _ _ _ HK2.out)
  have HO9 : Hid (MOwn w9 w.heap.size (tr im.code M j) vm' vs' vc' vi' vo' sv') := Lib.hid ((HO.out.fr hf9 (fun k hk e => by omega)).mono (by omega))
  clear hw9 HK2 HK1 hf9
  (try simp only [Exit.inBlock, Exit.then])
  refine bodyPost_ret_by (results_cell_row rfl _ _ w.heap.size _ _ _ _ rfl HKF.out Tryd.underlying27 rfl (by rw [info_mach25]; simp [HLEN.out])) rfl ?_
  exact ⟨_, _, _, _, _, _, rfl, HO9.out, hB9⟩
theorem c_VMachineNil (w : World) :
    Calls Tryd.prog 29 #[.pointer none] w fun e w' => e = .returned (.agg #[.int .i64 0, .int .i64 0, .int .i64 0, .int .i64 0, .int .i64 0, .int .i64 0, .int .i64 0, .int .i64 0, .int .i64 0, .int .i64 0, .int .i64 0, .int .i64 0, .int .i64 0, .int .i64 0, .int .i64 0, .int .i64 0, .int .i64 0, .int .i64 0, .slice none 0 0, .slice none 0 0, .slice none 0 0, .int .i64 0, .int .i64 0, .slice none 0 0, .slice none 0 0]) ∧ Below w.heap.size w w' := by
  go_enter Tryd.func29, Tryd.ntmps29
  go_wp2_with (refine wpList_store_row rfl 27 (.tmp 2) (.tmp 5) rfl w.heap.size #[.int .i64 0, .int .i64 0, .int .i64 0, .int .i64 0, .int .i64 0, .int .i64 0, .int .i64 0, .int .i64 0, .int .i64 0, .int .i64 0, .int .i64 0, .int .i64 0, .int .i64 0, .int .i64 0, .int .i64 0, .int .i64 0, .int .i64 0, .int .i64 0, .slice none 0 0, .slice none 0 0, .slice none 0 0, .int .i64 0, .int .i64 0, .slice none 0 0, .slice none 0 0] rfl rfl 27 #[.int .i64 0, .int .i64 0, .int .i64 0, .int .i64 0, .int .i64 0, .int .i64 0, .int .i64 0, .int .i64 0, .int .i64 0, .int .i64 0, .int .i64 0, .int .i64 0, .int .i64 0, .int .i64 0, .int .i64 0, .int .i64 0, .int .i64 0, .int .i64 0, .slice none 0 0, .slice none 0 0, .slice none 0 0, .int .i64 0, .int .i64 0, .slice none 0 0, .slice none 0 0] (heap_alloc_new w _) (by rw [info_mach25]; rfl) rfl (by simp [Value.oneCell']) ?_; simp only [Act.put, Bk.PU])
  generalize hw9 : World.setRow _ _ _ = w9
  have hB9 : Below w.heap.size w w9 := by rw [← hw9]; exact ((Fr.of (by go_grown)).trans ((Fr.setRow _ _ _).mono (O' := (· = w.heap.size)) (fun k hk => hk))).below (Nat.le_refl _) (fun k hk => by omega)
  have HKF : Hid (Blk w9 w.heap.size 27 #[.int .i64 0, .int .i64 0, .int .i64 0, .int .i64 0, .int .i64 0, .int .i64 0, .int .i64 0, .int .i64 0, .int .i64 0, .int .i64 0, .int .i64 0, .int .i64 0, .int .i64 0, .int .i64 0, .int .i64 0, .int .i64 0, .int .i64 0, .int .i64 0, .slice none 0 0, .slice none 0 0, .slice none 0 0, .int .i64 0, .int .i64 0, .slice none 0 0, .slice none 0 0]) := by rw [← hw9]; exact Lib.hid (setRow_heap _ _ _ _ _ _ (heap_alloc_new w _))
  clear hw9
  (try simp only [Exit.inBlock, Exit.then])
  refine bodyPost_ret_by (results_cell_row rfl _ _ w.heap.size _ _ _ _ rfl HKF.out Tryd.underlying27 rfl (by rw [info_mach25]; rfl)) rfl ?_
  exact ⟨rfl, hB9⟩
end Go.Proofs.YteenmpjjaheggaaDoor

/- The walks of the VM's Run, RunBack. -/
set_option maxRecDepth 100000
set_option maxHeartbeats 8000000
set_option maxRecDepth 100000
set_option linter.unusedVariables false
set_option linter.unusedSimpArgs false
namespace Go.Proofs.YteenmpjjaheggaaDoor
open Go.RowKit Bk
theorem c_VRunNil (w : World) : Calls Tryd.prog 28 #[.pointer none] w fun e w' => e = .returned (.tuple #[.int .i64 0, .int .i64 1]) ∧ Below w.heap.size w w' := by
  go_enter Tryd.func28, Tryd.ntmps28
  go_wp2_with fail
  go_ret2
  exact ⟨rfl, by go_grown⟩
theorem c_repeatRun {w : World} {P : Pl} {A : Option Addr} {n cap : Nat} {im : Img} {M : Mach} {J j f : Nat} (hX : VFx w P A n cap im) (hE : VEnv im M J) (hJ : j + f ≤ J) (hf : f ≤ 1000000000) (hj : j ≤ 1000000000) (hA : VAt w P im.code M j f) :
    Calls Tryd.prog 54 #[.func (.func 55) #[.pointer (some ⟨P.b, 0, none⟩)] #[], .func (.func 56) #[.pointer (some ⟨P.b, 0, none⟩)] #[]] w fun e w' => e = .returned (.tuple #[.int .i64 (runV im.code M f j), .int .i64 (endE im.code M (f - runV im.code M f j) (j + runV im.code M f j))]) ∧ VAt w' P im.code M (j + runV im.code M f j) (f - runV im.code M f j) ∧ Fr P.O w w' := by
  have HX := Lib.hid hX; have HE := Lib.hid hE; have HA := Lib.hid hA
  have hle := runV_le im.code M f j
  have hlt := fun i => runV_lt (code := im.code) (M := M) f j i
  have hst := runV_stop (code := im.code) (M := M) f j
  generalize runV im.code M f j = N at *
  obtain ⟨ee, hee⟩ : ∃ ee, endE im.code M (f - N) (j + N) = ee := ⟨_, rfl⟩
  rw [hee]
  have HEE := Lib.hid hee; have HLT := Lib.hid hlt; have HST := Lib.hid hst
  clear hX hE hA hee hlt hst
  go_enter Tryd.func54, Tryd.ntmps54
  go_wp2_with fail
  go_loopw [6] (fun v6 wr => ∃ i : Nat, i ≤ N ∧ v6 = .int .i64 i ∧ VAt wr P im.code M (j + i) (f - i) ∧ Fr P.O w wr) (fun v _ => N - (intOf v).toNat)
  case atStart => exact ⟨0, Nat.zero_le _, rfl, HA.out, Fr.refl _ _⟩
  case round =>
    obtain ⟨i, hi, rfl, ha, hfr⟩ := hrel
    have HAi := Lib.hid ha; have HFi := Lib.hid hfr
    have HXi := Lib.hid (HX.out.fr hfr)
    clear ha hfr
    have hc := c_VHalted HXi.out HE.out (j := j + i) (by omega) HAi.out
    by_cases h1 : halt im.code (tr im.code M (j + i)) = true
    · obtain rfl : i = N := by
        rcases Nat.lt_or_ge i N with h | h
        · have := (HLT.out i h).1; rw [h1] at this; cases this
        · omega
      obtain rfl : 0 = ee := by rw [← HEE.out]; unfold endE; rw [if_pos h1]
      rw [h1] at hc
      have HC := Lib.hid hc
      clear hc h1
      go_wp2_with fail
      refine HC.out.mono ?_
      rintro e w2 ⟨rfl, hb2⟩
      go_wp2_with fail
      go_ret2
      exact ⟨rfl, HAi.out.next hb2, HFi.out.next hb2⟩
    · have h1' : halt im.code (tr im.code M (j + i)) = false := by simpa using h1
      rw [h1'] at hc
      have HC := Lib.hid hc
      clear hc h1
      go_wp2_with fail
      refine HC.out.mono ?_
      rintro e w2 ⟨rfl, hb2⟩
      have HA2 := Lib.hid (HAi.out.next hb2); have HX2 := Lib.hid (HXi.out.next hb2); have HF2 := Lib.hid (HFi.out.next hb2)
      clear hb2
      go_wp2_with fail
      by_cases h2 : i < N
      · have hs := c_VStepOk (j := j + i) (f := f - i - 1) HX2.out HE.out (by omega) (by omega) (by omega) (by rw [show f - i - 1 + 1 = f - i by have := (HLT.out i h2).2.2; omega]; exact HA2.out) (HLT.out i h2).2.1
        refine hs.mono ?_
        rintro e w3 ⟨rfl, ha3, hf3⟩
        have HF3 := Lib.hid (HF2.out.trans hf3)
        have HA3 := Lib.hid ha3
        clear hs ha3 hf3
        go_wp2_with fail
        refine ⟨⟨i + 1, by omega, by go_num, ?_, HF3.out⟩, by simp [intOf]; omega⟩
        have := HA3.out
        rw [show f - i - 1 = f - (i + 1) by omega, show j + i + 1 = j + (i + 1) by omega] at this
        exact this
      · obtain rfl : i = N := by omega
        by_cases h3 : f - i = 0
        · obtain rfl : 18 = ee := by rw [← HEE.out]; unfold endE; rw [h1', h3]; rfl
          have hA2 := HA2.out
          rw [h3] at hA2
          refine (c_VStep0 HX2.out hA2).mono ?_
          rintro e w3 ⟨rfl, hb3⟩
          clear hA2
          go_wp2_with fail
          go_ret2
          exact ⟨rfl, HA2.out.next hb3, HF2.out.next hb3⟩
        · have h4 : te im.code M (j + i) ≠ 0 := by
            rcases HST.out with h | h | h
            · rw [h1'] at h; cases h
            · omega
            · exact h
          have he : ee = te im.code M (j + i) := by rw [← HEE.out]; unfold endE; rw [h1', if_neg (by simp), if_neg h3]
          have hs := c_VStepErr (j := j + i) (f := f - i - 1) HX2.out HE.out (by omega) (by omega) (by omega) (by rw [show f - i - 1 + 1 = f - i by omega]; exact HA2.out) h4
          rw [← he] at hs h4
          have h5 : (ee != 0) = true := by simpa using h4
          clear he
          refine hs.mono ?_
          rintro e w3 ⟨rfl, ha3, hf3⟩
          have HF3 := Lib.hid (HF2.out.trans hf3)
          have HA3 := Lib.hid ha3
          clear hs ha3 hf3 h4
          go_wp2_with fail
          go_ret2
          refine ⟨rfl, ?_, HF3.out⟩
          have := HA3.out
          rw [show f - i - 1 + 1 = f - i by omega] at this
          exact this
theorem c_VRun {w : World} {P : Pl} {A : Option Addr} {n cap : Nat} {im : Img} {M : Mach} {J j f : Nat} (hX : VFx w P A n cap im) (hE : VEnv im M J) (hJ : j + f ≤ J) (hf : f ≤ 1000000000) (hj : j ≤ 1000000000) (hA : VAt w P im.code M j f) :
    Calls Tryd.prog 28 #[.pointer (some ⟨P.b, 0, none⟩)] w fun e w' => e = .returned (.tuple #[.int .i64 (runV im.code M f j), .int .i64 (endE im.code M (f - runV im.code M f j) (j + runV im.code M f j))]) ∧ VAt w' P im.code M (j + runV im.code M f j) (f - runV im.code M f j) ∧ Fr P.O w w' := by
  have hmf : ∀ (fn : Fn) (first cap : Array Value) (w : World), (Instr.makeFunc fn first cap).run Tryd.prog w = .ok (.func fn first cap) w := fun _ _ _ _ => rfl
  have HS := Lib.hid (c_repeatRun hX hE hJ hf hj hA)
  clear hX hE hA
  generalize runV im.code M f j = N at *
  generalize endE im.code M (f - N) (j + N) = ee at *
  go_enter Tryd.func28, Tryd.ntmps28
  go_wp2_with fail
  refine HS.out.mono ?_
  rintro e w2 ⟨rfl, ha2, hf2⟩
  have HA2 := Lib.hid ha2; have HF2 := Lib.hid hf2
  clear ha2 hf2
  go_wp2_with fail
  go_ret2
  exact ⟨rfl, HA2.out, HF2.out⟩
end Go.Proofs.YteenmpjjaheggaaDoor
