/- Constant predicates. -/
import Derived.Test.YtiejkfomadaakaaDoorBpY
set_option linter.unusedVariables false
set_option linter.unusedSimpArgs false
set_option maxRecDepth 100000
namespace Bk
theorem findF_never (code : Prg) (M : Mach) : ∀ s j, findF code M (fun _ => false) s j = none
  | 0, _ => rfl
  | s + 1, j => by unfold findF; rw [findF_never code M s (j + 1)]; simp
theorem findB_never (code : Prg) (M : Mach) : ∀ s j, findB code M (fun _ => false) s j = none
  | 0, _ => rfl
  | s + 1, 0 => rfl
  | s + 1, j + 1 => by unfold findB; rw [findB_never code M s j]; simp
theorem lastF_never (code : Prg) (M : Mach) : ∀ s j, lastF code M (fun _ => false) s j none = none
  | 0, _ => by unfold lastF; simp
  | s + 1, j => by unfold lastF; simp only [Bool.false_eq_true, if_false]; rw [lastF_never code M s (j + 1)]; simp
theorem findF_always (code : Prg) (M : Mach) (s : Nat) : findF code M (fun _ => true) 0 s = none := rfl
end Bk
namespace Go.Proofs.YtiejkfomadaakaaDoor
open Go.RowKit Bk
/-- A predicate without captures that hands back a constant. -/
theorem pred_never (w : World) : PredM Tryd.prog 33 #[] #[] (fun _ => False) (fun _ => false) w := by
  intro W M vm vs vc vi vo sv D h1 h2 h3 h4
  show Calls Tryd.prog 33 #[.agg (mcells M vm vs vc vi vo).toArray] W _
  go_enter Tryd.func33, Tryd.ntmps33
  go_wp2_with fail
  go_ret
  exact ⟨rfl, by repeat' (first | (with_reducible assumption) | (with_reducible exact Below.refl _ _) | (with_reducible refine Below.alloc ?_ ?_ _) | (with_reducible refine Bk.drewN_ ?_ _) | (with_reducible refine Below.drew ?_) | (with_reducible refine Below.setCell ?_ ?_ _) | go_size)⟩
theorem pred_always (w : World) : PredM Tryd.prog 29 #[] #[] (fun _ => False) (fun _ => true) w := by
  intro W M vm vs vc vi vo sv D h1 h2 h3 h4
  show Calls Tryd.prog 29 #[.agg (mcells M vm vs vc vi vo).toArray] W _
  go_enter Tryd.func29, Tryd.ntmps29
  go_wp2_with fail
  go_ret
  exact ⟨rfl, by repeat' (first | (with_reducible assumption) | (with_reducible exact Below.refl _ _) | (with_reducible refine Below.alloc ?_ ?_ _) | (with_reducible refine Bk.drewN_ ?_ _) | (with_reducible refine Below.drew ?_) | (with_reducible refine Below.setCell ?_ ?_ _) | go_size)⟩
end Go.Proofs.YtiejkfomadaakaaDoor
