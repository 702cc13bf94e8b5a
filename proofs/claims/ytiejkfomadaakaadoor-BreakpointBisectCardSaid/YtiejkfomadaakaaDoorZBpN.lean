/- The reference's Bisect. -/
import Derived.Test.YtiejkfomadaakaaDoorBpZ
set_option linter.unusedVariables false
set_option linter.unusedSimpArgs false
set_option maxRecDepth 100000
namespace Bk
theorem bis_congr {p q : Nat → Bool} : ∀ f lo hi, lo < hi → (∀ t, lo ≤ t → t ≤ hi → p t = q t) → bis p f lo hi = bis q f lo hi
  | 0, _, _, _, _ => rfl
  | f + 1, lo, hi, h, hpq => by
    unfold bis
    by_cases h1 : hi - lo ≤ 1
    · rw [if_pos h1, if_pos h1]
    · rw [if_neg h1, if_neg h1, hpq (lo + (hi - lo) / 2) (by omega) (by omega)]
      by_cases h2 : q (lo + (hi - lo) / 2) = true
      · rw [if_pos h2, if_pos h2]
        exact bis_congr f lo _ (by omega) (fun t h3 h4 => hpq t h3 (by omega))
      · rw [if_neg h2, if_neg h2]
        exact bis_congr f _ hi (by omega) (fun t h3 h4 => hpq t (by omega) h4)
end Bk
namespace Go.Proofs.YtiejkfomadaakaaDoor
open Go.RowKit Bk
theorem c_refBisectRange {w : World} (g m cp : Nat) (lo hi : Int) (h : lo < 0 ∨ hi ≤ lo) :
    Calls Tryd.prog 28 #[.slice (some ⟨g, 0, none⟩) m cp, .int .i64 lo, .int .i64 hi] w fun e w' => e = .returned (.tuple #[.int .i64 0, .int .i64 2]) ∧ Below w.heap.size w w' := by
  by_cases h1 : lo < 0
  · go_enter Tryd.func28, Tryd.ntmps28
    go_wp2_with fail
    go_ret2
    exact ⟨rfl, by repeat' (first | (with_reducible assumption) | (with_reducible exact Below.refl _ _) | (with_reducible refine Below.alloc ?_ ?_ _) | (with_reducible refine Bk.drewN_ ?_ _) | (with_reducible refine Below.drew ?_) | (with_reducible refine Below.setCell ?_ ?_ _) | go_size)⟩
  · have h2 : hi ≤ lo := h.resolve_left h1
    have h1' : 0 ≤ lo := by omega
    go_enter Tryd.func28, Tryd.ntmps28
    go_wp2_with fail
    go_ret2
    exact ⟨rfl, by repeat' (first | (with_reducible assumption) | (with_reducible exact Below.refl _ _) | (with_reducible refine Below.alloc ?_ ?_ _) | (with_reducible refine Bk.drewN_ ?_ _) | (with_reducible refine Below.drew ?_) | (with_reducible refine Below.setCell ?_ ?_ _) | go_size)⟩
theorem c_refBisectState {w : World} {g cp m : Nat} {l : List Bool} (hm : m = l.length) (hR : ∀ k, k < l.length → w.cell? ⟨g, k, none⟩ = some (.bool (l.getD k false))) (hg : g < w.heap.size) (hm9 : m ≤ 1000) {lo hi : Nat} (hlh : lo < hi) (hhm : hi < m) (h : l.getD lo false = true ∨ l.getD hi false = false) :
    Calls Tryd.prog 28 #[.slice (some ⟨g, 0, none⟩) m cp, .int .i64 (lo : Int), .int .i64 (hi : Int)] w fun e w' => e = .returned (.tuple #[.int .i64 0, .int .i64 20]) ∧ Below w.heap.size w w' := by
  have e1 := hR lo (by omega)
  have e2 := hR hi (by omega)
  have l0 : ¬ (lo : Int) < 0 := by omega
  have l1 : ¬ (hi : Int) ≤ (lo : Int) := by omega
  have l2 : (0 : Int) ≤ (lo : Int) := by omega
  have l3 : (lo : Int) < (m : Int) := by omega
  have l4 : (0 : Int) ≤ (hi : Int) := by omega
  have l5 : (hi : Int) < (m : Int) := by omega
  generalize l.getD lo false = b1 at *
  generalize l.getD hi false = b2 at *
  clear hR hm
  cases b1 with
  | true =>
    go_enter Tryd.func28, Tryd.ntmps28
    go_wp2_with fail
    go_ret2
    exact ⟨rfl, by repeat' (first | (with_reducible assumption) | (with_reducible exact Below.refl _ _) | (with_reducible refine Below.alloc ?_ ?_ _) | (with_reducible refine Bk.drewN_ ?_ _) | (with_reducible refine Below.drew ?_) | (with_reducible refine Below.setCell ?_ ?_ _) | go_size)⟩
  | false =>
    obtain rfl : b2 = false := h.resolve_left (by decide)
    go_enter Tryd.func28, Tryd.ntmps28
    go_wp2_with fail
    go_ret2
    exact ⟨rfl, by repeat' (first | (with_reducible assumption) | (with_reducible exact Below.refl _ _) | (with_reducible refine Below.alloc ?_ ?_ _) | (with_reducible refine Bk.drewN_ ?_ _) | (with_reducible refine Below.drew ?_) | (with_reducible refine Below.setCell ?_ ?_ _) | go_size)⟩
theorem c_refBisectOk {w : World} {g cp m : Nat} {l : List Bool} (hm : m = l.length) (hR : ∀ k, k < l.length → w.cell? ⟨g, k, none⟩ = some (.bool (l.getD k false))) (hg : g < w.heap.size) (hm9 : m ≤ 1000) {lo hi : Nat} (hlh : lo < hi) (hhm : hi < m) (h1 : l.getD lo false = false) (h2 : l.getD hi false = true) :
    Calls Tryd.prog 28 #[.slice (some ⟨g, 0, none⟩) m cp, .int .i64 (lo : Int), .int .i64 (hi : Int)] w fun e w' => e = .returned (.tuple #[.int .i64 ((bis (fun t => l.getD t false) (hi - lo) lo hi : Nat) : Int), .int .i64 0]) ∧ Below w.heap.size w w' := by
  have e1 := hR lo (by omega)
  have e2 := hR hi (by omega)
  rw [h1] at e1
  rw [h2] at e2
  have l0 : ¬ (lo : Int) < 0 := by omega
  have l1 : ¬ (hi : Int) ≤ (lo : Int) := by omega
  have l2 : (0 : Int) ≤ (lo : Int) := by omega
  have l3 : (lo : Int) < (m : Int) := by omega
  have l4 : (0 : Int) ≤ (hi : Int) := by omega
  have l5 : (hi : Int) < (m : Int) := by omega
  obtain ⟨R, hRR⟩ : ∃ R, bis (fun t => l.getD t false) (hi - lo) lo hi = R := ⟨_, rfl⟩
  rw [hRR]
  have HR := Lib.hid hR; have HM := Lib.hid hm; have HRR := Lib.hid hRR
  clear hR hm hRR h1 h2
  go_enter Tryd.func28, Tryd.ntmps28
  go_wp2_with fail
  clear e1 e2
  go_loopw [1, 2] (fun v1 v2 wr => ∃ lo' hi' f : Nat, v1 = .int .i64 lo' ∧ v2 = .int .i64 hi' ∧ lo' < hi' ∧ hi' < m ∧ hi' - lo' ≤ f + 1 ∧ bis (fun t => l.getD t false) f lo' hi' = R ∧ w = wr) (fun v1 v2 _ => (intOf v2 - intOf v1).toNat)
  case atStart => exact ⟨lo, hi, hi - lo, rfl, rfl, hlh, hhm, by omega, HRR.out, rfl⟩
  case round =>
    obtain ⟨lo', hi', f, rfl, rfl, h1, h2, h4, h5, rfl⟩ := hrel
    by_cases h6 : hi' - lo' ≤ 1
    · have hRh : R = hi' := by
        rw [← h5]; cases f with
        | zero => rfl
        | succ f => unfold bis; rw [if_pos h6]
      have q1 : ¬ (1 : Int) < (hi' : Int) - (lo' : Int) := by omega
      have HRh := Lib.hid hRh
      clear h5 hRh
      go_wp2_with fail
      go_ret2
      exact ⟨by rw [HRh.out]; rfl, by repeat' (first | (with_reducible assumption) | (with_reducible exact Below.refl _ _) | (with_reducible refine Below.alloc ?_ ?_ _) | (with_reducible refine Bk.drewN_ ?_ _) | (with_reducible refine Below.drew ?_) | (with_reducible refine Below.setCell ?_ ?_ _) | go_size)⟩
    · obtain ⟨f', rfl⟩ : ∃ f', f = f' + 1 := ⟨f - 1, by omega⟩
      unfold bis at h5
      rw [if_neg h6] at h5
      obtain ⟨mid, hmid⟩ : ∃ mid, lo' + (hi' - lo') / 2 = mid := ⟨_, rfl⟩
      rw [hmid] at h5
      have q1 : (1 : Int) < (hi' : Int) - (lo' : Int) := by omega
      have q2 : ((lo' : Int) + (hi' : Int)).tdiv 2 = (mid : Int) := by rw [Int.tdiv_eq_ediv_of_nonneg (by omega)]; omega
      have m1 : lo' < mid := by omega
      have m2 : mid < hi' := by omega
      have m3 : mid - lo' ≤ f' + 1 := by omega
      have m4 : hi' - mid ≤ f' + 1 := by omega
      have i0 : (0 : Int) ≤ (mid : Int) := by omega
      have i1 : (mid : Int) < (m : Int) := by omega
      have ec := HR.out mid (by have := HM.out; omega)
      have hwm : IntKind.i64.wrap (mid : Int) = (mid : Int) := wrap_small _ (by omega) (by omega)
      generalize l.getD mid false = pm at *
      clear hmid
      cases pm with
      | true =>
        rw [if_pos rfl] at h5
        have H5 := Lib.hid h5
        clear h5
        go_wp2_with fail
        exact ⟨⟨lo', mid, f', rfl, rfl, m1, by omega, m3, H5.out, trivial⟩, by simp [intOf]; omega⟩
      | false =>
        rw [if_neg (by decide)] at h5
        have H5 := Lib.hid h5
        clear h5
        go_wp2_with fail
        exact ⟨⟨mid, hi', f', rfl, rfl, m2, by omega, m4, H5.out, trivial⟩, by simp [intOf]; omega⟩
end Go.Proofs.YtiejkfomadaakaaDoor
