/- The reference's Last. -/
import Derived.Test.YtiejkfomadaakaaDoorBpZ
set_option linter.unusedVariables false
set_option linter.unusedSimpArgs false
set_option maxRecDepth 100000
namespace Go.Proofs.YtiejkfomadaakaaDoor
open Go.RowKit Bk
theorem c_refLast {w : World} {g cp m : Nat} {l : List Bool} (hm : m = l.length) (hR : ∀ k, k < l.length → w.cell? ⟨g, k, none⟩ = some (.bool (l.getD k false))) (hg : g < w.heap.size) (hm9 : m ≤ 1000) (now : Nat) (hn : now ≤ 1000) (most : Int) (hmo : I64 most) (hmo2 : most ≤ 1000) :
    Calls Tryd.prog 31 #[.slice (some ⟨g, 0, none⟩) m cp, .int .i64 (now : Int), .int .i64 most] w fun e w' => e = .returned (.int .i64 (optZ (lastR l (most + 1).toNat now none))) ∧ Below w.heap.size w w' := by
  unfold I64 at hmo
  obtain ⟨R, hRR⟩ : ∃ R, lastR l (most + 1).toNat now none = R := ⟨_, rfl⟩
  rw [hRR]
  have HR := Lib.hid hR; have HM := Lib.hid hm; have HRR := Lib.hid hRR
  clear hR hRR hm
  go_enter Tryd.func31, Tryd.ntmps31
  go_wp2_with fail
  go_loopw [7, 8] (fun v7 v8 wr => ∃ (t s : Nat) (acc : Option Nat), now ≤ t ∧ t ≤ now + 1 + m ∧ v8 = .int .i64 t ∧ v7 = .int .i64 (optZ acc) ∧ (s : Int) = max (most - ((t : Int) - now) + 1) 0 ∧ lastR l s t acc = R ∧ w = wr) (fun _ v _ => now + 2 + m - (intOf v).toNat)
  case atStart => exact ⟨now, (most + 1).toNat, none, by omega, by omega, rfl, rfl, by omega, HRR.out, rfl⟩
  case round =>
    obtain ⟨t, s, acc, h1, h2, rfl, rfl, h3, h4, rfl⟩ := hrel
    have H4 := Lib.hid h4; have H3 := Lib.hid h3
    have hmm := HM.out
    clear h4 h3
    obtain ⟨za, hza⟩ : ∃ za, optZ acc = za := ⟨_, rfl⟩
    have HZA := Lib.hid hza
    rw [hza]
    clear hza
    by_cases h5 : t < m
    · have i1 : (t : Int) < (m : Int) := by omega
      by_cases h6 : (t : Int) - (now : Int) ≤ most
      · have hs : s ≠ 0 := by have := H3.out; omega
        obtain ⟨s', rfl⟩ : ∃ s', s = s' + 1 := ⟨s - 1, by omega⟩
        have ec := HR.out t (by omega)
        have H9 : Hid (lastR l s' (t + 1) (if l.getD t false = true then some t else acc) = R) := Lib.hid (by have := H4.out; unfold lastR at this; rwa [if_pos (by omega)] at this)
        have i0 : (0 : Int) ≤ (t : Int) := by omega
        generalize l.getD t false = b at *
        clear hs hmm
        cases b with
        | true =>
          go_wp2_with fail
          exact ⟨⟨t + 1, s', some t, by omega, by omega, by go_num, rfl, by have := H3.out; omega, by have := H9.out; rw [if_pos rfl] at this; exact this, trivial⟩, by first | (simp [intOf]; done) | (simp [intOf]; omega)⟩
        | false =>
          go_wp2_with fail
          exact ⟨⟨t + 1, s', acc, by omega, by omega, by go_num, by rw [HZA.out], by have := H3.out; omega, by have := H9.out; rw [if_neg (by decide)] at this; exact this, trivial⟩, by first | (simp [intOf]; done) | (simp [intOf]; omega)⟩
      · have hs : s = 0 := by have := H3.out; omega
        have HRt : Hid (R = acc) := Lib.hid (by have := H4.out; rw [hs] at this; exact this.symm)
        clear hs hmm
        go_wp2_with fail
        go_ret
        exact ⟨by rw [HRt.out, HZA.out]; rfl, by repeat' (first | (with_reducible assumption) | (with_reducible exact Below.refl _ _) | (with_reducible refine Below.alloc ?_ ?_ _) | (with_reducible refine Bk.drewN_ ?_ _) | (with_reducible refine Below.drew ?_) | (with_reducible refine Below.setCell ?_ ?_ _) | go_size)⟩
    · have i1 : ¬ (t : Int) < (m : Int) := by omega
      have HRt : Hid (R = acc) := Lib.hid (by
        have := H4.out
        cases s with
        | zero => exact this.symm
        | succ s => unfold lastR at this; rw [if_neg (by omega)] at this; exact this.symm)
      clear hmm
      go_wp2_with fail
      go_ret
      exact ⟨by rw [HRt.out, HZA.out]; rfl, by repeat' (first | (with_reducible assumption) | (with_reducible exact Below.refl _ _) | (with_reducible refine Below.alloc ?_ ?_ _) | (with_reducible refine Bk.drewN_ ?_ _) | (with_reducible refine Below.drew ?_) | (with_reducible refine Below.setCell ?_ ?_ _) | go_size)⟩
end Go.Proofs.YtiejkfomadaakaaDoor
