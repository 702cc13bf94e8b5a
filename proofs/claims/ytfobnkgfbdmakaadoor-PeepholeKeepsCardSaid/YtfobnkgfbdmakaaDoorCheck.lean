/- The walk of image.Check and image.Valid. -/
import Derived.Test.YtfobnkgfbdmakaaDoorFault
import Derived.Test.YtfobnkgfbdmakaaDoorRegions
set_option linter.unusedVariables false
namespace Go.Proofs.YtfobnkgfbdmakaaDoor
open Go.RowKit Bk

theorem rowRd {w : World} {D : Nat → Prop} {g n : Nat} {t : TypeId} {f : Nat → Value} (h : w.rowIs g t n f) (hD : D g) : Rd w D 1 (some ⟨g, 0, none⟩) n ((List.range n).map f) := by
  refine ⟨by simp, fun hn => ⟨g, 0, rfl, hD, fun j u hu => ?_⟩⟩
  have hj : j < n := by
    rcases Nat.lt_or_ge j n with hlt | hge
    · exact hlt
    · rw [List.getElem?_eq_none (by simpa using hge)] at hu; cases hu
  rw [List.getElem?_map, List.getElem?_range hj] at hu
  rw [Nat.zero_add, h.cell hj]
  exact hu

set_option maxRecDepth 100000 in
set_option maxHeartbeats 2000000 in
theorem Check.sizes (A : Option Addr) (n cap : Nat) (mem st : Int) (w : World)
    (h : 65536 < n ∨ mem < 0 ∨ 16384 < mem ∨ st < 1 ∨ 16384 < st) :
    Calls Tryd.prog 22 #[.agg #[.slice A n cap, .int .i64 mem, .int .i64 st]] w fun e w' =>
      e = .returned (.tuple #[.int .i64 (-1), .int .i64 2]) ∧ Below w.heap.size w w' := by
  by_cases h1 : 65536 < n
  · go_enter Tryd.func22, Tryd.ntmps22
    go_wp2_with fail
    go_ret2
    exact ⟨rfl, by repeat' (first | (with_reducible assumption) | (with_reducible exact Below.refl _ _) | (with_reducible refine Below.alloc ?_ ?_ _) | (with_reducible refine Bk.drewN_ ?_ _) | (with_reducible refine Below.drew ?_) | (with_reducible refine Below.setCell ?_ ?_ _) | go_size)⟩
  by_cases h2 : mem < 0
  · have h1' : n ≤ 65536 := by omega
    clear h
    go_enter Tryd.func22, Tryd.ntmps22
    go_wp2_with fail
    go_ret2
    exact ⟨rfl, by repeat' (first | (with_reducible assumption) | (with_reducible exact Below.refl _ _) | (with_reducible refine Below.alloc ?_ ?_ _) | (with_reducible refine Bk.drewN_ ?_ _) | (with_reducible refine Below.drew ?_) | (with_reducible refine Below.setCell ?_ ?_ _) | go_size)⟩
  by_cases h3 : 16384 < mem
  · have h1' : n ≤ 65536 := by omega
    have h2' : 0 ≤ mem := by omega
    clear h
    go_enter Tryd.func22, Tryd.ntmps22
    go_wp2_with fail
    go_ret2
    exact ⟨rfl, by repeat' (first | (with_reducible assumption) | (with_reducible exact Below.refl _ _) | (with_reducible refine Below.alloc ?_ ?_ _) | (with_reducible refine Bk.drewN_ ?_ _) | (with_reducible refine Below.drew ?_) | (with_reducible refine Below.setCell ?_ ?_ _) | go_size)⟩
  by_cases h4 : st < 1
  · have h1' : n ≤ 65536 := by omega
    have h2' : 0 ≤ mem := by omega
    have h3' : mem ≤ 16384 := by omega
    clear h
    go_enter Tryd.func22, Tryd.ntmps22
    go_wp2_with fail
    go_ret2
    exact ⟨rfl, by repeat' (first | (with_reducible assumption) | (with_reducible exact Below.refl _ _) | (with_reducible refine Below.alloc ?_ ?_ _) | (with_reducible refine Bk.drewN_ ?_ _) | (with_reducible refine Below.drew ?_) | (with_reducible refine Below.setCell ?_ ?_ _) | go_size)⟩
  · have h1' : n ≤ 65536 := by omega
    have h2' : 0 ≤ mem := by omega
    have h3' : mem ≤ 16384 := by omega
    have h4' : 1 ≤ st := by omega
    have h5' : 16384 < st := by omega
    clear h
    go_enter Tryd.func22, Tryd.ntmps22
    go_wp2_with fail
    go_ret2
    exact ⟨rfl, by repeat' (first | (with_reducible assumption) | (with_reducible exact Below.refl _ _) | (with_reducible refine Below.alloc ?_ ?_ _) | (with_reducible refine Bk.drewN_ ?_ _) | (with_reducible refine Below.drew ?_) | (with_reducible refine Below.setCell ?_ ?_ _) | go_size)⟩

set_option maxRecDepth 100000 in
set_option maxHeartbeats 2000000 in
theorem Check.some_ (b off n cap : Nat) (mem st : Int) (code : Prg) (w : World) (hn0 : 0 < n) (h1 : n ≤ 65536) (h2 : 0 ≤ mem) (h3 : mem ≤ 16384) (h4 : 1 ≤ st) (h5 : st ≤ 16384)
    (hC : Rd w (· < w.heap.size) 5 (some ⟨b, off, none⟩) n (codeCells code)) (hw : CodeWf code) (hTab : TableAt w) :
    Calls Tryd.prog 22 #[.agg #[.slice (some ⟨b, off, none⟩) n cap, .int .i64 mem, .int .i64 st]] w fun e w' =>
      e = .returned (.tuple #[.int .i64 (checkFrom code n 0).1, .int .i64 (checkFrom code n 0).2]) ∧ Below w.heap.size w w' := by
  have hb : b < w.heap.size := hC.blk (by omega)
  have HC := Lib.hid hC; have HT := Lib.hid hTab
  clear hC hTab
  go_enter Tryd.func22, Tryd.ntmps22
  go_wp2_with fail
  refine (c_regions b off n cap code _ hn0 h1 (HC.out.next (by repeat' (first | (with_reducible assumption) | (with_reducible exact Below.refl _ _) | (with_reducible refine Below.alloc ?_ ?_ _) | (with_reducible refine Bk.drewN_ ?_ _) | (with_reducible refine Below.drew ?_) | (with_reducible refine Below.setCell ?_ ?_ _) | go_size))) hw (HT.out.next (by repeat' (first | (with_reducible assumption) | (with_reducible exact Below.refl _ _) | (with_reducible refine Below.alloc ?_ ?_ _) | (with_reducible refine Bk.drewN_ ?_ _) | (with_reducible refine Below.drew ?_) | (with_reducible refine Below.setCell ?_ ?_ _) | go_size)))).mono ?_
  rintro e w1 ⟨rfl, hR, hI, hb1⟩
  have hB1 : Below w.heap.size w w1 := Below.next (by repeat' (first | (with_reducible assumption) | (with_reducible exact Below.refl _ _) | (with_reducible refine Below.alloc ?_ ?_ _) | (with_reducible refine Bk.drewN_ ?_ _) | (with_reducible refine Below.drew ?_) | (with_reducible refine Below.setCell ?_ ?_ _) | go_size)) hb1
  obtain ⟨hc1, hf1⟩ := bcell hb1
  simp only [World.size_alloc] at hR hI
  have HR := Lib.hid hR; have HI := Lib.hid hI
  have c0 : w1.cell? ⟨w.heap.size, 0, none⟩ = some (.slice (some ⟨b, off, none⟩) n cap) := by go_simp
  have hzz := hI.lt
  clear hb1 hR hI hc1 hf1
  go_wp2_with fail
  go_loopw [41] (fun v41 wr => ∃ i : Nat, i ≤ n ∧ v41 = .int .i64 i ∧ (∀ k, k < i → fault code k = 0) ∧ Below w1.heap.size w1 wr) (fun i _ => n - (intOf i).toNat)
  case atStart => exact ⟨0, Nat.zero_le _, rfl, fun k hk => absurd hk (Nat.not_lt_zero _), Below.refl _ _⟩
  case round =>
    obtain ⟨i, hi, rfl, hz, hBr⟩ := hrel
    have hBr' : Below w.heap.size w wr := Below.next hB1 hBr
    obtain ⟨hcr, hfr⟩ := bcell hBr
    have HZ := Lib.hid hz; clear hz
    have hz0 : w.heap.size < w1.heap.size := by omega
    have cr0 : wr.cell? ⟨w.heap.size, 0, none⟩ = some (.slice (some ⟨b, off, none⟩) n cap) := (hcr _ _ hz0).trans c0
    by_cases hlt : i < n
    · have ci : w1.cell? ⟨w.heap.size + 1 + 2, i, none⟩ = some (.bool (insideAt code i)) := HI.out.cell hlt
      obtain ⟨ins, hin⟩ : ∃ v, insideAt code i = v := ⟨_, rfl⟩
      rw [hin] at ci
      have HIN := Lib.hid hin; clear hin
      have hR2 := rowRd (rowIs_below HR.out hBr (by have := HR.out.lt; exact this)) (D := (· < wr.heap.size)) (by have := HR.out.lt; have := hBr.size; omega)
      have HR2 := Lib.hid hR2; clear hR2
      go_wp2_with fail
      refine wp_region_still_tail 8 (by kernel_rfl) (by kernel_rfl) ?_
      simp only [List.take_succ_cons, List.take_zero, List.drop_succ_cons, List.drop_zero]
      change wpStill _ _ wr.drew _ _ _
      repeat still_step
      refine wpStill_nil ?_
      go_wp2_with fail
      refine (c_fault b off n cap i _ 0 n code ins wr.drew hlt (HC.out.next (by repeat' (first | (with_reducible assumption) | (with_reducible exact Below.refl _ _) | (with_reducible refine Below.alloc ?_ ?_ _) | (with_reducible refine Bk.drewN_ ?_ _) | (with_reducible refine Below.drew ?_) | (with_reducible refine Below.setCell ?_ ?_ _) | go_size))) hw (HT.out.next (by repeat' (first | (with_reducible assumption) | (with_reducible exact Below.refl _ _) | (with_reducible refine Below.alloc ?_ ?_ _) | (with_reducible refine Bk.drewN_ ?_ _) | (with_reducible refine Below.drew ?_) | (with_reducible refine Below.setCell ?_ ?_ _) | go_size))) HR2.out HIN.out).mono ?_
      rintro e w2 ⟨rfl, hb2⟩
      have hB2 : Below w1.heap.size w1 w2 := Below.next (by repeat' (first | (with_reducible assumption) | (with_reducible exact Below.refl _ _) | (with_reducible refine Below.alloc ?_ ?_ _) | (with_reducible refine Bk.drewN_ ?_ _) | (with_reducible refine Below.drew ?_) | (with_reducible refine Below.setCell ?_ ?_ _) | go_size)) hb2
      obtain ⟨fa, hfa⟩ : ∃ v, fault code i = v := ⟨_, rfl⟩
      rw [hfa]
      have HFA := Lib.hid hfa; clear hfa hb2
      by_cases hf0 : fa = 0
      · subst hf0
        go_wp2_with fail
        exact ⟨⟨i + 1, by omega, by go_num, fun k hk => (Nat.lt_succ_iff_lt_or_eq.1 hk).elim (HZ.out k) (fun e => e ▸ HFA.out), hB2⟩, by simp [intOf]; omega⟩
      · have hf0' : (fa != 0) = true := by simpa using hf0
        go_wp2_with fail
        go_ret2
        exact ⟨by rw [checkFrom_at code n i hlt HZ.out (by rw [HFA.out]; exact hf0), HFA.out]; rfl, Below.next hB1 hB2⟩
    · obtain rfl : i = n := by omega
      go_wp2_with fail
      go_ret2
      exact ⟨by rw [checkFrom_all code i HZ.out]; rfl, hBr'⟩

set_option maxRecDepth 100000 in
set_option maxHeartbeats 2000000 in
theorem Check.none_ (A : Option Addr) (cap : Nat) (mem st : Int) (code : Prg) (w : World) (h2 : 0 ≤ mem) (h3 : mem ≤ 16384) (h4 : 1 ≤ st) (h5 : st ≤ 16384) :
    Calls Tryd.prog 22 #[.agg #[.slice A 0 cap, .int .i64 mem, .int .i64 st]] w fun e w' =>
      e = .returned (.tuple #[.int .i64 (-1), .int .i64 0]) ∧ Below w.heap.size w w' := by
  go_enter Tryd.func22, Tryd.ntmps22
  go_wp2_with fail
  refine (c_regions0 A cap code _).mono ?_
  rintro e w1 ⟨rfl, hb1⟩
  have hB1 : Below w.heap.size w w1 := Below.next (by repeat' (first | (with_reducible assumption) | (with_reducible exact Below.refl _ _) | (with_reducible refine Below.alloc ?_ ?_ _) | (with_reducible refine Bk.drewN_ ?_ _) | (with_reducible refine Below.drew ?_) | (with_reducible refine Below.setCell ?_ ?_ _) | go_size)) hb1
  obtain ⟨hc1, hf1⟩ := bcell hb1
  have c0 : w1.cell? ⟨w.heap.size, 0, none⟩ = some (.slice A 0 cap) := by go_simp
  clear hb1 hc1 hf1
  go_wp2_with fail
  go_rounds 1
  go_ret2
  exact ⟨rfl, hB1⟩

/-- image.Check. -/
theorem c_Check (A : Option Addr) (n cap : Nat) (im : Img) (w : World) (hC : Rd w (· < w.heap.size) 5 A n (codeCells im.code)) (hw : CodeWf im.code) (hTab : TableAt w) :
    Calls Tryd.prog 22 #[.agg #[.slice A n cap, .int .i64 im.mem, .int .i64 im.stacks]] w fun e w' =>
      e = .returned (.tuple #[.int .i64 im.check.1, .int .i64 im.check.2]) ∧ Below w.heap.size w w' := by
  have hn : n = im.code.length := by have := hC.1; rw [codeCells_length] at this; omega
  by_cases hs : im.sized = true
  · have hs' := hs
    simp only [Img.sized, Bool.and_eq_true, decide_eq_true_eq] at hs'
    obtain ⟨⟨h1, h2, h3⟩, h4, h5⟩ := hs'
    have e : im.check = checkFrom im.code n 0 := by unfold Img.check; rw [if_pos hs, hn]
    rw [e]
    rcases Nat.eq_zero_or_pos n with h0 | h0
    · subst h0
      exact Check.none_ A cap im.mem im.stacks im.code w h2 h3 h4 h5
    · obtain ⟨b, off, rfl, _, _⟩ := hC.2 h0
      exact Check.some_ b off n cap im.mem im.stacks im.code w h0 (by omega) h2 h3 h4 h5 hC hw hTab
  · have e : im.check = (-1, 2) := by unfold Img.check; rw [if_neg hs]
    rw [e]
    refine Check.sizes A n cap im.mem im.stacks w ?_
    simp only [Img.sized, Bool.and_eq_true, decide_eq_true_eq] at hs
    omega

theorem c_Check' (A : Option Addr) (n cap : Nat) (im : Img) {i e : Int} (h : im.check = (i, e)) (w : World) (hC : Rd w (· < w.heap.size) 5 A n (codeCells im.code)) (hw : CodeWf im.code) (hTab : TableAt w) :
    Calls Tryd.prog 22 #[.agg #[.slice A n cap, .int .i64 im.mem, .int .i64 im.stacks]] w fun e' w' =>
      e' = .returned (.tuple #[.int .i64 i, .int .i64 e]) ∧ Below w.heap.size w w' := by
  have := c_Check A n cap im w hC hw hTab
  rw [h] at this; exact this

set_option maxRecDepth 100000 in
/-- image.Valid. -/
theorem c_imValid (A : Option Addr) (n cap : Nat) (im : Img) (w : World) (hC : Rd w (· < w.heap.size) 5 A n (codeCells im.code)) (hw : CodeWf im.code) (hTab : TableAt w) :
    Calls Tryd.prog 21 #[.agg #[.slice A n cap, .int .i64 im.mem, .int .i64 im.stacks]] w fun e w' =>
      e = .returned (.bool im.valid) ∧ Below w.heap.size w w' := by
  obtain ⟨⟨i, e⟩, hck⟩ : ∃ x, im.check = x := ⟨_, rfl⟩
  have hv : im.valid = decide (e = 0) := by simp [Img.valid, hck]
  rw [hv]
  have HCK := Lib.hid hck; have HC := Lib.hid hC; have HT := Lib.hid hTab; clear hck hC hTab hv
  go_enter Tryd.func21, Tryd.ntmps21
  go_wp2_with (go_at_call 22; ((with_reducible refine (c_Check' _ _ _ im HCK.out _ (HC.out.next (by repeat' (first | (with_reducible assumption) | (with_reducible exact Below.refl _ _) | (with_reducible refine Below.alloc ?_ ?_ _) | (with_reducible refine Bk.drewN_ ?_ _) | (with_reducible refine Below.drew ?_) | (with_reducible refine Below.setCell ?_ ?_ _) | go_size))) hw (HT.out.next (by repeat' (first | (with_reducible assumption) | (with_reducible exact Below.refl _ _) | (with_reducible refine Below.alloc ?_ ?_ _) | (with_reducible refine Bk.drewN_ ?_ _) | (with_reducible refine Below.drew ?_) | (with_reducible refine Below.setCell ?_ ?_ _) | go_size)))).mono ?_); rintro e w1 ⟨rfl, hb1⟩; (try (have hs0 : w.heap.size < w1.heap.size := (by have := hb1.size; (try simp at this); omega))); (try (have hs1 : w.heap.size + 1 < w1.heap.size := (by have := hb1.size; (try simp at this); omega))); have hB1 : Below w.heap.size w w1 := Below.next (by repeat' (first | (with_reducible assumption) | (with_reducible exact Below.refl _ _) | (with_reducible refine Below.alloc ?_ ?_ _) | (with_reducible refine Bk.drewN_ ?_ _) | (with_reducible refine Below.drew ?_) | (with_reducible refine Below.setCell ?_ ?_ _) | go_size)) hb1; obtain ⟨hc1, hf1⟩ := bcell hb1; obtain ⟨hcA1, hfA1⟩ := bcell hB1; have HB1 := Lib.hid hb1; clear hb1))
  go_ret
  exact ⟨ret_bool (by by_cases h : e = 0 <;> simp [h]), by repeat' (first | (with_reducible assumption) | (with_reducible exact Below.refl _ _) | (with_reducible refine Below.alloc ?_ ?_ _) | (with_reducible refine Bk.drewN_ ?_ _) | (with_reducible refine Below.drew ?_) | (with_reducible refine Below.setCell ?_ ?_ _) | go_size)⟩

theorem c_imValid' (A : Option Addr) (n cap : Nat) (im : Img) {v : Bool} (h : im.valid = v) (w : World) (hC : Rd w (· < w.heap.size) 5 A n (codeCells im.code)) (hw : CodeWf im.code) (hTab : TableAt w) :
    Calls Tryd.prog 21 #[.agg #[.slice A n cap, .int .i64 im.mem, .int .i64 im.stacks]] w fun e w' =>
      e = .returned (.bool v) ∧ Below w.heap.size w w' := by
  have := c_imValid A n cap im w hC hw hTab
  rw [h] at this; exact this
end Go.Proofs.YtfobnkgfbdmakaaDoor
