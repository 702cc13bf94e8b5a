/- The walk of image.fault. -/
import Derived.Test.YtfobnkgfbdmakaaDoorPartner
set_option linter.unusedVariables false
namespace Go.Proofs.YtfobnkgfbdmakaaDoor
open Go.RowKit Bk


set_option maxRecDepth 100000 in
set_option maxHeartbeats 8000000 in
theorem c_fault (b off n cap k br offr capr : Nat) (code : Prg) (inside : Bool) (w : World) (hk : k < n)
    (hC : Rd w (· < w.heap.size) 5 (some ⟨b, off, none⟩) n (codeCells code)) (hw : CodeWf code) (hTab : TableAt w)
    (hR : Rd w (· < w.heap.size) 1 (some ⟨br, offr, none⟩) n ((List.range n).map fun i => .int .i64 (regionAt code i)))
    (hin : insideAt code k = inside) :
    Calls Tryd.prog 38 #[.slice (some ⟨b, off, none⟩) n cap, .int .i64 k, .slice (some ⟨br, offr, none⟩) n capr, .bool inside] w fun e w' =>
      e = .returned (.int .i64 (fault code k)) ∧ Below w.heap.size w w' := by
  have hn : n = code.length := by have := hC.1; rw [codeCells_length] at this; omega
  have hb : b < w.heap.size := hC.blk (by omega)
  have hbr : br < w.heap.size := hR.blk (by omega)
  obtain ⟨x0, x1, x2, x3, x4⟩ := hC.insAt (hn ▸ hk)
  have yy : ∀ m, m < n → w.cell? ⟨b, off + m * 5, none⟩ = some (.int .u8 (code.getD m default).op) := fun m hm => (hC.insAt (hn ▸ hm)).c0
  have rr : ∀ m, m < n → w.cell? ⟨br, offr + m, none⟩ = some (.int .i64 (regionAt code m)) := fun m hm => hR.at1 (by simp [hm])
  have rk := rr k hk
  have hx0 : 0 ≤ (code.getD k default).op := hw.op0 k
  have hf : fault code k = fault code k := rfl
  conv at hf => rhs; unfold fault
  generalize hx : code.getD k default = x at *
  obtain ⟨t, ok, ht⟩ : ∃ t ok, targetP x.op x.a x.b = (t, ok) := ⟨_, _, rfl⟩
  obtain ⟨vx, hvx⟩ : ∃ v, validB x.op x.a x.b x.c x.d = v := ⟨_, rfl⟩
  have e1 : x.target = (t, ok) := ht
  have e3 : x.valid = vx := hvx
  simp only [e1, e3, hin] at hf
  have HX := Lib.hid hx; have HTg := Lib.hid e1
  clear e1 e3 hin hx
  have H1 := Lib.hid ht; have H3 := Lib.hid hvx; clear ht hvx
  have HT := Lib.hid hTab; have HC := Lib.hid hC; have HF := Lib.hid hf; have HY := Lib.hid yy; have HR := Lib.hid rr; clear hTab hC hf hR yy rr
  have HN := Lib.hid hn; clear hn
  have hk' : ¬ n ≤ k := by omega
  cases vx with
  | false =>
    go_enter Tryd.func38, Tryd.ntmps38
    go_wp2_with (go_at_call 12; ((with_reducible refine (c_Valid' _ _ _ _ _ H3.out hx0 _ (HT.out.next (by repeat' (first | (with_reducible assumption) | (with_reducible exact Below.refl _ _) | (with_reducible refine Below.alloc ?_ ?_ _) | (with_reducible refine Bk.drewN_ ?_ _) | (with_reducible refine Below.drew ?_) | (with_reducible refine Below.setCell ?_ ?_ _) | go_size)))).mono ?_); rintro e w1 ⟨rfl, hb1⟩; (try (have hs0 : w.heap.size < w1.heap.size := (by have := hb1.size; (try simp at this); omega))); (try (have hs1 : w.heap.size + 1 < w1.heap.size := (by have := hb1.size; (try simp at this); omega))); have hB1 : Below w.heap.size w w1 := Below.next (by repeat' (first | (with_reducible assumption) | (with_reducible exact Below.refl _ _) | (with_reducible refine Below.alloc ?_ ?_ _) | (with_reducible refine Bk.drewN_ ?_ _) | (with_reducible refine Below.drew ?_) | (with_reducible refine Below.setCell ?_ ?_ _) | go_size)) hb1; have hz0 : b < w1.heap.size := (by have := hB1.size; omega); obtain ⟨hc1, hf1⟩ := bcell hb1; obtain ⟨hcA1, hfA1⟩ := bcell hB1; have HB1 := Lib.hid hb1; clear hb1))
    go_ret
    exact ⟨by rw [HF.out]; rfl, by repeat' (first | (with_reducible assumption) | (with_reducible exact Below.refl _ _) | (with_reducible refine Below.alloc ?_ ?_ _) | (with_reducible refine Bk.drewN_ ?_ _) | (with_reducible refine Below.drew ?_) | (with_reducible refine Below.setCell ?_ ?_ _) | go_size)⟩
  | true =>
  cases ok with
  | false =>
    go_enter Tryd.func38, Tryd.ntmps38
    go_wp2_with (first | (go_at_call 12; ((with_reducible refine (c_Valid' _ _ _ _ _ H3.out hx0 _ (HT.out.next (by repeat' (first | (with_reducible assumption) | (with_reducible exact Below.refl _ _) | (with_reducible refine Below.alloc ?_ ?_ _) | (with_reducible refine Bk.drewN_ ?_ _) | (with_reducible refine Below.drew ?_) | (with_reducible refine Below.setCell ?_ ?_ _) | go_size)))).mono ?_); rintro e w1 ⟨rfl, hb1⟩; (try (have hs0 : w.heap.size < w1.heap.size := (by have := hb1.size; (try simp at this); omega))); (try (have hs1 : w.heap.size + 1 < w1.heap.size := (by have := hb1.size; (try simp at this); omega))); have hB1 : Below w.heap.size w w1 := Below.next (by repeat' (first | (with_reducible assumption) | (with_reducible exact Below.refl _ _) | (with_reducible refine Below.alloc ?_ ?_ _) | (with_reducible refine Bk.drewN_ ?_ _) | (with_reducible refine Below.drew ?_) | (with_reducible refine Below.setCell ?_ ?_ _) | go_size)) hb1; have hz0 : b < w1.heap.size := (by have := hB1.size; omega); obtain ⟨hc1, hf1⟩ := bcell hb1; obtain ⟨hcA1, hfA1⟩ := bcell hB1; have HB1 := Lib.hid hb1; clear hb1)) | (go_at_call 15; ((with_reducible refine (c_Target' _ _ _ _ _ H1.out _).mono ?_); rintro e w1 ⟨rfl, hb1⟩; (try (have hs0 : w.heap.size < w1.heap.size := (by have := hb1.size; (try simp at this); omega))); (try (have hs1 : w.heap.size + 1 < w1.heap.size := (by have := hb1.size; (try simp at this); omega))); have hB1 : Below w.heap.size w w1 := Below.next (by repeat' (first | (with_reducible assumption) | (with_reducible exact Below.refl _ _) | (with_reducible refine Below.alloc ?_ ?_ _) | (with_reducible refine Bk.drewN_ ?_ _) | (with_reducible refine Below.drew ?_) | (with_reducible refine Below.setCell ?_ ?_ _) | go_size)) hb1; have hz0 : b < w1.heap.size := (by have := hB1.size; omega); obtain ⟨hc1, hf1⟩ := bcell hb1; obtain ⟨hcA1, hfA1⟩ := bcell hB1; have HB1 := Lib.hid hb1; clear hb1)))
    go_ret
    exact ⟨by rw [HF.out]; rfl, by repeat' (first | (with_reducible assumption) | (with_reducible exact Below.refl _ _) | (with_reducible refine Below.alloc ?_ ?_ _) | (with_reducible refine Bk.drewN_ ?_ _) | (with_reducible refine Below.drew ?_) | (with_reducible refine Below.setCell ?_ ?_ _) | go_size)⟩
  | true =>
  by_cases hcall : x.op = 30 ∨ x.op = 31
  · obtain ⟨p, pok, hp⟩ : ∃ p pok, partner code t = (p, pok) := ⟨_, _, rfl⟩
    have hf := HF.out
    rw [if_neg (by simp), if_neg (by simp), if_pos hcall, hp] at hf
    have HF := Lib.hid hf; clear hf
    have HP := Lib.hid hp
    have hb30 : (x.op == 30) = true ∨ ((x.op == 30) = false ∧ (x.op == 31) = true) := by
      rcases hcall with h | h
      · exact .inl (by simp [h])
      · exact .inr ⟨by simp [h], by simp [h]⟩
    cases pok with
    | false =>
      clear hp hcall
      rcases hb30 with h30 | ⟨h30, h31⟩
      all_goals
        go_enter Tryd.func38, Tryd.ntmps38
        go_wp2_with (first | (go_at_call 12; ((with_reducible refine (c_Valid' _ _ _ _ _ H3.out hx0 _ (HT.out.next (by repeat' (first | (with_reducible assumption) | (with_reducible exact Below.refl _ _) | (with_reducible refine Below.alloc ?_ ?_ _) | (with_reducible refine Bk.drewN_ ?_ _) | (with_reducible refine Below.drew ?_) | (with_reducible refine Below.setCell ?_ ?_ _) | go_size)))).mono ?_); rintro e w1 ⟨rfl, hb1⟩; (try (have hs0 : w.heap.size < w1.heap.size := (by have := hb1.size; (try simp at this); omega))); (try (have hs1 : w.heap.size + 1 < w1.heap.size := (by have := hb1.size; (try simp at this); omega))); have hB1 : Below w.heap.size w w1 := Below.next (by repeat' (first | (with_reducible assumption) | (with_reducible exact Below.refl _ _) | (with_reducible refine Below.alloc ?_ ?_ _) | (with_reducible refine Bk.drewN_ ?_ _) | (with_reducible refine Below.drew ?_) | (with_reducible refine Below.setCell ?_ ?_ _) | go_size)) hb1; have hz0 : b < w1.heap.size := (by have := hB1.size; omega); obtain ⟨hc1, hf1⟩ := bcell hb1; obtain ⟨hcA1, hfA1⟩ := bcell hB1; have HB1 := Lib.hid hb1; clear hb1)) | (go_at_call 15; ((with_reducible refine (c_Target' _ _ _ _ _ H1.out _).mono ?_); rintro e w1 ⟨rfl, hb1⟩; (try (have hs0 : w.heap.size < w1.heap.size := (by have := hb1.size; (try simp at this); omega))); (try (have hs1 : w.heap.size + 1 < w1.heap.size := (by have := hb1.size; (try simp at this); omega))); have hB1 : Below w.heap.size w w1 := Below.next (by repeat' (first | (with_reducible assumption) | (with_reducible exact Below.refl _ _) | (with_reducible refine Below.alloc ?_ ?_ _) | (with_reducible refine Bk.drewN_ ?_ _) | (with_reducible refine Below.drew ?_) | (with_reducible refine Below.setCell ?_ ?_ _) | go_size)) hb1; have hz0 : b < w1.heap.size := (by have := hB1.size; omega); obtain ⟨hc1, hf1⟩ := bcell hb1; obtain ⟨hcA1, hfA1⟩ := bcell hB1; have HB1 := Lib.hid hb1; clear hb1)) | (go_at_call 41; ((with_reducible refine (c_Partner' _ _ _ _ _ _ _ HP.out _ (HC.out.next (by repeat' (first | (with_reducible assumption) | (with_reducible exact Below.refl _ _) | (with_reducible refine Below.alloc ?_ ?_ _) | (with_reducible refine Bk.drewN_ ?_ _) | (with_reducible refine Below.drew ?_) | (with_reducible refine Below.setCell ?_ ?_ _) | go_size))) hw (HT.out.next (by repeat' (first | (with_reducible assumption) | (with_reducible exact Below.refl _ _) | (with_reducible refine Below.alloc ?_ ?_ _) | (with_reducible refine Bk.drewN_ ?_ _) | (with_reducible refine Below.drew ?_) | (with_reducible refine Below.setCell ?_ ?_ _) | go_size)))).mono ?_); rintro e w1 ⟨rfl, hb1⟩; (try (have hs0 : w.heap.size < w1.heap.size := (by have := hb1.size; (try simp at this); omega))); (try (have hs1 : w.heap.size + 1 < w1.heap.size := (by have := hb1.size; (try simp at this); omega))); have hB1 : Below w.heap.size w w1 := Below.next (by repeat' (first | (with_reducible assumption) | (with_reducible exact Below.refl _ _) | (with_reducible refine Below.alloc ?_ ?_ _) | (with_reducible refine Bk.drewN_ ?_ _) | (with_reducible refine Below.drew ?_) | (with_reducible refine Below.setCell ?_ ?_ _) | go_size)) hb1; have hz0 : b < w1.heap.size := (by have := hB1.size; omega); obtain ⟨hc1, hf1⟩ := bcell hb1; obtain ⟨hcA1, hfA1⟩ := bcell hB1; have HB1 := Lib.hid hb1; clear hb1)))
        go_ret
        exact ⟨by rw [HF.out]; rfl, by repeat' (first | (with_reducible assumption) | (with_reducible exact Below.refl _ _) | (with_reducible refine Below.alloc ?_ ?_ _) | (with_reducible refine Bk.drewN_ ?_ _) | (with_reducible refine Below.drew ?_) | (with_reducible refine Below.setCell ?_ ?_ _) | go_size)⟩
    | true =>
      have htr : 0 ≤ t ∧ t < n := by
        have h1 : (partner code t).2 = true := by rw [hp]
        unfold partner at h1
        have hn := HN.out
        split at h1
        · cases h1
        · omega
      obtain ⟨m, rfl⟩ := Int.eq_ofNat_of_zero_le htr.1
      have y0 := HY.out m (by omega)
      have m0 : decide ((m : Int) < 0) = false := by simp
      have m2 : ¬ n ≤ m := by omega
      simp only [Int.toNat_natCast] at HF
      obtain ⟨v32, h32⟩ : ∃ v, ((code.getD m default).op != 32) = v := ⟨_, rfl⟩
      have hfin : fault code k = if v32 = true then 23 else 0 := by
        rw [HF.out, ← h32]; simp [bne_iff_ne]
      have HF := Lib.hid hfin
      obtain ⟨yop, hy⟩ : ∃ yop, (code.getD m default).op = yop := ⟨_, rfl⟩
      rw [hy] at y0 h32
      clear hp hcall hfin hy htr
      rcases hb30 with h30 | ⟨h30, h31⟩
      all_goals
        cases v32
        all_goals
          go_enter Tryd.func38, Tryd.ntmps38
          go_wp2_with (first | (go_at_call 12; ((with_reducible refine (c_Valid' _ _ _ _ _ H3.out hx0 _ (HT.out.next (by repeat' (first | (with_reducible assumption) | (with_reducible exact Below.refl _ _) | (with_reducible refine Below.alloc ?_ ?_ _) | (with_reducible refine Bk.drewN_ ?_ _) | (with_reducible refine Below.drew ?_) | (with_reducible refine Below.setCell ?_ ?_ _) | go_size)))).mono ?_); rintro e w1 ⟨rfl, hb1⟩; (try (have hs0 : w.heap.size < w1.heap.size := (by have := hb1.size; (try simp at this); omega))); (try (have hs1 : w.heap.size + 1 < w1.heap.size := (by have := hb1.size; (try simp at this); omega))); have hB1 : Below w.heap.size w w1 := Below.next (by repeat' (first | (with_reducible assumption) | (with_reducible exact Below.refl _ _) | (with_reducible refine Below.alloc ?_ ?_ _) | (with_reducible refine Bk.drewN_ ?_ _) | (with_reducible refine Below.drew ?_) | (with_reducible refine Below.setCell ?_ ?_ _) | go_size)) hb1; have hz0 : b < w1.heap.size := (by have := hB1.size; omega); obtain ⟨hc1, hf1⟩ := bcell hb1; obtain ⟨hcA1, hfA1⟩ := bcell hB1; have HB1 := Lib.hid hb1; clear hb1)) | (go_at_call 15; ((with_reducible refine (c_Target' _ _ _ _ _ H1.out _).mono ?_); rintro e w1 ⟨rfl, hb1⟩; (try (have hs0 : w.heap.size < w1.heap.size := (by have := hb1.size; (try simp at this); omega))); (try (have hs1 : w.heap.size + 1 < w1.heap.size := (by have := hb1.size; (try simp at this); omega))); have hB1 : Below w.heap.size w w1 := Below.next (by repeat' (first | (with_reducible assumption) | (with_reducible exact Below.refl _ _) | (with_reducible refine Below.alloc ?_ ?_ _) | (with_reducible refine Bk.drewN_ ?_ _) | (with_reducible refine Below.drew ?_) | (with_reducible refine Below.setCell ?_ ?_ _) | go_size)) hb1; have hz0 : b < w1.heap.size := (by have := hB1.size; omega); obtain ⟨hc1, hf1⟩ := bcell hb1; obtain ⟨hcA1, hfA1⟩ := bcell hB1; have HB1 := Lib.hid hb1; clear hb1)) | (go_at_call 41; ((with_reducible refine (c_Partner' _ _ _ _ _ _ _ HP.out _ (HC.out.next (by repeat' (first | (with_reducible assumption) | (with_reducible exact Below.refl _ _) | (with_reducible refine Below.alloc ?_ ?_ _) | (with_reducible refine Bk.drewN_ ?_ _) | (with_reducible refine Below.drew ?_) | (with_reducible refine Below.setCell ?_ ?_ _) | go_size))) hw (HT.out.next (by repeat' (first | (with_reducible assumption) | (with_reducible exact Below.refl _ _) | (with_reducible refine Below.alloc ?_ ?_ _) | (with_reducible refine Bk.drewN_ ?_ _) | (with_reducible refine Below.drew ?_) | (with_reducible refine Below.setCell ?_ ?_ _) | go_size)))).mono ?_); rintro e w1 ⟨rfl, hb1⟩; (try (have hs0 : w.heap.size < w1.heap.size := (by have := hb1.size; (try simp at this); omega))); (try (have hs1 : w.heap.size + 1 < w1.heap.size := (by have := hb1.size; (try simp at this); omega))); have hB1 : Below w.heap.size w w1 := Below.next (by repeat' (first | (with_reducible assumption) | (with_reducible exact Below.refl _ _) | (with_reducible refine Below.alloc ?_ ?_ _) | (with_reducible refine Bk.drewN_ ?_ _) | (with_reducible refine Below.drew ?_) | (with_reducible refine Below.setCell ?_ ?_ _) | go_size)) hb1; have hz0 : b < w1.heap.size := (by have := hB1.size; omega); obtain ⟨hc1, hf1⟩ := bcell hb1; obtain ⟨hcA1, hfA1⟩ := bcell hB1; have HB1 := Lib.hid hb1; clear hb1)))
          go_ret
          exact ⟨by rw [HF.out]; rfl, by repeat' (first | (with_reducible assumption) | (with_reducible exact Below.refl _ _) | (with_reducible refine Below.alloc ?_ ?_ _) | (with_reducible refine Bk.drewN_ ?_ _) | (with_reducible refine Below.drew ?_) | (with_reducible refine Below.setCell ?_ ?_ _) | go_size)⟩
  · have b30 : (x.op == 30) = false := by simp; omega
    have b31 : (x.op == 31) = false := by simp; omega
    obtain ⟨p, pok, hp⟩ : ∃ p pok, partner code k = (p, pok) := ⟨_, _, rfl⟩
    have hf := HF.out
    rw [if_neg (by simp), if_neg (by simp), if_neg hcall, hp] at hf
    have HF := Lib.hid hf; clear hf
    have HP := Lib.hid hp
    cases pok with
    | false =>
      clear hp hcall
      go_enter Tryd.func38, Tryd.ntmps38
      go_wp2_with (first | (go_at_call 12; ((with_reducible refine (c_Valid' _ _ _ _ _ H3.out hx0 _ (HT.out.next (by repeat' (first | (with_reducible assumption) | (with_reducible exact Below.refl _ _) | (with_reducible refine Below.alloc ?_ ?_ _) | (with_reducible refine Bk.drewN_ ?_ _) | (with_reducible refine Below.drew ?_) | (with_reducible refine Below.setCell ?_ ?_ _) | go_size)))).mono ?_); rintro e w1 ⟨rfl, hb1⟩; (try (have hs0 : w.heap.size < w1.heap.size := (by have := hb1.size; (try simp at this); omega))); (try (have hs1 : w.heap.size + 1 < w1.heap.size := (by have := hb1.size; (try simp at this); omega))); have hB1 : Below w.heap.size w w1 := Below.next (by repeat' (first | (with_reducible assumption) | (with_reducible exact Below.refl _ _) | (with_reducible refine Below.alloc ?_ ?_ _) | (with_reducible refine Bk.drewN_ ?_ _) | (with_reducible refine Below.drew ?_) | (with_reducible refine Below.setCell ?_ ?_ _) | go_size)) hb1; have hz0 : b < w1.heap.size := (by have := hB1.size; omega); obtain ⟨hc1, hf1⟩ := bcell hb1; obtain ⟨hcA1, hfA1⟩ := bcell hB1; have HB1 := Lib.hid hb1; clear hb1)) | (go_at_call 15; ((with_reducible refine (c_Target' _ _ _ _ _ H1.out _).mono ?_); rintro e w1 ⟨rfl, hb1⟩; (try (have hs0 : w.heap.size < w1.heap.size := (by have := hb1.size; (try simp at this); omega))); (try (have hs1 : w.heap.size + 1 < w1.heap.size := (by have := hb1.size; (try simp at this); omega))); have hB1 : Below w.heap.size w w1 := Below.next (by repeat' (first | (with_reducible assumption) | (with_reducible exact Below.refl _ _) | (with_reducible refine Below.alloc ?_ ?_ _) | (with_reducible refine Bk.drewN_ ?_ _) | (with_reducible refine Below.drew ?_) | (with_reducible refine Below.setCell ?_ ?_ _) | go_size)) hb1; have hz0 : b < w1.heap.size := (by have := hB1.size; omega); obtain ⟨hc1, hf1⟩ := bcell hb1; obtain ⟨hcA1, hfA1⟩ := bcell hB1; have HB1 := Lib.hid hb1; clear hb1)) | (go_at_call 41; ((with_reducible refine (c_Partner' _ _ _ _ _ _ _ HP.out _ (HC.out.next (by repeat' (first | (with_reducible assumption) | (with_reducible exact Below.refl _ _) | (with_reducible refine Below.alloc ?_ ?_ _) | (with_reducible refine Bk.drewN_ ?_ _) | (with_reducible refine Below.drew ?_) | (with_reducible refine Below.setCell ?_ ?_ _) | go_size))) hw (HT.out.next (by repeat' (first | (with_reducible assumption) | (with_reducible exact Below.refl _ _) | (with_reducible refine Below.alloc ?_ ?_ _) | (with_reducible refine Bk.drewN_ ?_ _) | (with_reducible refine Below.drew ?_) | (with_reducible refine Below.setCell ?_ ?_ _) | go_size)))).mono ?_); rintro e w1 ⟨rfl, hb1⟩; (try (have hs0 : w.heap.size < w1.heap.size := (by have := hb1.size; (try simp at this); omega))); (try (have hs1 : w.heap.size + 1 < w1.heap.size := (by have := hb1.size; (try simp at this); omega))); have hB1 : Below w.heap.size w w1 := Below.next (by repeat' (first | (with_reducible assumption) | (with_reducible exact Below.refl _ _) | (with_reducible refine Below.alloc ?_ ?_ _) | (with_reducible refine Bk.drewN_ ?_ _) | (with_reducible refine Below.drew ?_) | (with_reducible refine Below.setCell ?_ ?_ _) | go_size)) hb1; have hz0 : b < w1.heap.size := (by have := hB1.size; omega); obtain ⟨hc1, hf1⟩ := bcell hb1; obtain ⟨hcA1, hfA1⟩ := bcell hB1; have HB1 := Lib.hid hb1; clear hb1)))
      go_ret
      exact ⟨by rw [HF.out]; rfl, by repeat' (first | (with_reducible assumption) | (with_reducible exact Below.refl _ _) | (with_reducible refine Below.alloc ?_ ?_ _) | (with_reducible refine Bk.drewN_ ?_ _) | (with_reducible refine Below.drew ?_) | (with_reducible refine Below.setCell ?_ ?_ _) | go_size)⟩
    | true =>
      have htr : 0 ≤ t ∧ t < n := by
        have h1 : (partner code k).2 = true := by rw [hp]
        have hn := HN.out
        obtain ⟨_, _, a1, a2, a3, _⟩ := partner_inv h1
        rw [Int.toNat_natCast, HX.out] at a3
        have : (partner code k).1 = t := (congrArg Prod.fst a3).symm.trans (congrArg Prod.fst HTg.out)
        omega
      obtain ⟨m, rfl⟩ := Int.eq_ofNat_of_zero_le htr.1
      have rm := HR.out m (by omega)
      have m0 : decide ((m : Int) < 0) = false := by simp
      have m2 : ¬ n ≤ m := by omega
      simp only [Int.toNat_natCast] at HF
      obtain ⟨jx, hjx⟩ : ∃ v, jumpB x.op = v := ⟨_, rfl⟩
      obtain ⟨lx, hlx⟩ : ∃ v, landB x.op = v := ⟨_, rfl⟩
      obtain ⟨v32, h32⟩ : ∃ v, (x.op == 32) = v := ⟨_, rfl⟩
      obtain ⟨vr, hvr⟩ : ∃ v, ((regionAt code k : Int) != regionAt code m) = v := ⟨_, rfl⟩
      have hfin : fault code k = if v32 = true ∧ inside = true then 20 else if (jx = true ∨ lx = true) ∧ vr = true then 20 else 0 := by
        rw [HF.out, hjx, hlx, ← h32, ← hvr]; simp
      have HF := Lib.hid hfin
      obtain ⟨r1, hr1⟩ : ∃ r, regionAt code k = r := ⟨_, rfl⟩
      obtain ⟨r2, hr2⟩ : ∃ r, regionAt code m = r := ⟨_, rfl⟩
      rw [hr1] at rk hvr
      rw [hr2] at rm hvr
      have HJ := Lib.hid hjx; have HL := Lib.hid hlx
      clear hp hcall hfin hjx hlx htr hr1 hr2
      cases v32 <;> cases inside
      case true.true =>
        clear rm
        go_enter Tryd.func38, Tryd.ntmps38
        go_wp2_with (first | (go_at_call 12; ((with_reducible refine (c_Valid' _ _ _ _ _ H3.out hx0 _ (HT.out.next (by repeat' (first | (with_reducible assumption) | (with_reducible exact Below.refl _ _) | (with_reducible refine Below.alloc ?_ ?_ _) | (with_reducible refine Bk.drewN_ ?_ _) | (with_reducible refine Below.drew ?_) | (with_reducible refine Below.setCell ?_ ?_ _) | go_size)))).mono ?_); rintro e w1 ⟨rfl, hb1⟩; (try (have hs0 : w.heap.size < w1.heap.size := (by have := hb1.size; (try simp at this); omega))); (try (have hs1 : w.heap.size + 1 < w1.heap.size := (by have := hb1.size; (try simp at this); omega))); have hB1 : Below w.heap.size w w1 := Below.next (by repeat' (first | (with_reducible assumption) | (with_reducible exact Below.refl _ _) | (with_reducible refine Below.alloc ?_ ?_ _) | (with_reducible refine Bk.drewN_ ?_ _) | (with_reducible refine Below.drew ?_) | (with_reducible refine Below.setCell ?_ ?_ _) | go_size)) hb1; have hz0 : b < w1.heap.size := (by have := hB1.size; omega); obtain ⟨hc1, hf1⟩ := bcell hb1; obtain ⟨hcA1, hfA1⟩ := bcell hB1; have HB1 := Lib.hid hb1; clear hb1)) | (go_at_call 15; ((with_reducible refine (c_Target' _ _ _ _ _ H1.out _).mono ?_); rintro e w1 ⟨rfl, hb1⟩; (try (have hs0 : w.heap.size < w1.heap.size := (by have := hb1.size; (try simp at this); omega))); (try (have hs1 : w.heap.size + 1 < w1.heap.size := (by have := hb1.size; (try simp at this); omega))); have hB1 : Below w.heap.size w w1 := Below.next (by repeat' (first | (with_reducible assumption) | (with_reducible exact Below.refl _ _) | (with_reducible refine Below.alloc ?_ ?_ _) | (with_reducible refine Bk.drewN_ ?_ _) | (with_reducible refine Below.drew ?_) | (with_reducible refine Below.setCell ?_ ?_ _) | go_size)) hb1; have hz0 : b < w1.heap.size := (by have := hB1.size; omega); obtain ⟨hc1, hf1⟩ := bcell hb1; obtain ⟨hcA1, hfA1⟩ := bcell hB1; have HB1 := Lib.hid hb1; clear hb1)) | (go_at_call 41; ((with_reducible refine (c_Partner' _ _ _ _ _ _ _ HP.out _ (HC.out.next (by repeat' (first | (with_reducible assumption) | (with_reducible exact Below.refl _ _) | (with_reducible refine Below.alloc ?_ ?_ _) | (with_reducible refine Bk.drewN_ ?_ _) | (with_reducible refine Below.drew ?_) | (with_reducible refine Below.setCell ?_ ?_ _) | go_size))) hw (HT.out.next (by repeat' (first | (with_reducible assumption) | (with_reducible exact Below.refl _ _) | (with_reducible refine Below.alloc ?_ ?_ _) | (with_reducible refine Bk.drewN_ ?_ _) | (with_reducible refine Below.drew ?_) | (with_reducible refine Below.setCell ?_ ?_ _) | go_size)))).mono ?_); rintro e w1 ⟨rfl, hb1⟩; (try (have hs0 : w.heap.size < w1.heap.size := (by have := hb1.size; (try simp at this); omega))); (try (have hs1 : w.heap.size + 1 < w1.heap.size := (by have := hb1.size; (try simp at this); omega))); have hB1 : Below w.heap.size w w1 := Below.next (by repeat' (first | (with_reducible assumption) | (with_reducible exact Below.refl _ _) | (with_reducible refine Below.alloc ?_ ?_ _) | (with_reducible refine Bk.drewN_ ?_ _) | (with_reducible refine Below.drew ?_) | (with_reducible refine Below.setCell ?_ ?_ _) | go_size)) hb1; have hz0 : b < w1.heap.size := (by have := hB1.size; omega); obtain ⟨hc1, hf1⟩ := bcell hb1; obtain ⟨hcA1, hfA1⟩ := bcell hB1; have HB1 := Lib.hid hb1; clear hb1)))
        go_ret
        exact ⟨by rw [HF.out]; rfl, by repeat' (first | (with_reducible assumption) | (with_reducible exact Below.refl _ _) | (with_reducible refine Below.alloc ?_ ?_ _) | (with_reducible refine Bk.drewN_ ?_ _) | (with_reducible refine Below.drew ?_) | (with_reducible refine Below.setCell ?_ ?_ _) | go_size)⟩
      all_goals
        rcases (by cases jx <;> cases lx <;> cases vr <;> simp : (jx = false ∧ lx = false) ∨ (jx = false ∧ lx = true ∧ vr = true) ∨ (jx = false ∧ lx = true ∧ vr = false) ∨ (jx = true ∧ vr = true) ∨ (jx = true ∧ vr = false)) with ⟨rfl, rfl⟩ | ⟨rfl, rfl, rfl⟩ | ⟨rfl, rfl, rfl⟩ | ⟨rfl, rfl⟩ | ⟨rfl, rfl⟩
      all_goals
        go_enter Tryd.func38, Tryd.ntmps38
        go_wp2_with (first | (go_at_call 12; ((with_reducible refine (c_Valid' _ _ _ _ _ H3.out hx0 _ (HT.out.next (by repeat' (first | (with_reducible assumption) | (with_reducible exact Below.refl _ _) | (with_reducible refine Below.alloc ?_ ?_ _) | (with_reducible refine Bk.drewN_ ?_ _) | (with_reducible refine Below.drew ?_) | (with_reducible refine Below.setCell ?_ ?_ _) | go_size)))).mono ?_); rintro e w1 ⟨rfl, hb1⟩; (try (have hs0 : w.heap.size < w1.heap.size := (by have := hb1.size; (try simp at this); omega))); (try (have hs1 : w.heap.size + 1 < w1.heap.size := (by have := hb1.size; (try simp at this); omega))); have hB1 : Below w.heap.size w w1 := Below.next (by repeat' (first | (with_reducible assumption) | (with_reducible exact Below.refl _ _) | (with_reducible refine Below.alloc ?_ ?_ _) | (with_reducible refine Bk.drewN_ ?_ _) | (with_reducible refine Below.drew ?_) | (with_reducible refine Below.setCell ?_ ?_ _) | go_size)) hb1; have hz0 : b < w1.heap.size := (by have := hB1.size; omega); obtain ⟨hc1, hf1⟩ := bcell hb1; obtain ⟨hcA1, hfA1⟩ := bcell hB1; have HB1 := Lib.hid hb1; clear hb1)) | (go_at_call 15; ((with_reducible refine (c_Target' _ _ _ _ _ H1.out _).mono ?_); rintro e w1 ⟨rfl, hb1⟩; (try (have hs0 : w.heap.size < w1.heap.size := (by have := hb1.size; (try simp at this); omega))); (try (have hs1 : w.heap.size + 1 < w1.heap.size := (by have := hb1.size; (try simp at this); omega))); have hB1 : Below w.heap.size w w1 := Below.next (by repeat' (first | (with_reducible assumption) | (with_reducible exact Below.refl _ _) | (with_reducible refine Below.alloc ?_ ?_ _) | (with_reducible refine Bk.drewN_ ?_ _) | (with_reducible refine Below.drew ?_) | (with_reducible refine Below.setCell ?_ ?_ _) | go_size)) hb1; have hz0 : b < w1.heap.size := (by have := hB1.size; omega); obtain ⟨hc1, hf1⟩ := bcell hb1; obtain ⟨hcA1, hfA1⟩ := bcell hB1; have HB1 := Lib.hid hb1; clear hb1)) | (go_at_call 41; ((with_reducible refine (c_Partner' _ _ _ _ _ _ _ HP.out _ (HC.out.next (by repeat' (first | (with_reducible assumption) | (with_reducible exact Below.refl _ _) | (with_reducible refine Below.alloc ?_ ?_ _) | (with_reducible refine Bk.drewN_ ?_ _) | (with_reducible refine Below.drew ?_) | (with_reducible refine Below.setCell ?_ ?_ _) | go_size))) hw (HT.out.next (by repeat' (first | (with_reducible assumption) | (with_reducible exact Below.refl _ _) | (with_reducible refine Below.alloc ?_ ?_ _) | (with_reducible refine Bk.drewN_ ?_ _) | (with_reducible refine Below.drew ?_) | (with_reducible refine Below.setCell ?_ ?_ _) | go_size)))).mono ?_); rintro e w1 ⟨rfl, hb1⟩; (try (have hs0 : w.heap.size < w1.heap.size := (by have := hb1.size; (try simp at this); omega))); (try (have hs1 : w.heap.size + 1 < w1.heap.size := (by have := hb1.size; (try simp at this); omega))); have hB1 : Below w.heap.size w w1 := Below.next (by repeat' (first | (with_reducible assumption) | (with_reducible exact Below.refl _ _) | (with_reducible refine Below.alloc ?_ ?_ _) | (with_reducible refine Bk.drewN_ ?_ _) | (with_reducible refine Below.drew ?_) | (with_reducible refine Below.setCell ?_ ?_ _) | go_size)) hb1; have hz0 : b < w1.heap.size := (by have := hB1.size; omega); obtain ⟨hc1, hf1⟩ := bcell hb1; obtain ⟨hcA1, hfA1⟩ := bcell hB1; have HB1 := Lib.hid hb1; clear hb1)))
        go_quiet ((first | (go_at_call 27; exact quiet_left (c_IsJump' _ HJ.out _)) | (go_at_call 28; exact quiet_left (c_IsLanding' _ HL.out _))))
        go_wp2
        go_ret
        exact ⟨by rw [HF.out]; rfl, by repeat' (first | (with_reducible assumption) | (with_reducible exact Below.refl _ _) | (with_reducible refine Below.alloc ?_ ?_ _) | (with_reducible refine Bk.drewN_ ?_ _) | (with_reducible refine Below.drew ?_) | (with_reducible refine Below.setCell ?_ ?_ _) | go_size)⟩
end Go.Proofs.YtfobnkgfbdmakaaDoor
