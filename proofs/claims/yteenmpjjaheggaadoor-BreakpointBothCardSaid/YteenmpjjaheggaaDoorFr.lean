/- Several texts in one: Fault Regions Check. -/
import Derived.Test.YteenmpjjaheggaaDoorZPartner
set_option linter.unusedVariables false
set_option linter.unusedSimpArgs false
/- The walk of image.fault. -/
set_option maxRecDepth 100000
set_option maxHeartbeats 8000000
set_option linter.unusedVariables false
namespace Go.Proofs.YteenmpjjaheggaaDoor
open Go.RowKit Bk


theorem c_fault (b off n cap k br offr capr : Nat) (code : Prg) (inside : Bool) (w : World) (hk : k < n)
    (hC : Rd w (· < w.heap.size) 5 (some ⟨b, off, none⟩) n (codeCells code)) (hw : CodeWf code) (hTab : TableAt w)
    (hR : Rd w (· < w.heap.size) 1 (some ⟨br, offr, none⟩) n ((List.range n).map fun i => .int .i64 (regionAt code i)))
    (hin : insideAt code k = inside) :
    Calls Tryd.prog 62 #[.slice (some ⟨b, off, none⟩) n cap, .int .i64 k, .slice (some ⟨br, offr, none⟩) n capr, .bool inside] w fun e w' =>
      e = .returned (.int .i64 (fault code k)) ∧ Below w.heap.size w w' := by
  have hn : n = code.length := by have := hC.1; rw [codeCells_length] at this; omega
  have hb : b < w.heap.size := hC.blk (by omega)
  have hbr : br < w.heap.size := hR.blk (by omega)
  obtain ⟨x0, x1, x2, x3, x4⟩ := hC.insAt (hn ▸ hk)
  have yy : ∀ m, m < n → w.cell? ⟨b, off + m * 5, none⟩ = some (.int .u8 (code.getD m default).op) := fun m hm => (hC.insAt (hn ▸ hm)).c0
  have rr : ∀ m, m < n → w.cell? ⟨br, offr + m, none⟩ = some (.int .i64 (regionAt code m)) := fun m hm => hR.at1 (by simp [hm])
  have rk := rr k hk
  have hx0 : 0 ≤ (code.getD k default).op := hw.op0 k
  have hf : fault code k = fault code k := rfl
  conv at hf => rhs; unfold fault
  generalize hx : code.getD k default = x at *
  obtain ⟨t, ok, ht⟩ : ∃ t ok, targetP x.op x.a x.b = (t, ok) := ⟨_, _, rfl⟩
  obtain ⟨vx, hvx⟩ : ∃ v, validB x.op x.a x.b x.c x.d = v := ⟨_, rfl⟩
  have e1 : x.target = (t, ok) := ht
  have e3 : x.valid = vx := hvx
  simp only [e1, e3, hin] at hf
  have HX := Lib.hid hx; have HTg := Lib.hid e1
  clear e1 e3 hin hx
  have H1 := Lib.hid ht; have H3 := Lib.hid hvx; clear ht hvx
  have HT := Lib.hid hTab; have HC := Lib.hid hC; have HF := Lib.hid hf; have HY := Lib.hid yy; have HR := Lib.hid rr; clear hTab hC hf hR yy rr
  have HN := Lib.hid hn; clear hn
  have hk' : ¬ n ≤ k := by omega
  cases vx with
  | false =>
    go_enter Tryd.func62, Tryd.ntmps62
    go_wp2_with (go_at_call 65; ((with_reducible refine (c_Valid' _ _ _ _ _ H3.out hx0 _ (HT.out.next (by go_grown))).mono ?_); rintro e w1 ⟨rfl, hb1⟩; (try (have hs0 : w.heap.size < w1.heap.size := (by have := hb1.size; (try simp at this); omega))); (try (have hs1 : w.heap.size + 1 < w1.heap.size := (by have := hb1.size; (try simp at this); omega))); have hB1 : Below w.heap.size w w1 := Below.next (by go_grown) hb1; have hz0 : b < w1.heap.size := (by have := hB1.size; omega); obtain ⟨hc1, hf1⟩ := bcell hb1; obtain ⟨hcA1, hfA1⟩ := bcell hB1; have HB1 := Lib.hid hb1; clear hb1))
    go_ret
    exact ⟨by rw [HF.out]; rfl, by repeat' (first | (with_reducible assumption) | (with_reducible exact Below.refl _ _) | (with_reducible refine Below.alloc ?_ ?_ _) | (with_reducible refine Bk.drewN_ ?_ _) | (with_reducible refine Below.drew ?_) | (with_reducible refine Below.setCell ?_ ?_ _) | go_size)⟩
  | true =>
  cases ok with
  | false =>
    go_enter Tryd.func62, Tryd.ntmps62
    go_wp2_with (first | (go_at_call 65; ((with_reducible refine (c_Valid' _ _ _ _ _ H3.out hx0 _ (HT.out.next (by go_grown))).mono ?_); rintro e w1 ⟨rfl, hb1⟩; (try (have hs0 : w.heap.size < w1.heap.size := (by have := hb1.size; (try simp at this); omega))); (try (have hs1 : w.heap.size + 1 < w1.heap.size := (by have := hb1.size; (try simp at this); omega))); have hB1 : Below w.heap.size w w1 := Below.next (by go_grown) hb1; have hz0 : b < w1.heap.size := (by have := hB1.size; omega); obtain ⟨hc1, hf1⟩ := bcell hb1; obtain ⟨hcA1, hfA1⟩ := bcell hB1; have HB1 := Lib.hid hb1; clear hb1)) | (go_at_call 51; ((with_reducible refine (c_Target' _ _ _ _ _ H1.out _).mono ?_); rintro e w1 ⟨rfl, hb1⟩; (try (have hs0 : w.heap.size < w1.heap.size := (by have := hb1.size; (try simp at this); omega))); (try (have hs1 : w.heap.size + 1 < w1.heap.size := (by have := hb1.size; (try simp at this); omega))); have hB1 : Below w.heap.size w w1 := Below.next (by go_grown) hb1; have hz0 : b < w1.heap.size := (by have := hB1.size; omega); obtain ⟨hc1, hf1⟩ := bcell hb1; obtain ⟨hcA1, hfA1⟩ := bcell hB1; have HB1 := Lib.hid hb1; clear hb1)))
    go_ret
    exact ⟨by rw [HF.out]; rfl, by repeat' (first | (with_reducible assumption) | (with_reducible exact Below.refl _ _) | (with_reducible refine Below.alloc ?_ ?_ _) | (with_reducible refine Bk.drewN_ ?_ _) | (with_reducible refine Below.drew ?_) | (with_reducible refine Below.setCell ?_ ?_ _) | go_size)⟩
  | true =>
  by_cases hcall : x.op = 30 ∨ x.op = 31
  · obtain ⟨p, pok, hp⟩ : ∃ p pok, partner code t = (p, pok) := ⟨_, _, rfl⟩
    have hf := HF.out
    rw [if_neg (by simp), if_neg (by simp), if_pos hcall, hp] at hf
    have HF := Lib.hid hf; clear hf
    have HP := Lib.hid hp
    have hb30 : (x.op == 30) = true ∨ ((x.op == 30) = false ∧ (x.op == 31) = true) := by
      rcases hcall with h | h
      · exact .inl (by simp [h])
      · exact .inr ⟨by simp [h], by simp [h]⟩
    cases pok with
    | false =>
      clear hp hcall
      rcases hb30 with h30 | ⟨h30, h31⟩
      all_goals
        go_enter Tryd.func62, Tryd.ntmps62
        go_wp2_with (first | (go_at_call 65; ((with_reducible refine (c_Valid' _ _ _ _ _ H3.out hx0 _ (HT.out.next (by go_grown))).mono ?_); rintro e w1 ⟨rfl, hb1⟩; (try (have hs0 : w.heap.size < w1.heap.size := (by have := hb1.size; (try simp at this); omega))); (try (have hs1 : w.heap.size + 1 < w1.heap.size := (by have := hb1.size; (try simp at this); omega))); have hB1 : Below w.heap.size w w1 := Below.next (by go_grown) hb1; have hz0 : b < w1.heap.size := (by have := hB1.size; omega); obtain ⟨hc1, hf1⟩ := bcell hb1; obtain ⟨hcA1, hfA1⟩ := bcell hB1; have HB1 := Lib.hid hb1; clear hb1)) | (go_at_call 51; ((with_reducible refine (c_Target' _ _ _ _ _ H1.out _).mono ?_); rintro e w1 ⟨rfl, hb1⟩; (try (have hs0 : w.heap.size < w1.heap.size := (by have := hb1.size; (try simp at this); omega))); (try (have hs1 : w.heap.size + 1 < w1.heap.size := (by have := hb1.size; (try simp at this); omega))); have hB1 : Below w.heap.size w w1 := Below.next (by go_grown) hb1; have hz0 : b < w1.heap.size := (by have := hB1.size; omega); obtain ⟨hc1, hf1⟩ := bcell hb1; obtain ⟨hcA1, hfA1⟩ := bcell hB1; have HB1 := Lib.hid hb1; clear hb1)) | (go_at_call 71; ((with_reducible refine (c_Partner' _ _ _ _ _ _ _ HP.out _ (HC.out.next (by go_grown)) hw (HT.out.next (by go_grown))).mono ?_); rintro e w1 ⟨rfl, hb1⟩; (try (have hs0 : w.heap.size < w1.heap.size := (by have := hb1.size; (try simp at this); omega))); (try (have hs1 : w.heap.size + 1 < w1.heap.size := (by have := hb1.size; (try simp at this); omega))); have hB1 : Below w.heap.size w w1 := Below.next (by go_grown) hb1; have hz0 : b < w1.heap.size := (by have := hB1.size; omega); obtain ⟨hc1, hf1⟩ := bcell hb1; obtain ⟨hcA1, hfA1⟩ := bcell hB1; have HB1 := Lib.hid hb1; clear hb1)))
        go_ret
        exact ⟨by rw [HF.out]; rfl, by repeat' (first | (with_reducible assumption) | (with_reducible exact Below.refl _ _) | (with_reducible refine Below.alloc ?_ ?_ _) | (with_reducible refine Bk.drewN_ ?_ _) | (with_reducible refine Below.drew ?_) | (with_reducible refine Below.setCell ?_ ?_ _) | go_size)⟩
    | true =>
      have htr : 0 ≤ t ∧ t < n := by
        have h1 : (partner code t).2 = true := by rw [hp]
        unfold partner at h1
        have hn := HN.out
        split at h1
        · cases h1
        · omega
      obtain ⟨m, rfl⟩ := Int.eq_ofNat_of_zero_le htr.1
      have y0 := HY.out m (by omega)
      have m0 : decide ((m : Int) < 0) = false := by simp
      have m2 : ¬ n ≤ m := by omega
      simp only [Int.toNat_natCast] at HF
      obtain ⟨v32, h32⟩ : ∃ v, ((code.getD m default).op != 32) = v := ⟨_, rfl⟩
      have hfin : fault code k = if v32 = true then 23 else 0 := by
        rw [HF.out, ← h32]; simp [bne_iff_ne]
      have HF := Lib.hid hfin
      obtain ⟨yop, hy⟩ : ∃ yop, (code.getD m default).op = yop := ⟨_, rfl⟩
      rw [hy] at y0 h32
      clear hp hcall hfin hy htr
      rcases hb30 with h30 | ⟨h30, h31⟩
      all_goals
        cases v32
        all_goals
          go_enter Tryd.func62, Tryd.ntmps62
          go_wp2_with (first | (go_at_call 65; ((with_reducible refine (c_Valid' _ _ _ _ _ H3.out hx0 _ (HT.out.next (by go_grown))).mono ?_); rintro e w1 ⟨rfl, hb1⟩; (try (have hs0 : w.heap.size < w1.heap.size := (by have := hb1.size; (try simp at this); omega))); (try (have hs1 : w.heap.size + 1 < w1.heap.size := (by have := hb1.size; (try simp at this); omega))); have hB1 : Below w.heap.size w w1 := Below.next (by go_grown) hb1; have hz0 : b < w1.heap.size := (by have := hB1.size; omega); obtain ⟨hc1, hf1⟩ := bcell hb1; obtain ⟨hcA1, hfA1⟩ := bcell hB1; have HB1 := Lib.hid hb1; clear hb1)) | (go_at_call 51; ((with_reducible refine (c_Target' _ _ _ _ _ H1.out _).mono ?_); rintro e w1 ⟨rfl, hb1⟩; (try (have hs0 : w.heap.size < w1.heap.size := (by have := hb1.size; (try simp at this); omega))); (try (have hs1 : w.heap.size + 1 < w1.heap.size := (by have := hb1.size; (try simp at this); omega))); have hB1 : Below w.heap.size w w1 := Below.next (by go_grown) hb1; have hz0 : b < w1.heap.size := (by have := hB1.size; omega); obtain ⟨hc1, hf1⟩ := bcell hb1; obtain ⟨hcA1, hfA1⟩ := bcell hB1; have HB1 := Lib.hid hb1; clear hb1)) | (go_at_call 71; ((with_reducible refine (c_Partner' _ _ _ _ _ _ _ HP.out _ (HC.out.next (by go_grown)) hw (HT.out.next (by go_grown))).mono ?_); rintro e w1 ⟨rfl, hb1⟩; (try (have hs0 : w.heap.size < w1.heap.size := (by have := hb1.size; (try simp at this); omega))); (try (have hs1 : w.heap.size + 1 < w1.heap.size := (by have := hb1.size; (try simp at this); omega))); have hB1 : Below w.heap.size w w1 := Below.next (by go_grown) hb1; have hz0 : b < w1.heap.size := (by have := hB1.size; omega); obtain ⟨hc1, hf1⟩ := bcell hb1; obtain ⟨hcA1, hfA1⟩ := bcell hB1; have HB1 := Lib.hid hb1; clear hb1)))
          go_ret
          exact ⟨by rw [HF.out]; rfl, by repeat' (first | (with_reducible assumption) | (with_reducible exact Below.refl _ _) | (with_reducible refine Below.alloc ?_ ?_ _) | (with_reducible refine Bk.drewN_ ?_ _) | (with_reducible refine Below.drew ?_) | (with_reducible refine Below.setCell ?_ ?_ _) | go_size)⟩
  · have b30 : (x.op == 30) = false := by simp; omega
    have b31 : (x.op == 31) = false := by simp; omega
    obtain ⟨p, pok, hp⟩ : ∃ p pok, partner code k = (p, pok) := ⟨_, _, rfl⟩
    have hf := HF.out
    rw [if_neg (by simp), if_neg (by simp), if_neg hcall, hp] at hf
    have HF := Lib.hid hf; clear hf
    have HP := Lib.hid hp
    cases pok with
    | false =>
      clear hp hcall
      go_enter Tryd.func62, Tryd.ntmps62
      go_wp2_with (first | (go_at_call 65; ((with_reducible refine (c_Valid' _ _ _ _ _ H3.out hx0 _ (HT.out.next (by go_grown))).mono ?_); rintro e w1 ⟨rfl, hb1⟩; (try (have hs0 : w.heap.size < w1.heap.size := (by have := hb1.size; (try simp at this); omega))); (try (have hs1 : w.heap.size + 1 < w1.heap.size := (by have := hb1.size; (try simp at this); omega))); have hB1 : Below w.heap.size w w1 := Below.next (by go_grown) hb1; have hz0 : b < w1.heap.size := (by have := hB1.size; omega); obtain ⟨hc1, hf1⟩ := bcell hb1; obtain ⟨hcA1, hfA1⟩ := bcell hB1; have HB1 := Lib.hid hb1; clear hb1)) | (go_at_call 51; ((with_reducible refine (c_Target' _ _ _ _ _ H1.out _).mono ?_); rintro e w1 ⟨rfl, hb1⟩; (try (have hs0 : w.heap.size < w1.heap.size := (by have := hb1.size; (try simp at this); omega))); (try (have hs1 : w.heap.size + 1 < w1.heap.size := (by have := hb1.size; (try simp at this); omega))); have hB1 : Below w.heap.size w w1 := Below.next (by go_grown) hb1; have hz0 : b < w1.heap.size := (by have := hB1.size; omega); obtain ⟨hc1, hf1⟩ := bcell hb1; obtain ⟨hcA1, hfA1⟩ := bcell hB1; have HB1 := Lib.hid hb1; clear hb1)) | (go_at_call 71; ((with_reducible refine (c_Partner' _ _ _ _ _ _ _ HP.out _ (HC.out.next (by go_grown)) hw (HT.out.next (by go_grown))).mono ?_); rintro e w1 ⟨rfl, hb1⟩; (try (have hs0 : w.heap.size < w1.heap.size := (by have := hb1.size; (try simp at this); omega))); (try (have hs1 : w.heap.size + 1 < w1.heap.size := (by have := hb1.size; (try simp at this); omega))); have hB1 : Below w.heap.size w w1 := Below.next (by go_grown) hb1; have hz0 : b < w1.heap.size := (by have := hB1.size; omega); obtain ⟨hc1, hf1⟩ := bcell hb1; obtain ⟨hcA1, hfA1⟩ := bcell hB1; have HB1 := Lib.hid hb1; clear hb1)))
      go_ret
      exact ⟨by rw [HF.out]; rfl, by repeat' (first | (with_reducible assumption) | (with_reducible exact Below.refl _ _) | (with_reducible refine Below.alloc ?_ ?_ _) | (with_reducible refine Bk.drewN_ ?_ _) | (with_reducible refine Below.drew ?_) | (with_reducible refine Below.setCell ?_ ?_ _) | go_size)⟩
    | true =>
      have htr : 0 ≤ t ∧ t < n := by
        have h1 : (partner code k).2 = true := by rw [hp]
        have hn := HN.out
        obtain ⟨_, _, a1, a2, a3, _⟩ := partner_inv h1
        rw [Int.toNat_natCast, HX.out] at a3
        have : (partner code k).1 = t := (congrArg Prod.fst a3).symm.trans (congrArg Prod.fst HTg.out)
        omega
      obtain ⟨m, rfl⟩ := Int.eq_ofNat_of_zero_le htr.1
      have rm := HR.out m (by omega)
      have m0 : decide ((m : Int) < 0) = false := by simp
      have m2 : ¬ n ≤ m := by omega
      simp only [Int.toNat_natCast] at HF
      obtain ⟨jx, hjx⟩ : ∃ v, jumpB x.op = v := ⟨_, rfl⟩
      obtain ⟨lx, hlx⟩ : ∃ v, landB x.op = v := ⟨_, rfl⟩
      obtain ⟨v32, h32⟩ : ∃ v, (x.op == 32) = v := ⟨_, rfl⟩
      obtain ⟨vr, hvr⟩ : ∃ v, ((regionAt code k : Int) != regionAt code m) = v := ⟨_, rfl⟩
      have hfin : fault code k = if v32 = true ∧ inside = true then 20 else if (jx = true ∨ lx = true) ∧ vr = true then 20 else 0 := by
        rw [HF.out, hjx, hlx, ← h32, ← hvr]; simp
      have HF := Lib.hid hfin
      obtain ⟨r1, hr1⟩ : ∃ r, regionAt code k = r := ⟨_, rfl⟩
      obtain ⟨r2, hr2⟩ : ∃ r, regionAt code m = r := ⟨_, rfl⟩
      rw [hr1] at rk hvr
      rw [hr2] at rm hvr
      have HJ := Lib.hid hjx; have HL := Lib.hid hlx
      clear hp hcall hfin hjx hlx htr hr1 hr2
      cases v32 <;> cases inside
      case true.true =>
        clear rm
        go_enter Tryd.func62, Tryd.ntmps62
        go_wp2_with (first | (go_at_call 65; ((with_reducible refine (c_Valid' _ _ _ _ _ H3.out hx0 _ (HT.out.next (by go_grown))).mono ?_); rintro e w1 ⟨rfl, hb1⟩; (try (have hs0 : w.heap.size < w1.heap.size := (by have := hb1.size; (try simp at this); omega))); (try (have hs1 : w.heap.size + 1 < w1.heap.size := (by have := hb1.size; (try simp at this); omega))); have hB1 : Below w.heap.size w w1 := Below.next (by go_grown) hb1; have hz0 : b < w1.heap.size := (by have := hB1.size; omega); obtain ⟨hc1, hf1⟩ := bcell hb1; obtain ⟨hcA1, hfA1⟩ := bcell hB1; have HB1 := Lib.hid hb1; clear hb1)) | (go_at_call 51; ((with_reducible refine (c_Target' _ _ _ _ _ H1.out _).mono ?_); rintro e w1 ⟨rfl, hb1⟩; (try (have hs0 : w.heap.size < w1.heap.size := (by have := hb1.size; (try simp at this); omega))); (try (have hs1 : w.heap.size + 1 < w1.heap.size := (by have := hb1.size; (try simp at this); omega))); have hB1 : Below w.heap.size w w1 := Below.next (by go_grown) hb1; have hz0 : b < w1.heap.size := (by have := hB1.size; omega); obtain ⟨hc1, hf1⟩ := bcell hb1; obtain ⟨hcA1, hfA1⟩ := bcell hB1; have HB1 := Lib.hid hb1; clear hb1)) | (go_at_call 71; ((with_reducible refine (c_Partner' _ _ _ _ _ _ _ HP.out _ (HC.out.next (by go_grown)) hw (HT.out.next (by go_grown))).mono ?_); rintro e w1 ⟨rfl, hb1⟩; (try (have hs0 : w.heap.size < w1.heap.size := (by have := hb1.size; (try simp at this); omega))); (try (have hs1 : w.heap.size + 1 < w1.heap.size := (by have := hb1.size; (try simp at this); omega))); have hB1 : Below w.heap.size w w1 := Below.next (by go_grown) hb1; have hz0 : b < w1.heap.size := (by have := hB1.size; omega); obtain ⟨hc1, hf1⟩ := bcell hb1; obtain ⟨hcA1, hfA1⟩ := bcell hB1; have HB1 := Lib.hid hb1; clear hb1)))
        go_ret
        exact ⟨by rw [HF.out]; rfl, by repeat' (first | (with_reducible assumption) | (with_reducible exact Below.refl _ _) | (with_reducible refine Below.alloc ?_ ?_ _) | (with_reducible refine Bk.drewN_ ?_ _) | (with_reducible refine Below.drew ?_) | (with_reducible refine Below.setCell ?_ ?_ _) | go_size)⟩
      all_goals
        rcases (by cases jx <;> cases lx <;> cases vr <;> simp : (jx = false ∧ lx = false) ∨ (jx = false ∧ lx = true ∧ vr = true) ∨ (jx = false ∧ lx = true ∧ vr = false) ∨ (jx = true ∧ vr = true) ∨ (jx = true ∧ vr = false)) with ⟨rfl, rfl⟩ | ⟨rfl, rfl, rfl⟩ | ⟨rfl, rfl, rfl⟩ | ⟨rfl, rfl⟩ | ⟨rfl, rfl⟩
      all_goals
        go_enter Tryd.func62, Tryd.ntmps62
        go_wp2_with (first | (go_at_call 65; ((with_reducible refine (c_Valid' _ _ _ _ _ H3.out hx0 _ (HT.out.next (by go_grown))).mono ?_); rintro e w1 ⟨rfl, hb1⟩; (try (have hs0 : w.heap.size < w1.heap.size := (by have := hb1.size; (try simp at this); omega))); (try (have hs1 : w.heap.size + 1 < w1.heap.size := (by have := hb1.size; (try simp at this); omega))); have hB1 : Below w.heap.size w w1 := Below.next (by go_grown) hb1; have hz0 : b < w1.heap.size := (by have := hB1.size; omega); obtain ⟨hc1, hf1⟩ := bcell hb1; obtain ⟨hcA1, hfA1⟩ := bcell hB1; have HB1 := Lib.hid hb1; clear hb1)) | (go_at_call 51; ((with_reducible refine (c_Target' _ _ _ _ _ H1.out _).mono ?_); rintro e w1 ⟨rfl, hb1⟩; (try (have hs0 : w.heap.size < w1.heap.size := (by have := hb1.size; (try simp at this); omega))); (try (have hs1 : w.heap.size + 1 < w1.heap.size := (by have := hb1.size; (try simp at this); omega))); have hB1 : Below w.heap.size w w1 := Below.next (by go_grown) hb1; have hz0 : b < w1.heap.size := (by have := hB1.size; omega); obtain ⟨hc1, hf1⟩ := bcell hb1; obtain ⟨hcA1, hfA1⟩ := bcell hB1; have HB1 := Lib.hid hb1; clear hb1)) | (go_at_call 71; ((with_reducible refine (c_Partner' _ _ _ _ _ _ _ HP.out _ (HC.out.next (by go_grown)) hw (HT.out.next (by go_grown))).mono ?_); rintro e w1 ⟨rfl, hb1⟩; (try (have hs0 : w.heap.size < w1.heap.size := (by have := hb1.size; (try simp at this); omega))); (try (have hs1 : w.heap.size + 1 < w1.heap.size := (by have := hb1.size; (try simp at this); omega))); have hB1 : Below w.heap.size w w1 := Below.next (by go_grown) hb1; have hz0 : b < w1.heap.size := (by have := hB1.size; omega); obtain ⟨hc1, hf1⟩ := bcell hb1; obtain ⟨hcA1, hfA1⟩ := bcell hB1; have HB1 := Lib.hid hb1; clear hb1)))
        go_quiet ((first | (go_at_call 63; exact quiet_left (c_IsJump' _ HJ.out _)) | (go_at_call 64; exact quiet_left (c_IsLanding' _ HL.out _))))
        go_wp2
        go_ret
        exact ⟨by rw [HF.out]; rfl, by repeat' (first | (with_reducible assumption) | (with_reducible exact Below.refl _ _) | (with_reducible refine Below.alloc ?_ ?_ _) | (with_reducible refine Bk.drewN_ ?_ _) | (with_reducible refine Below.drew ?_) | (with_reducible refine Below.setCell ?_ ?_ _) | go_size)⟩
end Go.Proofs.YteenmpjjaheggaaDoor

/- The walk of image.regions. -/
set_option maxRecDepth 100000
set_option maxHeartbeats 8000000
set_option linter.unusedVariables false
namespace Go.Proofs.YteenmpjjaheggaaDoor
open Go.RowKit Bk

/-- The cells of the stack of open procedures: the first one opened stands first. -/
def openCells : List (Int × Int) → List Value
  | [] => []
  | (f, t) :: rest => openCells rest ++ [.int .i64 f, .int .i64 t]
theorem openCells_length (l : List (Int × Int)) : (openCells l).length = l.length * 2 := by
  induction l with
  | nil => rfl
  | cons x l ih => obtain ⟨f, t⟩ := x; simp [openCells, ih]; omega

/-- What the two rows hold behind i rounds. -/
def regF (code : Prg) (i : Nat) (k : Nat) : Value := if k < i then .int .i64 (regionAt code k) else .int .i64 0
def insF (code : Prg) (i : Nat) (k : Nat) : Value := if k < i then .bool (insideAt code k) else .bool false

theorem regF_succ {code : Prg} {i : Nat} {r : Int} (h : regionAt code i = r) (k : Nat) : (if k = i then .int .i64 r else regF code i k) = regF code (i + 1) k := by
  unfold regF
  by_cases h1 : k = i
  · subst h1; simp [h]
  · by_cases h2 : k < i
    · rw [if_neg h1, if_pos h2, if_pos (by omega)]
    · rw [if_neg h1, if_neg h2, if_neg (by omega)]
theorem regF_succ2 {code : Prg} {i : Nat} {r : Int} {x : Value} (h : regionAt code i = r) (k : Nat) : (if k = i then .int .i64 r else if k = i then x else regF code i k) = regF code (i + 1) k := by
  rw [← regF_succ h k]
  by_cases h1 : k = i <;> simp [h1]
theorem insF_succ {code : Prg} {i : Nat} {r : Bool} (h : insideAt code i = r) (k : Nat) : (if k = i then .bool r else insF code i k) = insF code (i + 1) k := by
  unfold insF
  by_cases h1 : k = i
  · subst h1; simp [h]
  · by_cases h2 : k < i
    · rw [if_neg h1, if_pos h2, if_pos (by omega)]
    · rw [if_neg h1, if_neg h2, if_neg (by omega)]

theorem info_int : (Tryd.prog.info? 3).map (fun i => (i.zero, i.size, i.bytes)) = some (some (.int .i64 0), 1, 8) := by kernel_rfl
theorem info_bool : (Tryd.prog.info? 4).map (fun i => (i.zero, i.size, i.bytes)) = some (some (.bool false), 1, 1) := by kernel_rfl
theorem info_link : (Tryd.prog.info? 105).map (fun i => (i.zero, i.size, i.bytes)) = some (some (.agg #[.int .i64 0, .int .i64 0]), 2, 16) := by kernel_rfl

theorem c_regions (b off n cap : Nat) (code : Prg) (w : World) (hn0 : 0 < n) (hmax : n ≤ 65536)
    (hC : Rd w (· < w.heap.size) 5 (some ⟨b, off, none⟩) n (codeCells code)) (hw : CodeWf code) (hTab : TableAt w) :
    Calls Tryd.prog 61 #[.slice (some ⟨b, off, none⟩) n cap] w fun e w' =>
      e = .returned (.tuple #[.slice (some ⟨w.heap.size + 1, 0, none⟩) n n, .slice (some ⟨w.heap.size + 2, 0, none⟩) n n]) ∧
        w'.rowIs (w.heap.size + 1) 3 n (fun k => .int .i64 (regionAt code k)) ∧ w'.rowIs (w.heap.size + 2) 4 n (fun k => .bool (insideAt code k)) ∧ Below w.heap.size w w' := by
  have hn : n = code.length := by have := hC.1; rw [codeCells_length] at this; omega
  have hb : b < w.heap.size := hC.blk (by omega)
  obtain ⟨i0, hi0, hz0, hs0, hb0⟩ := info_parts info_int
  obtain ⟨i1, hi1, hz1, hs1, hb1⟩ := info_parts info_bool
  obtain ⟨i2, li, lz, ls, lb⟩ := info_parts info_link
  have mk0 : ∀ W : World, (Instr.makeSlice 23 (.int .i64 (n : Int)) (.int .i64 (n : Int))).run Tryd.prog W = .ok (.slice (some ⟨W.heap.size, 0, none⟩) n n) (W.alloc (.cells (madeCells #[.int .i64 0] n) 3)) := fun W => by
    have := run_make_rowN (P := Tryd.prog) 23 3 i0 _ Tryd.underlying23 hi0 hz0 .i64 .i64 n n (Nat.le_refl _) (by rw [hb0]; omega) (by omega) W
    rw [hs0, Nat.mul_one] at this; exact this
  have mk1 : ∀ W : World, (Instr.makeSlice 44 (.int .i64 (n : Int)) (.int .i64 (n : Int))).run Tryd.prog W = .ok (.slice (some ⟨W.heap.size, 0, none⟩) n n) (W.alloc (.cells (madeCells #[.bool false] n) 4)) := fun W => by
    have := run_make_rowN (P := Tryd.prog) 44 4 i1 _ Tryd.underlying44 hi1 hz1 .i64 .i64 n n (Nat.le_refl _) (by rw [hb1]; omega) (by omega) W
    rw [hs1, Nat.mul_one] at this; exact this
  have HN := Lib.hid hn; have HC := Lib.hid hC; have HT := Lib.hid hTab
  clear hn hC hTab hi0 hz0 hs0 hb0 hi1 hz1 hs1 hb1
  go_enter Tryd.func61, Tryd.ntmps61
  go_wp2_with fail
  clear mk0 mk1
  go_loopw [7, 22] (fun v7 v22 wr => ∃ i : Nat, i ≤ n ∧ v22 = .int .i64 i ∧ wr.rowIs (w.heap.size + 1) 3 n (regF code i) ∧ wr.rowIs (w.heap.size + 2) 4 n (insF code i) ∧
      wr.ownsRow (w.heap.size + 3) 105 2 v7 (openAt code i).length (openCells (openAt code i)) ∧ wr.cell? ⟨w.heap.size, 0, none⟩ = some (.slice (some ⟨b, off, none⟩) n cap) ∧ wr.cell? ⟨w.heap.size, 1, none⟩ = some (.int .i64 0) ∧ wr.cell? ⟨w.heap.size, 2, none⟩ = some (.int .i64 0) ∧ Below w.heap.size w wr)
    (fun _ i _ => n - (intOf i).toNat)
  case atStart =>
    refine ⟨0, Nat.zero_le _, rfl, ?_, ?_, ⟨rfl, .inl ⟨rfl, rfl⟩⟩, ?_, ?_, ?_, by go_grown⟩
    · have := (World.rowIs_made (w.alloc (.cells #[.slice (some ⟨b, off, none⟩) n cap, .int .i64 0, .int .i64 0] 32)) (.int .i64 0) n 3).alloc (.cells (madeCells #[.bool false] n) 4)
      exact (by simpa using this : World.rowIs _ (w.heap.size + 1) 3 n _).congr (fun k _ => by simp [regF])
    · have := World.rowIs_made ((w.alloc (.cells #[.slice (some ⟨b, off, none⟩) n cap, .int .i64 0, .int .i64 0] 32)).alloc (.cells (madeCells #[.int .i64 0] n) 3)) (.bool false) n 4
      exact (by simpa using this : World.rowIs _ (w.heap.size + 2) 4 n _).congr (fun k _ => by simp [insF])
    · go_simp
    · go_simp
    · go_simp
  case round =>
    obtain ⟨i, hi, rfl, hreg, hins, hown, c0, c1, c2, hB⟩ := hrel
    by_cases hlt : i < n
    · have hbr : b < wr.heap.size := Nat.lt_of_lt_of_le hb hB.size
      obtain ⟨x0, x1, x2, x3, x4⟩ := (HC.out.below hB (fun _ h => h)).insAt (k := i) (HN.out ▸ hlt)
      have hreg' := Lib.hid hreg; have hins' := Lib.hid hins; have hown' := Lib.hid hown
      clear hreg hins hown
      generalize hx : code.getD i default = x at *
      have HX := Lib.hid hx; clear hx
      go_wp2_with fail
      have ci := hins'.out.cell hlt
      have fi := hins'.out.frozen i
      have cr := hreg'.out.cell hlt
      have fr := hreg'.out.frozen i
      have hz2 := hins'.out.lt
      have hz1 := hreg'.out.lt
      have hz0 : w.heap.size < wr.heap.size := by omega
      simp only [insF, regF, Nat.lt_irrefl, if_false] at ci cr
      obtain ⟨p, pok, hp⟩ : ∃ p pok, partner code i = (p, pok) := ⟨_, _, rfl⟩
      have HP := Lib.hid hp; clear hp
      obtain ⟨v32, h32⟩ : ∃ v, (x.op == 32) = v := ⟨_, rfl⟩
      have H32 := Lib.hid h32
      have HS : ∀ l, dropOpen i (openAt code i) = l → openAt code (i + 1) = if pok = true ∧ v32 = true then ((i : Int), p) :: l else l := by
        intro l hl
        rw [openAt_succ, HP.out, HX.out, hl, ← h32]; simp
      have HS := Lib.hid HS
      go_loop [7] (fun v => ∃ l : List (Int × Int), dropOpen i l = dropOpen i (openAt code i) ∧ l.length ≤ 65536 ∧ wr.ownsRow (w.heap.size + 3) 105 2 v l.length (openCells l)) (fun v => sliceLen v)
      case atStart => exact ⟨_, rfl, by have := openAt_length code i; omega, hown'.out⟩
      case round =>
        obtain ⟨l, hl, hlen, ho⟩ := hrel
        rcases l with _ | ⟨⟨f, t⟩, rest⟩
        · have hl' : dropOpen i (openAt code i) = [] := hl.symm
          have HL := Lib.hid (HS.out _ hl')
          have HI := Lib.hid ((insideAt_eq code i).trans (by rw [hl']; rfl : (!(dropOpen i (openAt code i)).isEmpty) = false))
          have HR := Lib.hid (regionAt_eq code i)
          obtain ⟨A, cap', hv⟩ : ∃ A cap', u7 = Value.slice A 0 cap' := by
            rcases ho.2 with ⟨hv, _⟩ | ⟨g, cap', cur, hv, _⟩
            · exact ⟨_, _, hv⟩
            · exact ⟨_, _, hv⟩
          have hOB : ∀ k, (Value.slice A 0 cap').ownBlock = some k → w.heap.size + 3 ≤ k := fun k hk => own_block_ge (hv ▸ ho) hk
          have HO := Lib.hid ho
          clear ho hl hl' hlen
          subst hv
          cases pok <;> cases v32
          case' true.true =>
            go_wp2_with fail
            refine (c_Partner' _ _ _ _ _ _ _ HP.out _ (HC.out.next (by go_grown)) hw (HT.out.next (by go_grown))).mono ?_
            rintro e w1 ⟨rfl, hb1⟩
            have hB1 : Below w.heap.size w w1 := Below.next (by go_grown) hb1
            have R1 : w1.rowIs (w.heap.size + 1) 3 n (regF code i) := rowIs_below ((hreg'.out.setOther (by simp) _).alloc _) hb1 (by simp; omega)
            have I1 : w1.rowIs (w.heap.size + 2) 4 n (fun j => if j = i then .bool false else insF code i j) := rowIs_below ((hins'.out.set i _).alloc _) hb1 (by simp; omega)
            have O1 := own_below ((own_setCell HO.out (by omega)).alloc _) hb1 (Nat.le_refl _)
            obtain ⟨hc1, hf1⟩ := bcell hb1
            have HR1 := Lib.hid R1; have HI1 := Lib.hid I1; have HO1 := Lib.hid O1
            have hzz : w.heap.size + 2 < w1.heap.size := I1.lt
            have hzx : wr.heap.size < w1.heap.size := by have := hb1.size; simp at this; omega
            have hzy : w.heap.size < w1.heap.size := by omega
            clear hb1 R1 I1 O1 hf1
            go_wp2_with (at_builtin; go_loud (refine wpList_append_own _ rfl (.tmp 64) (.tmp 68) 103 rfl (w.heap.size + 3) 105 i2 _ 2 16 Tryd.underlying103 li lz ls lb rfl (by decide) _ _ _ rfl (HO1.out.alloc _) ⟨w1.heap.size, 0, none⟩ 1 1 [.int .i64 i, .int .i64 p] rfl rfl (cell_two_new _ _ _ _) (by simp [Value.oneCell']) (by first | decide | (simp [maxLen]; omega)) (by simp; try omega) (by simp; omega) ?_))
            intro v2 w2 hown2 hg2 _
            have R2 : w2.rowIs (w.heap.size + 1) 3 n (regF code i) := rowIs_grown (HR1.out.alloc _) hg2 (rowIs_own (HR1.out.alloc (.cells #[.int .i64 i, .int .i64 p] 105)) (HO1.out.alloc (.cells #[.int .i64 i, .int .i64 p] 105)) (by decide))
            have I2 := rowIs_grown (HI1.out.alloc _) hg2 (rowIs_own (HI1.out.alloc (.cells #[.int .i64 i, .int .i64 p] 105)) (HO1.out.alloc (.cells #[.int .i64 i, .int .i64 p] 105)) (by decide))
            have hB2 : Below w.heap.size w w2 := Below.trans (by go_grown) (below_grown (B := w.heap.size) hg2 (by simp; omega) (fun k hk => by have := hOB k hk; omega))
            have hbk : w2.heap[w.heap.size]? = (w1.alloc (.cells #[.int .i64 i, .int .i64 p] 105)).heap[w.heap.size]? := hg2.block _ (by simp; omega) (fun e => by have := hOB _ e.symm; omega)
            have k0 : w2.cell? ⟨w.heap.size, 0, none⟩ = some (.slice (some ⟨b, off, none⟩) n cap) := (World.cell?_of_block hbk).trans (by go_simp)
            have k1 : w2.cell? ⟨w.heap.size, 1, none⟩ = some (.int .i64 0) := (World.cell?_of_block hbk).trans (by go_simp)
            have k2 : w2.cell? ⟨w.heap.size, 2, none⟩ = some (.int .i64 0) := (World.cell?_of_block hbk).trans (by go_simp)
            obtain ⟨g2, cap2, hv2, hgg1, hgg2, hgg3, hgg4, hcells2⟩ := own_some hown2 (by omega)
            have hx2 : w2.cell? ⟨g2, 0, none⟩ = some (.int .i64 i) := hcells2 _ _ (by rfl)
            subst hv2
            have cr2 := R2.cell hlt
            have fr2 := R2.frozen i
            simp only [regF, Nat.lt_irrefl, if_false] at cr2
            have HR2 := Lib.hid R2; have HI2 := Lib.hid I2; have HO2 := Lib.hid hown2
            have hne : ¬ g2 = w.heap.size + 1 := by omega
            clear hc1 R2 I2 hown2 hcells2 hg2 hbk
            go_wp2_with fail
            have hI : insideAt code i = false := HI.out
            have e1 : openAt code (i + 1) = [((i : Int), p)] := by rw [HL.out]; simp
            have hR : regionAt code i = i := by rw [HR.out, e1]
            refine ⟨⟨i + 1, by omega, by go_num, ?_, ?_, ?_, ?_, ?_, ?_, by go_grown⟩, by simp [intOf]; omega⟩
            · exact ((HR2.out.set i _).set i _).congr fun k _ => regF_succ2 hR k
            · exact ((HI2.out.setOther (by simp) _).setOther (by simp) _).congr fun k _ => insF_succ hI k
            · rw [e1]; exact own_setCell (own_setCell HO2.out (by omega)) (by omega)
            · go_simp
            · go_simp
            · go_simp
          all_goals
            go_wp2_with fail
            refine (c_Partner' _ _ _ _ _ _ _ HP.out _ (HC.out.next (by go_grown)) hw (HT.out.next (by go_grown))).mono ?_
            rintro e w1 ⟨rfl, hb1⟩
            have hB1 : Below w.heap.size w w1 := Below.next (by go_grown) hb1
            have R1 : w1.rowIs (w.heap.size + 1) 3 n (regF code i) := rowIs_below ((hreg'.out.setOther (by simp) _).alloc _) hb1 (by simp; omega)
            have I1 : w1.rowIs (w.heap.size + 2) 4 n (fun j => if j = i then .bool false else insF code i j) := rowIs_below ((hins'.out.set i _).alloc _) hb1 (by simp; omega)
            have O1 := own_below ((own_setCell HO.out (by omega)).alloc _) hb1 (Nat.le_refl _)
            obtain ⟨hc1, hf1⟩ := bcell hb1
            have HR1 := Lib.hid R1; have HI1 := Lib.hid I1; have HO1 := Lib.hid O1
            have hzz : w.heap.size + 2 < w1.heap.size := I1.lt
            have hzx : wr.heap.size < w1.heap.size := by have := hb1.size; simp at this; omega
            have hzy : w.heap.size < w1.heap.size := by omega
            have cr1 := R1.cell hlt
            have fr1 := R1.frozen i
            simp only [regF, Nat.lt_irrefl, if_false] at cr1
            clear hb1 R1 I1 O1 hf1
            go_wp2_with fail
            have hI : insideAt code i = false := HI.out
            have e1 : openAt code (i + 1) = [] := by rw [HL.out]; simp
            have hR : regionAt code i = -1 := by rw [HR.out, e1]
            refine ⟨⟨i + 1, by omega, by go_num, ?_, ?_, ?_, ?_, ?_, ?_, by go_grown⟩, by simp [intOf]; omega⟩
            · exact (HR1.out.set i _).congr fun k _ => regF_succ hR k
            · exact (HI1.out.setOther (by simp) _).congr fun k _ => insF_succ hI k
            · rw [e1]; exact own_setCell HO1.out (by omega)
            · go_simp
            · go_simp
            · go_simp
        · have hlen' : rest.length + 1 ≤ 65536 := by simpa using hlen
          obtain ⟨g, cap', hv, hg1, hg2, hg3, hg4, hcells⟩ := own_some ho (by simp)
          have hg5 : rest.length + 1 ≤ cap' := by simpa using hg3
          have hg6 : rest.length ≤ cap' := by omega
          have hf : wr.cell? ⟨g, rest.length * 2 + 1, none⟩ = some (.int .i64 t) := hcells _ _ (by simp [openCells, openCells_length])
          have hf0 : wr.cell? ⟨g, rest.length * 2, none⟩ = some (.int .i64 f) := hcells _ _ (by simp [openCells, openCells_length])
          by_cases hti : t < (i : Int)
          · have hl' : dropOpen i rest = dropOpen i (openAt code i) := by rw [← hl]; simp [dropOpen, hti]
            have hpop := ownsRow_pop (openCells_length rest) (hv ▸ ho)
            have HPop := Lib.hid hpop; have HL := Lib.hid hl'; have HCL := Lib.hid hcells
            clear ho hpop hl hl' hcells
            subst hv
            go_wp2_with fail
            exact ⟨⟨rest, HL.out, by omega, HPop.out⟩, by simp [sliceLen]⟩
          · have hl' : dropOpen i (openAt code i) = (f, t) :: rest := by rw [← hl]; simp [dropOpen, hti]
            have HL := Lib.hid (HS.out _ hl')
            have HI := Lib.hid ((insideAt_eq code i).trans (by rw [hl']; rfl : (!(dropOpen i (openAt code i)).isEmpty) = true))
            have HR := Lib.hid (regionAt_eq code i)
            have hOB : ∀ k, (Value.slice (some ⟨g, 0, none⟩) (rest.length + 1) cap').ownBlock = some k → w.heap.size + 3 ≤ k := fun k hk => own_block_ge (hv ▸ ho) hk
            have HO := Lib.hid ho; have HCL := Lib.hid hcells
            clear ho hl hl' hlen hcells
            subst hv
            cases pok <;> cases v32
            case' true.true =>
              go_wp2_with fail
              refine (c_Partner' _ _ _ _ _ _ _ HP.out _ (HC.out.next (by go_grown)) hw (HT.out.next (by go_grown))).mono ?_
              rintro e w1 ⟨rfl, hb1⟩
              have hB1 : Below w.heap.size w w1 := Below.next (by go_grown) hb1
              have R1 : w1.rowIs (w.heap.size + 1) 3 n (regF code i) := rowIs_below ((hreg'.out.setOther (by simp) _).alloc _) hb1 (by simp; omega)
              have I1 : w1.rowIs (w.heap.size + 2) 4 n (fun j => if j = i then .bool true else insF code i j) := rowIs_below ((hins'.out.set i _).alloc _) hb1 (by simp; omega)
              have O1 := own_below ((own_setCell HO.out (by omega)).alloc _) hb1 (Nat.le_refl _)
              obtain ⟨hc1, hf1⟩ := bcell hb1
              have HR1 := Lib.hid R1; have HI1 := Lib.hid I1; have HO1 := Lib.hid O1
              have hzz : w.heap.size + 2 < w1.heap.size := I1.lt
              have hzx : wr.heap.size < w1.heap.size := by have := hb1.size; simp at this; omega
              have hzy : w.heap.size < w1.heap.size := by omega
              clear hb1 R1 I1 O1 hf1
              go_wp2_with (at_builtin; go_loud (refine wpList_append_own _ rfl (.tmp 64) (.tmp 68) 103 rfl (w.heap.size + 3) 105 i2 _ 2 16 Tryd.underlying103 li lz ls lb rfl (by decide) _ _ _ rfl (HO1.out.alloc _) ⟨w1.heap.size, 0, none⟩ 1 1 [.int .i64 i, .int .i64 p] rfl rfl (cell_two_new _ _ _ _) (by simp [Value.oneCell']) (by first | decide | (simp [maxLen]; omega)) (by simp; try omega) (by simp; omega) ?_))
              intro v2 w2 hown2 hg2 _
              have R2 : w2.rowIs (w.heap.size + 1) 3 n (regF code i) := rowIs_grown (HR1.out.alloc _) hg2 (rowIs_own (HR1.out.alloc (.cells #[.int .i64 i, .int .i64 p] 105)) (HO1.out.alloc (.cells #[.int .i64 i, .int .i64 p] 105)) (by decide))
              have I2 := rowIs_grown (HI1.out.alloc _) hg2 (rowIs_own (HI1.out.alloc (.cells #[.int .i64 i, .int .i64 p] 105)) (HO1.out.alloc (.cells #[.int .i64 i, .int .i64 p] 105)) (by decide))
              have hB2 : Below w.heap.size w w2 := Below.trans (by go_grown) (below_grown (B := w.heap.size) hg2 (by simp; omega) (fun k hk => by have := hOB k hk; omega))
              have hbk : w2.heap[w.heap.size]? = (w1.alloc (.cells #[.int .i64 i, .int .i64 p] 105)).heap[w.heap.size]? := hg2.block _ (by simp; omega) (fun e => by have := hOB _ e.symm; omega)
              have k0 : w2.cell? ⟨w.heap.size, 0, none⟩ = some (.slice (some ⟨b, off, none⟩) n cap) := (World.cell?_of_block hbk).trans (by go_simp)
              have k1 : w2.cell? ⟨w.heap.size, 1, none⟩ = some (.int .i64 0) := (World.cell?_of_block hbk).trans (by go_simp)
              have k2 : w2.cell? ⟨w.heap.size, 2, none⟩ = some (.int .i64 0) := (World.cell?_of_block hbk).trans (by go_simp)
              obtain ⟨g2, cap2, hv2, hgg1, hgg2, hgg3, hgg4, hcells2⟩ := own_some hown2 (by omega)
              have hx2 : w2.cell? ⟨g2, (rest.length + 1) * 2, none⟩ = some (.int .i64 i) := hcells2 _ _ (by rw [List.getElem?_append_right (by rw [openCells_length]; exact Nat.le_refl _), openCells_length]; simp)
              subst hv2
              have cr2 := R2.cell hlt
              have fr2 := R2.frozen i
              simp only [regF, Nat.lt_irrefl, if_false] at cr2
              have HR2 := Lib.hid R2; have HI2 := Lib.hid I2; have HO2 := Lib.hid hown2
              have hne : ¬ g2 = w.heap.size + 1 := by omega
              clear hc1 R2 I2 hown2 hcells2 hg2 hbk
              go_wp2_with fail
              have hI : insideAt code i = true := HI.out
              have e1 : openAt code (i + 1) = ((i : Int), p) :: (f, t) :: rest := by rw [HL.out]; simp
              have hR : regionAt code i = i := by rw [HR.out, e1]
              refine ⟨⟨i + 1, by omega, by go_num, ?_, ?_, ?_, ?_, ?_, ?_, by go_grown⟩, by simp [intOf]; omega⟩
              · exact ((HR2.out.set i _).set i _).congr fun k _ => regF_succ2 hR k
              · exact ((HI2.out.setOther (by simp) _).setOther (by simp) _).congr fun k _ => insF_succ hI k
              · rw [e1]; exact own_setCell (own_setCell HO2.out (by omega)) (by omega)
              · go_simp
              · go_simp
              · go_simp
            all_goals
              go_wp2_with fail
              refine (c_Partner' _ _ _ _ _ _ _ HP.out _ (HC.out.next (by go_grown)) hw (HT.out.next (by go_grown))).mono ?_
              rintro e w1 ⟨rfl, hb1⟩
              have hB1 : Below w.heap.size w w1 := Below.next (by go_grown) hb1
              have R1 : w1.rowIs (w.heap.size + 1) 3 n (regF code i) := rowIs_below ((hreg'.out.setOther (by simp) _).alloc _) hb1 (by simp; omega)
              have I1 : w1.rowIs (w.heap.size + 2) 4 n (fun j => if j = i then .bool true else insF code i j) := rowIs_below ((hins'.out.set i _).alloc _) hb1 (by simp; omega)
              have O1 := own_below ((own_setCell HO.out (by omega)).alloc _) hb1 (Nat.le_refl _)
              obtain ⟨hc1, hf1⟩ := bcell hb1
              have HR1 := Lib.hid R1; have HI1 := Lib.hid I1; have HO1 := Lib.hid O1
              have hzz : w.heap.size + 2 < w1.heap.size := I1.lt
              have hzx : wr.heap.size < w1.heap.size := by have := hb1.size; simp at this; omega
              have hzy : w.heap.size < w1.heap.size := by omega
              have cr1 := R1.cell hlt
              have fr1 := R1.frozen i
              simp only [regF, Nat.lt_irrefl, if_false] at cr1
              clear hb1 R1 I1 O1 hf1
              go_wp2_with fail
              have hI : insideAt code i = true := HI.out
              have e1 : openAt code (i + 1) = (f, t) :: rest := by rw [HL.out]; simp
              have hR : regionAt code i = f := by rw [HR.out, e1]
              refine ⟨⟨i + 1, by omega, by go_num, ?_, ?_, ?_, ?_, ?_, ?_, by go_grown⟩, by simp [intOf]; omega⟩
              · exact ((HR1.out.set i _).set i _).congr fun k _ => regF_succ2 hR k
              · exact ((HI1.out.setOther (by simp) _).setOther (by simp) _).congr fun k _ => insF_succ hI k
              · rw [e1]; exact own_setCell (own_setCell HO1.out (by omega)) (by omega)
              · go_simp
              · go_simp
              · go_simp
    · obtain rfl : i = n := by omega
      go_wp2_with fail
      go_ret2
      exact ⟨rfl, hreg.congr (fun k hk => by simp [regF, hk]), hins.congr (fun k hk => by simp [insF, hk]), hB⟩

theorem c_regions0 (A : Option Addr) (cap : Nat) (code : Prg) (w : World) :
    Calls Tryd.prog 61 #[.slice A 0 cap] w fun e w' =>
      e = .returned (.tuple #[.slice (some ⟨w.heap.size + 1, 0, none⟩) 0 0, .slice (some ⟨w.heap.size + 2, 0, none⟩) 0 0]) ∧ Below w.heap.size w w' := by
  obtain ⟨i0, hi0, hz0, hs0, hb0⟩ := info_parts info_int
  obtain ⟨i1, hi1, hz1, hs1, hb1⟩ := info_parts info_bool
  have mk0 : ∀ W : World, (Instr.makeSlice 23 (.int .i64 0) (.int .i64 0)).run Tryd.prog W = .ok (.slice (some ⟨W.heap.size, 0, none⟩) 0 0) (W.alloc (.cells (madeCells #[.int .i64 0] 0) 3)) := fun W => by
    have := run_make_rowN (P := Tryd.prog) 23 3 i0 _ Tryd.underlying23 hi0 hz0 .i64 .i64 0 0 (Nat.le_refl _) (by omega) (by omega) W
    rw [hs0, Nat.mul_one] at this; exact this
  have mk1 : ∀ W : World, (Instr.makeSlice 44 (.int .i64 0) (.int .i64 0)).run Tryd.prog W = .ok (.slice (some ⟨W.heap.size, 0, none⟩) 0 0) (W.alloc (.cells (madeCells #[.bool false] 0) 4)) := fun W => by
    have := run_make_rowN (P := Tryd.prog) 44 4 i1 _ Tryd.underlying44 hi1 hz1 .i64 .i64 0 0 (Nat.le_refl _) (by omega) (by omega) W
    rw [hs1, Nat.mul_one] at this; exact this
  clear hi0 hz0 hs0 hb0 hi1 hz1 hs1 hb1
  go_enter Tryd.func61, Tryd.ntmps61
  go_wp2_with fail
  go_rounds 1
  go_ret2
  exact ⟨by simp, by go_grown⟩
end Go.Proofs.YteenmpjjaheggaaDoor

/- The walk of image.Check and image.Valid. -/
set_option maxRecDepth 100000
set_option maxHeartbeats 8000000
set_option linter.unusedVariables false
namespace Go.Proofs.YteenmpjjaheggaaDoor
open Go.RowKit Bk

theorem rowRd {w : World} {D : Nat → Prop} {g n : Nat} {t : TypeId} {f : Nat → Value} (h : w.rowIs g t n f) (hD : D g) : Rd w D 1 (some ⟨g, 0, none⟩) n ((List.range n).map f) := by
  refine ⟨by simp, fun hn => ⟨g, 0, rfl, hD, fun j u hu => ?_⟩⟩
  have hj : j < n := by
    rcases Nat.lt_or_ge j n with hlt | hge
    · exact hlt
    · rw [List.getElem?_eq_none (by simpa using hge)] at hu; cases hu
  rw [List.getElem?_map, List.getElem?_range hj] at hu
  rw [Nat.zero_add, h.cell hj]
  exact hu

theorem Check.sizes (A : Option Addr) (n cap : Nat) (mem st : Int) (w : World)
    (h : 65536 < n ∨ mem < 0 ∨ 16384 < mem ∨ st < 1 ∨ 16384 < st) :
    Calls Tryd.prog 43 #[.agg #[.slice A n cap, .int .i64 mem, .int .i64 st]] w fun e w' =>
      e = .returned (.tuple #[.int .i64 (-1), .int .i64 2]) ∧ Below w.heap.size w w' := by
  by_cases h1 : 65536 < n
  · go_enter Tryd.func43, Tryd.ntmps43
    go_wp2_with fail
    go_ret2
    exact ⟨rfl, by go_grown⟩
  by_cases h2 : mem < 0
  · have h1' : n ≤ 65536 := by omega
    clear h
    go_enter Tryd.func43, Tryd.ntmps43
    go_wp2_with fail
    go_ret2
    exact ⟨rfl, by go_grown⟩
  by_cases h3 : 16384 < mem
  · have h1' : n ≤ 65536 := by omega
    have h2' : 0 ≤ mem := by omega
    clear h
    go_enter Tryd.func43, Tryd.ntmps43
    go_wp2_with fail
    go_ret2
    exact ⟨rfl, by go_grown⟩
  by_cases h4 : st < 1
  · have h1' : n ≤ 65536 := by omega
    have h2' : 0 ≤ mem := by omega
    have h3' : mem ≤ 16384 := by omega
    clear h
    go_enter Tryd.func43, Tryd.ntmps43
    go_wp2_with fail
    go_ret2
    exact ⟨rfl, by go_grown⟩
  · have h1' : n ≤ 65536 := by omega
    have h2' : 0 ≤ mem := by omega
    have h3' : mem ≤ 16384 := by omega
    have h4' : 1 ≤ st := by omega
    have h5' : 16384 < st := by omega
    clear h
    go_enter Tryd.func43, Tryd.ntmps43
    go_wp2_with fail
    go_ret2
    exact ⟨rfl, by go_grown⟩

theorem Check.some_ (b off n cap : Nat) (mem st : Int) (code : Prg) (w : World) (hn0 : 0 < n) (h1 : n ≤ 65536) (h2 : 0 ≤ mem) (h3 : mem ≤ 16384) (h4 : 1 ≤ st) (h5 : st ≤ 16384)
    (hC : Rd w (· < w.heap.size) 5 (some ⟨b, off, none⟩) n (codeCells code)) (hw : CodeWf code) (hTab : TableAt w) :
    Calls Tryd.prog 43 #[.agg #[.slice (some ⟨b, off, none⟩) n cap, .int .i64 mem, .int .i64 st]] w fun e w' =>
      e = .returned (.tuple #[.int .i64 (checkFrom code n 0).1, .int .i64 (checkFrom code n 0).2]) ∧ Below w.heap.size w w' := by
  have hb : b < w.heap.size := hC.blk (by omega)
  have HC := Lib.hid hC; have HT := Lib.hid hTab
  clear hC hTab
  go_enter Tryd.func43, Tryd.ntmps43
  go_wp2_with fail
  refine (c_regions b off n cap code _ hn0 h1 (HC.out.next (by go_grown)) hw (HT.out.next (by go_grown))).mono ?_
  rintro e w1 ⟨rfl, hR, hI, hb1⟩
  have hB1 : Below w.heap.size w w1 := Below.next (by go_grown) hb1
  obtain ⟨hc1, hf1⟩ := bcell hb1
  simp only [World.size_alloc] at hR hI
  have HR := Lib.hid hR; have HI := Lib.hid hI
  have c0 : w1.cell? ⟨w.heap.size, 0, none⟩ = some (.slice (some ⟨b, off, none⟩) n cap) := by go_simp
  have hzz := hI.lt
  clear hb1 hR hI hc1 hf1
  go_wp2_with fail
  go_loopw [41] (fun v41 wr => ∃ i : Nat, i ≤ n ∧ v41 = .int .i64 i ∧ (∀ k, k < i → fault code k = 0) ∧ Below w1.heap.size w1 wr) (fun i _ => n - (intOf i).toNat)
  case atStart => exact ⟨0, Nat.zero_le _, rfl, fun k hk => absurd hk (Nat.not_lt_zero _), Below.refl _ _⟩
  case round =>
    obtain ⟨i, hi, rfl, hz, hBr⟩ := hrel
    have hBr' : Below w.heap.size w wr := Below.next hB1 hBr
    obtain ⟨hcr, hfr⟩ := bcell hBr
    have HZ := Lib.hid hz; clear hz
    have hz0 : w.heap.size < w1.heap.size := by omega
    have cr0 : wr.cell? ⟨w.heap.size, 0, none⟩ = some (.slice (some ⟨b, off, none⟩) n cap) := (hcr _ _ hz0).trans c0
    by_cases hlt : i < n
    · have ci : w1.cell? ⟨w.heap.size + 1 + 2, i, none⟩ = some (.bool (insideAt code i)) := HI.out.cell hlt
      obtain ⟨ins, hin⟩ : ∃ v, insideAt code i = v := ⟨_, rfl⟩
      rw [hin] at ci
      have HIN := Lib.hid hin; clear hin
      have hR2 := rowRd (rowIs_below HR.out hBr (by have := HR.out.lt; exact this)) (D := (· < wr.heap.size)) (by have := HR.out.lt; have := hBr.size; omega)
      have HR2 := Lib.hid hR2; clear hR2
      go_wp2_with fail
      refine wp_region_still_tail 8 (by kernel_rfl) (by kernel_rfl) ?_
      simp only [List.take_succ_cons, List.take_zero, List.drop_succ_cons, List.drop_zero]
      change wpStill _ _ wr.drew _ _ _
      repeat still_step
      refine wpStill_nil ?_
      go_wp2_with fail
      refine (c_fault b off n cap i _ 0 n code ins wr.drew hlt (HC.out.next (by go_grown)) hw (HT.out.next (by go_grown)) HR2.out HIN.out).mono ?_
      rintro e w2 ⟨rfl, hb2⟩
      have hB2 : Below w1.heap.size w1 w2 := Below.next (by go_grown) hb2
      obtain ⟨fa, hfa⟩ : ∃ v, fault code i = v := ⟨_, rfl⟩
      rw [hfa]
      have HFA := Lib.hid hfa; clear hfa hb2
      by_cases hf0 : fa = 0
      · subst hf0
        go_wp2_with fail
        exact ⟨⟨i + 1, by omega, by go_num, fun k hk => (Nat.lt_succ_iff_lt_or_eq.1 hk).elim (HZ.out k) (fun e => e ▸ HFA.out), hB2⟩, by simp [intOf]; omega⟩
      · have hf0' : (fa != 0) = true := by simpa using hf0
        go_wp2_with fail
        go_ret2
        exact ⟨by rw [checkFrom_at code n i hlt HZ.out (by rw [HFA.out]; exact hf0), HFA.out]; rfl, Below.next hB1 hB2⟩
    · obtain rfl : i = n := by omega
      go_wp2_with fail
      go_ret2
      exact ⟨by rw [checkFrom_all code i HZ.out]; rfl, hBr'⟩

theorem Check.none_ (A : Option Addr) (cap : Nat) (mem st : Int) (code : Prg) (w : World) (h2 : 0 ≤ mem) (h3 : mem ≤ 16384) (h4 : 1 ≤ st) (h5 : st ≤ 16384) :
    Calls Tryd.prog 43 #[.agg #[.slice A 0 cap, .int .i64 mem, .int .i64 st]] w fun e w' =>
      e = .returned (.tuple #[.int .i64 (-1), .int .i64 0]) ∧ Below w.heap.size w w' := by
  go_enter Tryd.func43, Tryd.ntmps43
  go_wp2_with fail
  refine (c_regions0 A cap code _).mono ?_
  rintro e w1 ⟨rfl, hb1⟩
  have hB1 : Below w.heap.size w w1 := Below.next (by go_grown) hb1
  obtain ⟨hc1, hf1⟩ := bcell hb1
  have c0 : w1.cell? ⟨w.heap.size, 0, none⟩ = some (.slice A 0 cap) := by go_simp
  clear hb1 hc1 hf1
  go_wp2_with fail
  go_rounds 1
  go_ret2
  exact ⟨rfl, hB1⟩

/-- image.Check. -/
theorem c_Check (A : Option Addr) (n cap : Nat) (im : Img) (w : World) (hC : Rd w (· < w.heap.size) 5 A n (codeCells im.code)) (hw : CodeWf im.code) (hTab : TableAt w) :
    Calls Tryd.prog 43 #[.agg #[.slice A n cap, .int .i64 im.mem, .int .i64 im.stacks]] w fun e w' =>
      e = .returned (.tuple #[.int .i64 im.check.1, .int .i64 im.check.2]) ∧ Below w.heap.size w w' := by
  have hn : n = im.code.length := by have := hC.1; rw [codeCells_length] at this; omega
  by_cases hs : im.sized = true
  · have hs' := hs
    simp only [Img.sized, Bool.and_eq_true, decide_eq_true_eq] at hs'
    obtain ⟨⟨h1, h2, h3⟩, h4, h5⟩ := hs'
    have e : im.check = checkFrom im.code n 0 := by unfold Img.check; rw [if_pos hs, hn]
    rw [e]
    rcases Nat.eq_zero_or_pos n with h0 | h0
    · subst h0
      exact Check.none_ A cap im.mem im.stacks im.code w h2 h3 h4 h5
    · obtain ⟨b, off, rfl, _, _⟩ := hC.2 h0
      exact Check.some_ b off n cap im.mem im.stacks im.code w h0 (by omega) h2 h3 h4 h5 hC hw hTab
  · have e : im.check = (-1, 2) := by unfold Img.check; rw [if_neg hs]
    rw [e]
    refine Check.sizes A n cap im.mem im.stacks w ?_
    simp only [Img.sized, Bool.and_eq_true, decide_eq_true_eq] at hs
    omega

theorem c_Check' (A : Option Addr) (n cap : Nat) (im : Img) {i e : Int} (h : im.check = (i, e)) (w : World) (hC : Rd w (· < w.heap.size) 5 A n (codeCells im.code)) (hw : CodeWf im.code) (hTab : TableAt w) :
    Calls Tryd.prog 43 #[.agg #[.slice A n cap, .int .i64 im.mem, .int .i64 im.stacks]] w fun e' w' =>
      e' = .returned (.tuple #[.int .i64 i, .int .i64 e]) ∧ Below w.heap.size w w' := by
  have := c_Check A n cap im w hC hw hTab
  rw [h] at this; exact this

/-- image.Valid. -/
theorem c_imValid (A : Option Addr) (n cap : Nat) (im : Img) (w : World) (hC : Rd w (· < w.heap.size) 5 A n (codeCells im.code)) (hw : CodeWf im.code) (hTab : TableAt w) :
    Calls Tryd.prog 49 #[.agg #[.slice A n cap, .int .i64 im.mem, .int .i64 im.stacks]] w fun e w' =>
      e = .returned (.bool im.valid) ∧ Below w.heap.size w w' := by
  obtain ⟨⟨i, e⟩, hck⟩ : ∃ x, im.check = x := ⟨_, rfl⟩
  have hv : im.valid = decide (e = 0) := by simp [Img.valid, hck]
  rw [hv]
  have HCK := Lib.hid hck; have HC := Lib.hid hC; have HT := Lib.hid hTab; clear hck hC hTab hv
  go_enter Tryd.func49, Tryd.ntmps49
  go_wp2_with (go_at_call 43; ((with_reducible refine (c_Check' _ _ _ im HCK.out _ (HC.out.next (by go_grown)) hw (HT.out.next (by go_grown))).mono ?_); rintro e w1 ⟨rfl, hb1⟩; (try (have hs0 : w.heap.size < w1.heap.size := (by have := hb1.size; (try simp at this); omega))); (try (have hs1 : w.heap.size + 1 < w1.heap.size := (by have := hb1.size; (try simp at this); omega))); have hB1 : Below w.heap.size w w1 := Below.next (by go_grown) hb1; obtain ⟨hc1, hf1⟩ := bcell hb1; obtain ⟨hcA1, hfA1⟩ := bcell hB1; have HB1 := Lib.hid hb1; clear hb1))
  go_ret
  exact ⟨ret_bool (by by_cases h : e = 0 <;> simp [h]), by go_grown⟩

theorem c_imValid' (A : Option Addr) (n cap : Nat) (im : Img) {v : Bool} (h : im.valid = v) (w : World) (hC : Rd w (· < w.heap.size) 5 A n (codeCells im.code)) (hw : CodeWf im.code) (hTab : TableAt w) :
    Calls Tryd.prog 49 #[.agg #[.slice A n cap, .int .i64 im.mem, .int .i64 im.stacks]] w fun e w' =>
      e = .returned (.bool v) ∧ Below w.heap.size w w' := by
  have := c_imValid A n cap im w hC hw hTab
  rw [h] at this; exact this
end Go.Proofs.YteenmpjjaheggaaDoor
