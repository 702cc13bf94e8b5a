/- Several texts in one: Cancels Keep. -/
import Derived.Test.YteenmpjjaheggaaDoorZPartner
import Derived.Test.YteenmpjjaheggaaDoorPp
set_option linter.unusedVariables false
set_option linter.unusedSimpArgs false
/- The walks of peephole.Cancels and of the reference's. -/
set_option maxRecDepth 100000
set_option maxHeartbeats 8000000
set_option linter.unusedVariables false
set_option linter.unusedSimpArgs false
namespace Go.Proofs.YteenmpjjaheggaaDoor
open Go.RowKit Bk

theorem eql_ins (W : World) (op a b c d op' a' b' c' d' : Int) :
    (binOp .eql 68 (.agg #[.int .u8 op, .int .i64 a, .int .i64 b, .int .i64 c, .int .i64 d]) (.agg #[.int .u8 op', .int .i64 a', .int .i64 b', .int .i64 c', .int .i64 d'])).run Tryd.prog W =
      .ok (.bool (decide ((⟨op, a, b, c, d⟩ : Ins) = ⟨op', a', b', c', d'⟩))) W := by
  by_cases e0 : op = op'
  · by_cases e1 : a = a'
    · by_cases e2 : b = b'
      · by_cases e3 : c = c'
        · by_cases e4 : d = d'
          · simp [go_sem, e0, e1, e2, e3, e4]
          · simp [go_sem, e0, e1, e2, e3, e4]
        · simp [go_sem, e0, e1, e2, e3]
      · simp [go_sem, e0, e1, e2]
    · simp [go_sem, e0, e1]
  · simp [go_sem, e0]

theorem c_Cancels (op a b c d op' a' b' c' d' : Int) (h0 : 0 ≤ op) (h1 : op ≤ 255) (w : World) (hTab : TableAt w) :
    Calls Tryd.prog 48 #[.agg #[.int .u8 op, .int .i64 a, .int .i64 b, .int .i64 c, .int .i64 d], .agg #[.int .u8 op', .int .i64 a', .int .i64 b', .int .i64 c', .int .i64 d']] w fun e w' =>
      e = .returned (.bool (cancels ⟨op, a, b, c, d⟩ ⟨op', a', b', c', d'⟩)) ∧ Below w.heap.size w w' := by
  obtain ⟨vv, hvv⟩ : ∃ v, validB op a b c d = v := ⟨_, rfl⟩
  obtain ⟨vc, hvc⟩ : ∃ v, ctlB op = v := ⟨_, rfl⟩
  have hval : cancels ⟨op, a, b, c, d⟩ ⟨op', a', b', c', d'⟩ = (vv && (!vc && decide ((⟨rinv op, a, b, c, d⟩ : Ins) = ⟨op', a', b', c', d'⟩))) := by
    show (validB op a b c d && _) = _
    rw [hvv]; simp only [hvc]
  have HV := Lib.hid hvv; have HVal := Lib.hid hval; have HT := Lib.hid hTab
  have hj : jumpB op = decide (op = 22 ∨ op = 23 ∨ op = 24) := rfl
  cases vc with
  | true =>
    have h := of_decide_eq_true hvc
    have hfin : cancels ⟨op, a, b, c, d⟩ ⟨op', a', b', c', d'⟩ = false := by rw [hval]; simp
    have HF := Lib.hid hfin
    clear hvv hval hvc hTab hj hfin HVal
    by_cases hs : op = 0 ∨ op = 21 ∨ op = 30 ∨ op = 31 ∨ op = 32 ∨ op = 33 ∨ op = 34
    · clear h h0 h1
      rcases hs with rfl | rfl | rfl | rfl | rfl | rfl | rfl
      all_goals
        go_enter Tryd.func48, Tryd.ntmps48
        go_wp2_with fail
        go_ret
        exact ⟨ret_bool HF.out.symm, by go_grown⟩
    · obtain ⟨jv, hj⟩ : ∃ v, jumpB op = v := ⟨_, rfl⟩
      obtain ⟨lv, hl⟩ : ∃ v, landB op = v := ⟨_, rfl⟩
      have hcase : jv = true ∨ (jv = false ∧ lv = true) ∨ (jv = false ∧ lv = false ∧ vv = false) := by
        subst hj; subst hl
        have hvv := HV.out
        by_cases h35 : op < 35
        · have : (op = 22 ∨ op = 23 ∨ op = 24) ∨ (op = 25 ∨ op = 26 ∨ op = 27) := by omega
          rcases this with e | e
          · exact .inl (by simp [jumpB, e])
          · refine .inr (.inl ⟨?_, by simp [landB, e]⟩)
            simp [jumpB]; omega
        · refine .inr (.inr ⟨by simp [jumpB]; omega, by simp [landB]; omega, ?_⟩)
          rw [← hvv]; simp [validB, h35]
      have HJ := Lib.hid hj; have HL := Lib.hid hl
      have n0 : (op == 30) = false := by simp; omega
      have n1 : (op == 31) = false := by simp; omega
      have n2 : (op == 32) = false := by simp; omega
      have n3 : (op == 33) = false := by simp; omega
      have n4 : (op == 34) = false := by simp; omega
      have n5 : (op == 21) = false := by simp; omega
      have n6 : (op == 0) = false := by simp; omega
      clear hj hl h hs
      rcases hcase with rfl | ⟨rfl, rfl⟩ | ⟨rfl, rfl, rfl⟩
      all_goals
        go_enter Tryd.func48, Tryd.ntmps48
        go_wp2_with (first | (go_at_call 63; ((with_reducible refine (c_IsJump' _ HJ.out _).mono ?_); rintro e w' ⟨rfl, rfl⟩)) | (go_at_call 64; ((with_reducible refine (c_IsLanding' _ HL.out _).mono ?_); rintro e w' ⟨rfl, rfl⟩)))
      · go_ret
        exact ⟨ret_bool HF.out.symm, by go_grown⟩
      · go_ret
        exact ⟨ret_bool HF.out.symm, by go_grown⟩
      · go_region_with (go_at_call 65; ((with_reducible refine (c_Valid' _ _ _ _ _ HV.out h0 _ (HT.out.next (by go_grown))).mono ?_); rintro e w1 ⟨rfl, hb1⟩; (try (have hs0 : w.heap.size < w1.heap.size := (by have := hb1.size; (try simp at this); omega))); (try (have hs1 : w.heap.size + 1 < w1.heap.size := (by have := hb1.size; (try simp at this); omega))); have hB1 : Below w.heap.size w w1 := Below.next (by go_grown) hb1; obtain ⟨hc1, hf1⟩ := bcell hb1; obtain ⟨hcA1, hfA1⟩ := bcell hB1; have HB1 := Lib.hid hb1; clear hb1))
        all_goals go_wp2_with fail
        all_goals go_ret
        all_goals exact ⟨ret_bool HF.out.symm, by go_grown⟩
  | false =>
    have h := of_decide_eq_false hvc
    have hj : jumpB op = false := by simp [jumpB]; omega
    have hl : landB op = false := by simp [landB]; omega
    have hri := rinv_eq op hvc
    have HRI := Lib.hid hri
    have HJ := Lib.hid hj; have HL := Lib.hid hl
    have n0 : (op == 30) = false := by simp; omega
    have n1 : (op == 31) = false := by simp; omega
    have n2 : (op == 32) = false := by simp; omega
    have n3 : (op == 33) = false := by simp; omega
    have n4 : (op == 34) = false := by simp; omega
    have n5 : (op == 21) = false := by simp; omega
    have n6 : (op == 0) = false := by simp; omega
    clear hvv hval hvc hTab hj hl h hri
    cases vv with
    | false =>
      go_enter Tryd.func48, Tryd.ntmps48
      go_wp2_with (first | (go_at_call 63; ((with_reducible refine (c_IsJump' _ HJ.out _).mono ?_); rintro e w' ⟨rfl, rfl⟩)) | (go_at_call 64; ((with_reducible refine (c_IsLanding' _ HL.out _).mono ?_); rintro e w' ⟨rfl, rfl⟩)))
      go_region_with (go_at_call 65; ((with_reducible refine (c_Valid' _ _ _ _ _ HV.out h0 _ (HT.out.next (by go_grown))).mono ?_); rintro e w1 ⟨rfl, hb1⟩; (try (have hs0 : w.heap.size < w1.heap.size := (by have := hb1.size; (try simp at this); omega))); (try (have hs1 : w.heap.size + 1 < w1.heap.size := (by have := hb1.size; (try simp at this); omega))); have hB1 : Below w.heap.size w w1 := Below.next (by go_grown) hb1; obtain ⟨hc1, hf1⟩ := bcell hb1; obtain ⟨hcA1, hfA1⟩ := bcell hB1; have HB1 := Lib.hid hb1; clear hb1))
      all_goals go_wp2_with fail
      all_goals go_ret
      all_goals exact ⟨ret_bool (by rw [HVal.out]; rfl), by go_grown⟩
    | true =>
      go_enter Tryd.func48, Tryd.ntmps48
      go_wp2_with (first | (go_at_call 63; ((with_reducible refine (c_IsJump' _ HJ.out _).mono ?_); rintro e w' ⟨rfl, rfl⟩)) | (go_at_call 64; ((with_reducible refine (c_IsLanding' _ HL.out _).mono ?_); rintro e w' ⟨rfl, rfl⟩)))
      have heq := fun W => eql_ins W op' a' b' c' d' (inv op) a b c d
      go_region_held3 (fun w' => w'.cell? ⟨w.heap.size, 0, none⟩ = some (.int .u8 op) ∧ w'.cell? ⟨w.heap.size, 1, none⟩ = some (.int .i64 a) ∧ w'.cell? ⟨w.heap.size, 2, none⟩ = some (.int .i64 b) ∧ w'.cell? ⟨w.heap.size, 3, none⟩ = some (.int .i64 c) ∧ w'.cell? ⟨w.heap.size, 4, none⟩ = some (.int .i64 d) ∧ w'.cell? ⟨w.heap.size + 1, 0, none⟩ = some (.int .u8 op') ∧ w'.cell? ⟨w.heap.size + 1, 1, none⟩ = some (.int .i64 a') ∧ w'.cell? ⟨w.heap.size + 1, 2, none⟩ = some (.int .i64 b') ∧ w'.cell? ⟨w.heap.size + 1, 3, none⟩ = some (.int .i64 c') ∧ w'.cell? ⟨w.heap.size + 1, 4, none⟩ = some (.int .i64 d')) (go_simp) (first | (go_at_call 65; ((with_reducible refine (c_Valid' _ _ _ _ _ HV.out h0 _ (HT.out.next (by go_grown))).mono ?_); rintro e w1 ⟨rfl, hb1⟩; (try (have hs0 : w.heap.size < w1.heap.size := (by have := hb1.size; (try simp at this); omega))); (try (have hs1 : w.heap.size + 1 < w1.heap.size := (by have := hb1.size; (try simp at this); omega))); have hB1 : Below w.heap.size w w1 := Below.next (by go_grown) hb1; obtain ⟨hc1, hf1⟩ := bcell hb1; obtain ⟨hcA1, hfA1⟩ := bcell hB1; have HB1 := Lib.hid hb1; clear hb1)) | (go_at_call 66; ((with_reducible refine (c_Inverse _ _ _ _ _ h0 h1 _).mono ?_); rintro e w1 ⟨rfl, hb1⟩; (try (have hs0 : w.heap.size < w1.heap.size := (by have := hb1.size; (try simp at this); omega))); (try (have hs1 : w.heap.size + 1 < w1.heap.size := (by have := hb1.size; (try simp at this); omega))); have hB1 : Below w.heap.size w w1 := Below.next (by go_grown) hb1; obtain ⟨hc1, hf1⟩ := bcell hb1; obtain ⟨hcA1, hfA1⟩ := bcell hB1; have HB1 := Lib.hid hb1; clear hb1)))
      all_goals go_wp2_with fail
      all_goals go_ret
      all_goals exact ⟨ret_bool (by rw [HVal.out, HRI.out]; simp [eq_comm]), by go_grown⟩
end Go.Proofs.YteenmpjjaheggaaDoor

/- The walk of peephole.keep. -/
set_option maxRecDepth 100000
set_option maxHeartbeats 8000000
set_option linter.unusedVariables false
namespace Go.Proofs.YteenmpjjaheggaaDoor
open Go.RowKit Bk

theorem info_int' : (Tryd.prog.info? 3).map (fun i => (i.zero, i.size, i.bytes)) = some (some (.int .i64 0), 1, 8) := by kernel_rfl

/-- The cells of the kept indices: the first one kept stands first. -/
def natCells (l : List Nat) : List Value := (l.reverse).map fun (k : Nat) => Value.int .i64 (k : Int)
theorem natCells_length (l : List Nat) : (natCells l).length = l.length := by simp [natCells]
theorem natCells_cons (k : Nat) (l : List Nat) : natCells (k :: l) = natCells l ++ [.int .i64 k] := by simp [natCells]

theorem c_Cancels' (op a b c d op' a' b' c' d' : Int) {v : Bool} (h : cancels ⟨op, a, b, c, d⟩ ⟨op', a', b', c', d'⟩ = v) (h0 : 0 ≤ op) (h1 : op ≤ 255) (w : World) (hTab : TableAt w) :
    Calls Tryd.prog 48 #[.agg #[.int .u8 op, .int .i64 a, .int .i64 b, .int .i64 c, .int .i64 d], .agg #[.int .u8 op', .int .i64 a', .int .i64 b', .int .i64 c', .int .i64 d']] w fun e w' =>
      e = .returned (.bool v) ∧ Below w.heap.size w w' := by
  rw [← h]; exact c_Cancels op a b c d op' a' b' c' d' h0 h1 w hTab

theorem c_keep (b off n cap : Nat) (code : Prg) (w : World) (hn0 : 0 < n) (hmax : n ≤ 65536)
    (hC : Rd w (· < w.heap.size) 5 (some ⟨b, off, none⟩) n (codeCells code)) (hw : CodeWf code) (hTab : TableAt w) :
    Calls Tryd.prog 50 #[.slice (some ⟨b, off, none⟩) n cap] w fun e w' =>
      ∃ v, e = .returned v ∧ w'.ownsRow w.heap.size 3 1 v (keepAt code n).length (natCells (keepAt code n)) ∧ Below w.heap.size w w' := by
  have hn : n = code.length := by have := hC.1; rw [codeCells_length] at this; omega
  have hb : b < w.heap.size := hC.blk (by omega)
  obtain ⟨i2, li, lz, ls, lb⟩ := info_parts info_int'
  have HN := Lib.hid hn; have HC := Lib.hid hC; have HT := Lib.hid hTab
  clear hn hC hTab
  go_enter Tryd.func50, Tryd.ntmps50
  go_wp2_with fail
  go_loopw [3, 9] (fun v3 v9 wr => ∃ i : Nat, i ≤ n ∧ v9 = .int .i64 i ∧ wr.ownsRow w.heap.size 3 1 v3 (keepAt code i).length (natCells (keepAt code i)) ∧ Below w.heap.size w wr) (fun _ i _ => n - (intOf i).toNat)
  case atStart => exact ⟨0, Nat.zero_le _, rfl, ⟨by simp [keepAt, natCells], .inl ⟨rfl, rfl⟩⟩, Below.refl _ _⟩
  case round =>
    obtain ⟨i, hi, rfl, hown, hB⟩ := hrel
    have hBs := hB.size
    by_cases hlt : i < n
    · have hbr : b < wr.heap.size := Nat.lt_of_lt_of_le hb hB.size
      obtain ⟨x0, x1, x2, x3, x4⟩ := (HC.out.below hB (fun _ h => h)).insAt (k := i) (HN.out ▸ hlt)
      have hkl := keepAt_length code i
      have hstep : keepAt code (i + 1) = match keepAt code i with | [] => [i] | k :: rest => if cancels (code.getD k default) (code.getD i default) then rest else i :: k :: rest := rfl
      have hklt := keepAt_lt code i
      generalize hx : code.getD i default = x at *
      cases hk : keepAt code i with
      | nil =>
        rw [hk] at hown hstep
        have HS := Lib.hid hstep
        obtain ⟨A, cap', hv⟩ : ∃ A cap', u3 = Value.slice A 0 cap' := by
          rcases hown.2 with ⟨hv, _⟩ | ⟨g, cap', cur, hv, _⟩
          · exact ⟨_, _, hv⟩
          · exact ⟨_, _, hv⟩
        have hOB : ∀ k, (Value.slice A 0 cap').ownBlock = some k → w.heap.size ≤ k := fun k hk => own_block_ge (hv ▸ hown) hk
        have HO := Lib.hid hown
        clear hown hstep hk hklt hkl hx
        subst hv
        go_wp2_with fail
        go_quiet (fail)
        go_wp2_with (at_builtin; go_loud (refine wpList_append_own _ rfl (.tmp 33) (.tmp 35) 23 rfl w.heap.size 3 i2 _ 1 8 Tryd.underlying23 li lz ls lb rfl (by decide) _ _ _ rfl (own_drewN ((HO.out.alloc _).alloc _) _) ⟨_, 0, none⟩ 1 1 [.int .i64 i] rfl rfl (cell_one (by go_simp)) (by simp [Value.oneCell']) (by first | decide | (simp [maxLen]; omega)) (by simp; try omega) (by simp; have := hB.size; omega) ?_))
        intro v2 w2 hown2 hg2 _
        have hB2 : Below w.heap.size w w2 := Below.trans (by repeat' (first | (with_reducible assumption) | (with_reducible exact Below.refl _ _) | (with_reducible refine Below.alloc ?_ ?_ _) | (with_reducible refine Bk.drewN_ ?_ _) | (with_reducible refine Below.drew ?_) | (with_reducible refine Below.setCell ?_ ?_ _) | go_size)) (below_grown (B := w.heap.size) hg2 (by simp; have := hB.size; omega) hOB)
        have HO2 := Lib.hid hown2
        clear hown2 hg2
        go_wp2_with fail
        exact ⟨⟨i + 1, by omega, by go_num, by rw [HS.out]; exact HO2.out, hB2⟩, by simp [intOf]; omega⟩
      | cons k rest =>
        rw [hk] at hown hstep hkl hklt
        simp only at hstep
        have hki : k < i := hklt k (by simp)
        have hlen : rest.length + 1 ≤ 65536 := by simp at hkl; omega
        obtain ⟨y0, y1, y2, y3, y4⟩ := (HC.out.below hB (fun _ h => h)).insAt (k := k) (by have := HN.out; omega)
        have hy0 : 0 ≤ (code.getD k default).op := hw.op0 k
        have hy1 : (code.getD k default).op ≤ 255 := (hw k (by have := HN.out; omega)).op1
        generalize hy : code.getD k default = y at *
        obtain ⟨vc, hvc⟩ : ∃ v, cancels y x = v := ⟨_, rfl⟩
        rw [hvc] at hstep
        have HS := Lib.hid hstep
        have HV : Hid (cancels ⟨y.op, y.a, y.b, y.c, y.d⟩ ⟨x.op, x.a, x.b, x.c, x.d⟩ = vc) := Lib.hid hvc
        obtain ⟨g, cap', hv, hg1, hg2, hg3, hg4, hcells⟩ := own_some hown (by simp)
        have hf : wr.cell? ⟨g, rest.length, none⟩ = some (.int .i64 k) := hcells _ _ (by rw [natCells_cons, List.getElem?_append_right (by rw [natCells_length]; exact Nat.le_refl _), natCells_length]; simp)
        have hg5 : rest.length + 1 ≤ cap' := by simpa using hg3
        have hg6 : rest.length ≤ cap' := by omega
        have hOB : ∀ k, (Value.slice (some ⟨g, 0, none⟩) (rest.length + 1) cap').ownBlock = some k → w.heap.size ≤ k := fun k hk => own_block_ge (hv ▸ hown) hk
        have hpop := ownsRow_pop (xs := natCells rest) (last := [.int .i64 k]) (n := rest.length) (size := 1) (by simp [natCells_length]) (by rw [← natCells_cons]; exact hv ▸ hown)
        have HPop := Lib.hid hpop
        have HO := Lib.hid hown; have HCL := Lib.hid hcells
        have hk0 : ¬ n ≤ k := by omega
        have hI1 : (0 : Int) ≤ (rest.length : Int) := by omega
        have hI2 : (rest.length : Int) < (rest.length : Int) + 1 := by omega
        have hI3 : (0 : Int) ≤ (k : Int) := by omega
        have hI4 : (k : Int) < (n : Int) := by omega
        clear hown hstep hk hklt hkl hx hy hvc hcells hpop
        subst hv
        cases vc with
        | true =>
          go_wp2_with fail
          go_region_held3 (fun w' => w'.cell? ⟨g, rest.length, none⟩ = some (.int .i64 k) ∧ w'.cell? ⟨b, off + k * 5, none⟩ = some (.int .u8 y.op) ∧ w'.cell? ⟨b, off + k * 5 + 1, none⟩ = some (.int .i64 y.a) ∧ w'.cell? ⟨b, off + k * 5 + 2, none⟩ = some (.int .i64 y.b) ∧ w'.cell? ⟨b, off + k * 5 + 3, none⟩ = some (.int .i64 y.c) ∧ w'.cell? ⟨b, off + k * 5 + 4, none⟩ = some (.int .i64 y.d) ∧ w'.cell? ⟨wr.heap.size, 0, none⟩ = some (.int .u8 x.op) ∧ w'.cell? ⟨wr.heap.size, 1, none⟩ = some (.int .i64 x.a) ∧ w'.cell? ⟨wr.heap.size, 2, none⟩ = some (.int .i64 x.b) ∧ w'.cell? ⟨wr.heap.size, 3, none⟩ = some (.int .i64 x.c) ∧ w'.cell? ⟨wr.heap.size, 4, none⟩ = some (.int .i64 x.d)) (go_simp) (first | (go_at_call 48; ((with_reducible refine (c_Cancels' _ _ _ _ _ _ _ _ _ _ HV.out hy0 hy1 _ (HT.out.next (by go_grown))).mono ?_); rintro e w1 ⟨rfl, hb1⟩; (try (have hs0 : w.heap.size < w1.heap.size := (by have := hb1.size; (try simp at this); omega))); (try (have hs1 : w.heap.size + 1 < w1.heap.size := (by have := hb1.size; (try simp at this); omega))); have hB1 : Below w.heap.size w w1 := Below.next (by go_grown) hb1; obtain ⟨hc1, hf1⟩ := bcell hb1; obtain ⟨hcA1, hfA1⟩ := bcell hB1; have HB1 := Lib.hid hb1; clear hb1)))
          have O1 := own_below (own_drew (HPop.out.alloc _)) HB1.out (Nat.le_refl _)
          have HO1 := Lib.hid O1
          clear O1 hc1 hf1 hcA1 hfA1
          go_wp2_with fail
          exact ⟨⟨i + 1, by omega, by go_num, by rw [(by rw [HS.out]; simp : keepAt code (i + 1) = rest)]; exact HO1.out, hB1⟩, by simp [intOf]; omega⟩
        | false =>
          go_wp2_with fail
          go_region_held3 (fun w' => w'.cell? ⟨g, rest.length, none⟩ = some (.int .i64 k) ∧ w'.cell? ⟨b, off + k * 5, none⟩ = some (.int .u8 y.op) ∧ w'.cell? ⟨b, off + k * 5 + 1, none⟩ = some (.int .i64 y.a) ∧ w'.cell? ⟨b, off + k * 5 + 2, none⟩ = some (.int .i64 y.b) ∧ w'.cell? ⟨b, off + k * 5 + 3, none⟩ = some (.int .i64 y.c) ∧ w'.cell? ⟨b, off + k * 5 + 4, none⟩ = some (.int .i64 y.d) ∧ w'.cell? ⟨wr.heap.size, 0, none⟩ = some (.int .u8 x.op) ∧ w'.cell? ⟨wr.heap.size, 1, none⟩ = some (.int .i64 x.a) ∧ w'.cell? ⟨wr.heap.size, 2, none⟩ = some (.int .i64 x.b) ∧ w'.cell? ⟨wr.heap.size, 3, none⟩ = some (.int .i64 x.c) ∧ w'.cell? ⟨wr.heap.size, 4, none⟩ = some (.int .i64 x.d)) (go_simp) (first | (go_at_call 48; ((with_reducible refine (c_Cancels' _ _ _ _ _ _ _ _ _ _ HV.out hy0 hy1 _ (HT.out.next (by go_grown))).mono ?_); rintro e w1 ⟨rfl, hb1⟩; (try (have hs0 : w.heap.size < w1.heap.size := (by have := hb1.size; (try simp at this); omega))); (try (have hs1 : w.heap.size + 1 < w1.heap.size := (by have := hb1.size; (try simp at this); omega))); have hB1 : Below w.heap.size w w1 := Below.next (by go_grown) hb1; obtain ⟨hc1, hf1⟩ := bcell hb1; obtain ⟨hcA1, hfA1⟩ := bcell hB1; have HB1 := Lib.hid hb1; clear hb1)))
          have O1 := own_below (own_drew (HO.out.alloc _)) HB1.out (Nat.le_refl _)
          have HO1 := Lib.hid O1
          have hBs1 := hB1.size
          clear O1 hc1 hf1 hcA1 hfA1
          go_wp2_with (at_builtin; go_loud (refine wpList_append_own _ rfl (.tmp 33) (.tmp 35) 23 rfl w.heap.size 3 i2 _ 1 8 Tryd.underlying23 li lz ls lb rfl (by decide) _ _ _ rfl (HO1.out.alloc _) ⟨_, 0, none⟩ 1 1 [.int .i64 i] rfl rfl (cell_one_new _ _ _) (by simp [Value.oneCell']) (by simp [maxLen]; omega) (by simp; omega) (by simp; omega) ?_))
          intro v2 w2 hown2 hg2 _
          have hB2 : Below w.heap.size w w2 := Below.trans (by go_grown) (below_grown (B := w.heap.size) hg2 (by simp; omega) hOB)
          have HO2 := Lib.hid hown2
          clear hown2 hg2
          go_wp2_with fail
          exact ⟨⟨i + 1, by omega, by go_num, by rw [(by rw [HS.out]; simp : keepAt code (i + 1) = i :: k :: rest), natCells_cons]; exact HO2.out, hB2⟩, by simp [intOf]; omega⟩
    · obtain rfl : i = n := by omega
      go_wp2_with fail
      go_ret
      exact ⟨_, rfl, hown, hB⟩

theorem c_keep0 (A : Option Addr) (cap : Nat) (w : World) :
    Calls Tryd.prog 50 #[.slice A 0 cap] w fun e w' => e = .returned (.slice none 0 0) ∧ w = w' := by
  go_enter Tryd.func50, Tryd.ntmps50
  go_wp2_with fail
  go_rounds 1
  go_ret
  exact ⟨rfl, rfl⟩
end Go.Proofs.YteenmpjjaheggaaDoor
