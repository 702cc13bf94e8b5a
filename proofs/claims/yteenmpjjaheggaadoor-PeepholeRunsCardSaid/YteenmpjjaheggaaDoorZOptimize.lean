/- The walk of peephole.Optimize. -/
import Derived.Test.YteenmpjjaheggaaDoorCn
import Derived.Test.YteenmpjjaheggaaDoorFr
set_option linter.unusedVariables false
set_option linter.unusedSimpArgs false
set_option maxRecDepth 100000
set_option maxHeartbeats 8000000
namespace Go.Proofs.YteenmpjjaheggaaDoor
open Go.RowKit Bk

/-- The cells of the first j instructions of the optimized code. -/
def optCells (code : Prg) (kl : List Nat) (j : Nat) : List Value := codeCells ((kl.take j).map (relink code kl))
theorem optCells_succ (code : Prg) (kl : List Nat) (j q : Nat) (h : kl[j]? = some q) : optCells code kl (j + 1) = optCells code kl j ++ [.int .u8 (relink code kl q).op, .int .i64 (relink code kl q).a, .int .i64 (relink code kl q).b, .int .i64 (relink code kl q).c, .int .i64 (relink code kl q).d] :=
  codeCells_take kl (relink code kl) j q h

theorem info_ins : (Tryd.prog.info? 68).map (fun i => (i.zero, i.size, i.bytes)) = some (some (.agg #[.int .u8 0, .int .i64 0, .int .i64 0, .int .i64 0, .int .i64 0]), 5, 40) := by kernel_rfl

theorem Optimize.bad (A : Option Addr) (n cap : Nat) (im : Img) (w : World) (hC : Rd w (· < w.heap.size) 5 A n (codeCells im.code)) (hw : CodeWf im.code) (hTab : TableAt w) (hck : im.check.2 ≠ 0) :
    Calls Tryd.prog 25 #[.agg #[.slice A n cap, .int .i64 im.mem, .int .i64 im.stacks]] w fun e w' =>
      e = .returned (.tuple #[.agg #[.slice none 0 0, .int .i64 0, .int .i64 0], .int .i64 im.check.2]) ∧ Below w.heap.size w w' := by
  obtain ⟨⟨ci, ce⟩, hc⟩ : ∃ x, im.check = x := ⟨_, rfl⟩
  rw [hc] at hck ⊢
  have hce : (ce != 0) = true := by simpa using hck
  have HCK := Lib.hid hc; have HC := Lib.hid hC; have HT := Lib.hid hTab; clear hc hC hTab hck
  go_enter Tryd.func25, Tryd.ntmps25
  go_wp2_with fail
  refine (c_Check' _ _ _ im HCK.out _ (HC.out.next (by go_grown)) hw (HT.out.next (by go_grown))).mono ?_
  rintro e w1 ⟨rfl, hb1⟩
  have hB1 : Below w.heap.size w w1 := Below.next (by go_grown) hb1
  obtain ⟨hc1, hf1⟩ := bcell hb1
  have k0 : w1.cell? ⟨w.heap.size + 1, 0, none⟩ = some (.slice none 0 0) := by go_simp
  have k1 : w1.cell? ⟨w.heap.size + 1, 1, none⟩ = some (.int .i64 0) := by go_simp
  have k2 : w1.cell? ⟨w.heap.size + 1, 2, none⟩ = some (.int .i64 0) := by go_simp
  clear hb1
  go_wp2_with fail
  exact bodyPost_ret (v := .tuple #[.agg #[.slice none 0 0, .int .i64 0, .int .i64 0], .int .i64 ce]) (by simp [results, Tryd.results25, go_sem, k0, k1, k2]) rfl ⟨rfl, by go_grown⟩

theorem Optimize.good (b off n cap : Nat) (im : Img) (w : World) (hn0 : 0 < n) (hC : Rd w (· < w.heap.size) 5 (some ⟨b, off, none⟩) n (codeCells im.code)) (hw : CodeWf im.code) (hTab : TableAt w) (hck : im.check.2 = 0) :
    Calls Tryd.prog 25 #[.agg #[.slice (some ⟨b, off, none⟩) n cap, .int .i64 im.mem, .int .i64 im.stacks]] w fun e w' =>
      ∃ A m c, e = .returned (.tuple #[.agg #[.slice A m c, .int .i64 im.mem, .int .i64 im.stacks], .int .i64 0]) ∧ Rd w' (fun b => w.heap.size ≤ b ∧ b < w'.heap.size) 5 A m (codeCells (optCode im.code)) ∧ Below w.heap.size w w' := by
  have hn : n = im.code.length := by have := hC.1; rw [codeCells_length] at this; omega
  obtain ⟨hs, hfault⟩ := check_fault hck
  have hmax : n ≤ 65536 := by simp only [Img.sized, Bool.and_eq_true, decide_eq_true_eq] at hs; omega
  have hb : b < w.heap.size := hC.blk (by omega)
  obtain ⟨ci, hc⟩ : ∃ x, im.check = (x, 0) := ⟨_, Prod.ext rfl hck⟩
  obtain ⟨i0, hi0, hz0, hs0, hb0⟩ := info_parts info_int'
  obtain ⟨i2, li, lz, ls, lb⟩ := info_parts info_ins
  have mk0 : ∀ W : World, (Instr.makeSlice 23 (.int .i64 (n : Int)) (.int .i64 (n : Int))).run Tryd.prog W = .ok (.slice (some ⟨W.heap.size, 0, none⟩) n n) (W.alloc (.cells (madeCells #[.int .i64 0] n) 3)) := fun W => by
    have := run_make_rowN (P := Tryd.prog) 23 3 i0 _ Tryd.underlying23 hi0 hz0 .i64 .i64 n n (Nat.le_refl _) (by rw [hb0]; omega) (by omega) W
    rw [hs0, Nat.mul_one] at this; exact this
  have HCK := Lib.hid hc; have HC := Lib.hid hC; have HT := Lib.hid hTab; have HN := Lib.hid hn; have HFA := Lib.hid hfault
  clear hc hC hTab hck hs hn hfault hi0 hz0 hs0 hb0
  go_enter Tryd.func25, Tryd.ntmps25
  go_wp2_with (go_at_call 43; ((with_reducible refine (c_Check' _ _ _ im HCK.out _ (HC.out.next (by go_grown)) hw (HT.out.next (by go_grown))).mono ?_); rintro e w1 ⟨rfl, hb1⟩; (try (have hs0 : w.heap.size < w1.heap.size := (by have := hb1.size; (try simp at this); omega))); (try (have hs1 : w.heap.size + 1 < w1.heap.size := (by have := hb1.size; (try simp at this); omega))); have hB1 : Below w.heap.size w w1 := Below.next (by go_grown) hb1; obtain ⟨hc1, hf1⟩ := bcell hb1; obtain ⟨hcA1, hfA1⟩ := bcell hB1; have HB1 := Lib.hid hb1; clear hb1))
  refine (c_keep b off n cap im.code _ hn0 hmax (HC.out.next (by go_grown)) hw (HT.out.next (by go_grown))).mono ?_
  rintro e w2 ⟨v, rfl, hown, hb2⟩
  have hB2 : Below w.heap.size w w2 := Below.next (by go_grown) hb2
  have hBs2 := hB2.size
  have BI : Blk w2 w.heap.size 32 #[.slice (some ⟨b, off, none⟩) n cap, .int .i64 im.mem, .int .i64 im.stacks] :=
    (((Blk.new w 32 #[.slice (some ⟨b, off, none⟩) n cap, .int .i64 im.mem, .int .i64 im.stacks]).alloc (.cells #[.slice none 0 0, .int .i64 0, .int .i64 0] 32)).next HB1.out).next hb2
  have BR : Blk w2 (w.heap.size + 1) 32 #[.slice none 0 0, .int .i64 0, .int .i64 0] := by
    have h := Blk.new (w.alloc (.cells #[.slice (some ⟨b, off, none⟩) n cap, .int .i64 im.mem, .int .i64 im.stacks] 32)) 32 #[.slice none 0 0, .int .i64 0, .int .i64 0]
    have h2 := (h.next HB1.out).next hb2
    simpa using h2
  have c0 : w2.cell? ⟨w.heap.size, 0, none⟩ = some (.slice (some ⟨b, off, none⟩) n cap) := BI.cell 0
  have c1 : w2.cell? ⟨w.heap.size, 1, none⟩ = some (.int .i64 im.mem) := BI.cell 1
  have c2 : w2.cell? ⟨w.heap.size, 2, none⟩ = some (.int .i64 im.stacks) := BI.cell 2
  have hz0 := BI.lt
  have hz1 := BR.lt
  obtain ⟨A2, capk, rfl⟩ := own_form hown
  have HO := Lib.hid hown; have HBI := Lib.hid BI; have HBR := Lib.hid BR
  have hkm : (keepAt im.code n).length ≤ n := keepAt_length _ _
  have hklt := keepAt_lt im.code n
  have HKL := Lib.hid hklt
  generalize hK : keepAt im.code n = K at *
  have hHK := Lib.hid hK
  generalize hm : K.length = m at *
  have HM := Lib.hid hm
  clear hb2 hown BI BR hklt hK hm HB1 hc1 hf1 hcA1 hfA1
  go_wp2_with fail
  clear mk0
  go_loopw [34] (fun v34 wr => ∃ j : Nat, j ≤ m ∧ v34 = .int .i64 j ∧ wr.rowIs w2.heap.size 3 n (fun t => .int .i64 (idxA K.reverse j t)) ∧ Below w2.heap.size w2 wr) (fun j _ => m - (intOf j).toNat)
  case atStart => exact ⟨0, Nat.zero_le _, rfl, World.rowIs_made w2 (.int .i64 0) n 3, by go_grown⟩
  case round =>
    obtain ⟨j, hj, rfl, hrow, hBr⟩ := hrel
    by_cases hlt : j < m
    · have hko := own_some HO.out (by omega)
      obtain ⟨gk, capk', hv, hg1, hg2, hg3, hg4, hcells⟩ := hko
      have hk : w2.cell? ⟨gk, j, none⟩ = some (.int .i64 (K.reverse.getD j 0 : Nat)) := hcells _ _ (by
        unfold natCells
        rw [List.getElem?_map, List.getElem?_eq_getElem (by simp; have := HM.out; omega), List.getD_eq_getElem?_getD, List.getElem?_eq_getElem (by simp; have := HM.out; omega)]; rfl)
      have hkn : K.reverse.getD j 0 < n := by
        rw [List.getD_eq_getElem?_getD, List.getElem?_eq_getElem (by simp; have := HM.out; omega)]
        exact HKL.out _ (List.mem_reverse.1 (List.getElem_mem _))
      injection hv with hA hmm hcap
      subst hA
      subst hcap
      obtain ⟨hcr, hfr⟩ := bcell hBr
      have hk' : wr.cell? ⟨gk, j, none⟩ = some (.int .i64 (K.reverse.getD j 0 : Nat)) := (hcr _ _ hg2).trans hk
      obtain ⟨q, hq⟩ : ∃ q, K.reverse.getD j 0 = q := ⟨_, rfl⟩
      rw [hq] at hk' hkn
      have ci := hrow.cell hkn
      have fi := hrow.frozen q
      have HR := Lib.hid hrow
      have HQ := Lib.hid hq
      clear hcr hfr hk hcells hrow hq
      go_wp2_with fail
      refine ⟨⟨j + 1, by omega, by go_num, (HR.out.set q _).congr (fun t _ => ?_), by go_grown⟩, by simp [intOf]; omega⟩
      simp only [idxA, HQ.out]
      split <;> rfl
    · obtain rfl : m = j := by omega
      obtain ⟨w3, rfl⟩ : ∃ w3, w3 = wr := ⟨_, rfl⟩
      have HR := Lib.hid hrow
      have b0 : w3.cell? ⟨w.heap.size, 1, none⟩ = some (.int .i64 im.mem) := (HBI.out.below hBr hz0).cell 1
      have b1 : w3.cell? ⟨w.heap.size, 2, none⟩ = some (.int .i64 im.stacks) := (HBI.out.below hBr hz0).cell 2
      go_wp2_with fail
      have hz3 := HR.out.lt
      have HBr3 := Lib.hid hBr
      clear hj hrow
      go_loopw [51] (fun v51 wr => ∃ j : Nat, j ≤ m ∧ v51 = .int .i64 j ∧ ∃ v, Blk wr w3.heap.size 32 #[v, .int .i64 im.mem, .int .i64 im.stacks] ∧
          wr.ownsRow (w3.heap.size + 1) 68 5 v j (optCells im.code K.reverse j) ∧ Below w3.heap.size w3 wr) (fun j _ => m - (intOf j).toNat)
      case atStart => exact ⟨0, Nat.zero_le _, rfl, _, Blk.new _ _ _, ⟨by simp [optCells, codeCells], .inl ⟨rfl, rfl⟩⟩, by go_grown⟩
      case round =>
        obtain ⟨j, hj, rfl, v, hbo, hov, hBq⟩ := hrel
        have hBw : Below w.heap.size w wr := Below.next (Below.next hB2 HBr3.out) hBq
        have hBs := hBq.size
        have hbl := hbo.lt
        by_cases hlt : j < m
        · have hko := own_some HO.out (by omega)
          obtain ⟨gk, capk', hv, hg1, hg2, hg3, hg4, hcells⟩ := hko
          have hk : w2.cell? ⟨gk, j, none⟩ = some (.int .i64 (K.reverse.getD j 0 : Nat)) := hcells _ _ (by
            unfold natCells
            rw [List.getElem?_map, List.getElem?_eq_getElem (by simp; have := HM.out; omega), List.getD_eq_getElem?_getD, List.getElem?_eq_getElem (by simp; have := HM.out; omega)]; rfl)
          have hkn : K.reverse.getD j 0 < n := by
            rw [List.getD_eq_getElem?_getD, List.getElem?_eq_getElem (by simp; have := HM.out; omega)]
            exact HKL.out _ (List.mem_reverse.1 (List.getElem_mem _))
          have hq' : K.reverse[j]? = some (K.reverse.getD j 0) := by
            rw [List.getD_eq_getElem?_getD, List.getElem?_eq_getElem (by simp; have := HM.out; omega)]; rfl
          injection hv with hA hmm hcap
          subst hA
          subst hcap
          have hk' : wr.cell? ⟨gk, j, none⟩ = some (.int .i64 (K.reverse.getD j 0 : Nat)) := (hBq.cell (p := ⟨gk, j, none⟩) (by show gk < _; omega)).trans ((HBr3.out.cell (p := ⟨gk, j, none⟩) hg2).trans hk)
          obtain ⟨q, hq⟩ : ∃ q, K.reverse.getD j 0 = q := ⟨_, rfl⟩
          rw [hq] at hk' hkn hq'
          obtain ⟨x0, x1, x2, x3, x4⟩ := (HC.out.below hBw (fun _ h => h)).insAt (k := q) (HN.out ▸ hkn)
          have hft := (fault_zero (HFA.out q (HN.out ▸ hkn))).2
          have c0' : wr.cell? ⟨w.heap.size, 0, none⟩ = some (.slice (some ⟨b, off, none⟩) n cap) := ((HBI.out.next HBr3.out).next hBq).cell 0
          have hrel : relink im.code K.reverse q = if (im.code.getD q default).target.2 = true then (im.code.getD q default).retarget (idxA K.reverse m (im.code.getD q default).target.1.toNat) else im.code.getD q default := by
            unfold relink; rw [List.length_reverse, HM.out]
          generalize hx : im.code.getD q default = x at *
          obtain ⟨tt, ok, ht⟩ : ∃ t ok, targetP x.op x.a x.b = (t, ok) := ⟨_, _, rfl⟩
          have e1 : x.target = (tt, ok) := ht
          rw [e1] at hft hrel
          have hbr : b < wr.heap.size := by omega
          have HTg := Lib.hid ht; have HBO := Lib.hid hbo; have HOV := Lib.hid hov; have HQ' := Lib.hid hq'; have HRL := Lib.hid hrel
          have hnq : ¬ n ≤ q := by omega
          clear hk hcells hq ht e1 hbo hov hq' hrel hx hg3
          go_wp2_with fail
          refine (c_Target' _ _ _ _ _ HTg.out _).mono ?_
          rintro e w4 ⟨rfl, hb4⟩
          have hB4 : Below w3.heap.size w3 w4 := Below.trans (by go_grown) (hb4.mono (by simp; omega))
          have hBw4 : Below w.heap.size w w4 := Below.next (Below.next hB2 HBr3.out) hB4
          obtain ⟨hc4, hf4⟩ := bcell hb4
          have HBO4 := Lib.hid ((HBO.out.alloc (.cells #[.int .u8 x.op, .int .i64 x.a, .int .i64 x.b, .int .i64 x.c, .int .i64 x.d] 68)).next hb4)
          have HOV4 := Lib.hid (own_below (HOV.out.alloc (.cells #[.int .u8 x.op, .int .i64 x.a, .int .i64 x.b, .int .i64 x.c, .int .i64 x.d] 68)) hb4 (Nat.le_refl _))
          have hBs4 := hB4.size
          have hbs4 := hb4.size
          simp only [World.size_alloc] at hbs4
          have o0 : w4.cell? ⟨w3.heap.size, 0, none⟩ = some v := HBO4.out.cell 0
          have of0 := HBO4.out.frozen 0
          have HX4 := Lib.hid ((Blk.new wr 68 #[.int .u8 x.op, .int .i64 x.a, .int .i64 x.b, .int .i64 x.c, .int .i64 x.d]).next hb4)
          have k0 : w4.cell? ⟨wr.heap.size, 0, none⟩ = some (.int .u8 x.op) := HX4.out.cell 0
          have k1 : w4.cell? ⟨wr.heap.size, 1, none⟩ = some (.int .i64 x.a) := HX4.out.cell 1
          have k2 : w4.cell? ⟨wr.heap.size, 2, none⟩ = some (.int .i64 x.b) := HX4.out.cell 2
          have k3 : w4.cell? ⟨wr.heap.size, 3, none⟩ = some (.int .i64 x.c) := HX4.out.cell 3
          have k4 : w4.cell? ⟨wr.heap.size, 4, none⟩ = some (.int .i64 x.d) := HX4.out.cell 4
          have hzw : wr.heap.size < w4.heap.size := HX4.out.lt
          have hzo : w3.heap.size < w4.heap.size := HBO4.out.lt
          clear hc4 hf4
          cases ok with
          | false =>
            have HREL : Hid (relink im.code K.reverse q = x) := Lib.hid (by rw [HRL.out]; rfl)
            have HBW := HBO4; have HOW := HOV4
            clear hft hb4
            go_wp2_with (at_builtin; go_loud (refine wpList_append_own _ rfl (.tmp 73) (.tmp 75) 30 rfl (w3.heap.size + 1) 68 i2 _ 5 40 Tryd.underlying30 li lz ls lb rfl (by decide) _ _ _ rfl (HOW.out.alloc _) ⟨_, 0, none⟩ 1 1 [.int .u8 x.op, .int .i64 x.a, .int .i64 x.b, .int .i64 x.c, .int .i64 x.d] rfl rfl (cells_new _ #[.int .u8 x.op, .int .i64 x.a, .int .i64 x.b, .int .i64 x.c, .int .i64 x.d] _) (by simp [Value.oneCell']) (by simp [maxLen]; omega) (by omega) (by simp; omega) ?_))
            intro v6 w6 hown6 hg6 _
            obtain ⟨A6, c6, rfl⟩ := own_form hown6
            have BW6 := (HBW.out.alloc (.cells #[.int .u8 x.op, .int .i64 x.a, .int .i64 x.b, .int .i64 x.c, .int .i64 x.d] 68)).grown hg6 (own_blk_ne (HOW.out.alloc (.cells #[.int .u8 x.op, .int .i64 x.a, .int .i64 x.b, .int .i64 x.c, .int .i64 x.d] 68)) (HBW.out.alloc (.cells #[.int .u8 x.op, .int .i64 x.a, .int .i64 x.b, .int .i64 x.c, .int .i64 x.d] 68)) (by decide))
            have hB6 : Below w3.heap.size w3 w6 := Below.trans (by go_grown) (below_grown (B := w3.heap.size) hg6 (by simp; omega) (fun k hk => by have := own_block_ge HOW.out hk; omega))
            have z0 : w6.cell? ⟨w3.heap.size, 0, none⟩ = some v := BW6.cell 0
            have z1 := BW6.frozen 0
            have HO6 := Lib.hid hown6; have HB6 := Lib.hid BW6
            clear hown6 hg6 BW6
            go_wp2_with fail
            have hfin := own_setCell (b := w3.heap.size) (o := 0) (u := .slice A6 (j + 1) c6) HO6.out (by omega)
            have hcc := optCells_succ im.code K.reverse j q HQ'.out
            rw [HREL.out] at hcc
            have hrel : ∃ j_1 : Nat, j_1 ≤ m ∧ Value.int IntKind.i64 ((j : Int) + 1) = Value.int IntKind.i64 j_1 ∧ ∃ v, Blk (w6.setCell ⟨w3.heap.size, 0, none⟩ (.slice A6 (j + 1) c6)) w3.heap.size 32 #[v, .int .i64 im.mem, .int .i64 im.stacks] ∧
                (w6.setCell ⟨w3.heap.size, 0, none⟩ (.slice A6 (j + 1) c6)).ownsRow (w3.heap.size + 1) 68 5 v j_1 (optCells im.code K.reverse j_1) ∧ Below w3.heap.size w3 (w6.setCell ⟨w3.heap.size, 0, none⟩ (.slice A6 (j + 1) c6)) :=
              ⟨j + 1, by omega, by go_num, _, HB6.out.set_ 0 _, by rw [hcc]; exact hfin, by go_grown⟩
            exact ⟨hrel, by simp [intOf]; omega⟩
          | true =>
            obtain ⟨t0, t1⟩ := hft rfl
            obtain ⟨t', rfl⟩ := Int.eq_ofNat_of_zero_le t0
            have htn : t' < n := by have := HN.out; omega
            have hrow4 := (rowIs_below HR.out hB4 hz3)
            have ci4 : w4.cell? ⟨w2.heap.size, t', none⟩ = some (.int .i64 (idxA K.reverse m t')) := hrow4.cell htn
            have HREL : Hid (relink im.code K.reverse q = x.retarget (idxA K.reverse m t')) := Lib.hid (by rw [HRL.out]; rfl)
            have HXf := HX4.out.frozen
            clear hft hb4 t0 t1 hrow4 HXf
            go_wp2_with fail
            refine wp_region_still_tail 5 (by kernel_rfl) (by kernel_rfl) ?_
            simp only [List.take_succ_cons, List.take_zero, List.drop_succ_cons, List.drop_zero]
            change wpStill _ _ w4.drew _ _ _
            repeat still_step
            refine wpStill_nil ?_
            go_wp2_with fail
            refine (c_Retarget _ _ _ _ _ _ _).mono ?_
            rintro e w5 ⟨rfl, hb5⟩
            have hB5 : Below w3.heap.size w3 w5 := Below.trans hB4.drew (hb5.mono (by show _ ≤ w4.heap.size; omega))
            have hBs5 := hB5.size
            have HX5 := Lib.hid (HX4.out.drew.next hb5)
            have HBO5 := Lib.hid (HBO4.out.drew.next hb5)
            have HOV5 := Lib.hid (own_below (own_drew HOV4.out) hb5 (Nat.le_refl _))
            have q0 : w5.cell? ⟨wr.heap.size, 0, none⟩ = some (.int .u8 x.op) := HX5.out.cell 0
            have q1 : w5.cell? ⟨wr.heap.size, 1, none⟩ = some (.int .i64 x.a) := HX5.out.cell 1
            have q2 : w5.cell? ⟨wr.heap.size, 2, none⟩ = some (.int .i64 x.b) := HX5.out.cell 2
            have q3 : w5.cell? ⟨wr.heap.size, 3, none⟩ = some (.int .i64 x.c) := HX5.out.cell 3
            have q4 : w5.cell? ⟨wr.heap.size, 4, none⟩ = some (.int .i64 x.d) := HX5.out.cell 4
            have g0 := HX5.out.frozen 0
            have g1 := HX5.out.frozen 1
            have g2 := HX5.out.frozen 2
            have g3 := HX5.out.frozen 3
            have g4 := HX5.out.frozen 4
            have p0 : w5.cell? ⟨w3.heap.size, 0, none⟩ = some v := HBO5.out.cell 0
            have pf0 := HBO5.out.frozen 0
            have hzw5 : wr.heap.size < w5.heap.size := HX5.out.lt
            have hzo5 : w3.heap.size < w5.heap.size := HBO5.out.lt
            have hne : ¬ w3.heap.size = wr.heap.size := by omega
            have hne' : ¬ wr.heap.size = w3.heap.size := by omega
            have HNE : Hid (∀ g, v.ownBlock = some g → g ≠ wr.heap.size) := Lib.hid (fun g hgv => by
              rcases HOV.out.2 with ⟨rfl, _⟩ | ⟨g', cap', cur, rfl, _, hh, _⟩
              · cases hgv
              · injection hgv with hgv; subst hgv
                have : g' < wr.heap.size := Blk.lt hh
                show g' ≠ _
                omega)
            clear hb5 o0 of0 k0 k1 k2 k3 k4 hzw hzo ci4
            go_upto_region 19 with (fail)
            obtain ⟨w6, hw6⟩ : ∃ w6, w6 = ((((w5.setCell ⟨wr.heap.size, 0, none⟩ (.int .u8 x.op)).setCell ⟨wr.heap.size, 1, none⟩ (.int .i64 (retA x.op x.a (idxA K.reverse m t')))).setCell ⟨wr.heap.size, 2, none⟩ (.int .i64 (retB x.op x.b (idxA K.reverse m t')))).setCell ⟨wr.heap.size, 3, none⟩ (.int .i64 x.c)).setCell ⟨wr.heap.size, 4, none⟩ (.int .i64 x.d) := ⟨_, rfl⟩
            rw [← hw6]
            have HOW6 := Lib.hid (own_of_block (w' := w6) HOV5.out (fun g hg hgv => by
              have hne : g ≠ wr.heap.size := HNE.out g hgv
              rw [hw6, Below.heap_setCell _ _ _ _ hne, Below.heap_setCell _ _ _ _ hne, Below.heap_setCell _ _ _ _ hne, Below.heap_setCell _ _ _ _ hne, Below.heap_setCell _ _ _ _ hne]))
            have HBW6 : Hid (Blk w6 w3.heap.size 32 #[v, .int .i64 im.mem, .int .i64 im.stacks]) := Lib.hid (by
              rw [hw6]
              exact ((((HBO5.out.far (p := ⟨wr.heap.size, 0, none⟩) (by simpa using hne) _).far (p := ⟨wr.heap.size, 1, none⟩) (by simpa using hne) _).far (p := ⟨wr.heap.size, 2, none⟩) (by simpa using hne) _).far (p := ⟨wr.heap.size, 3, none⟩) (by simpa using hne) _).far (p := ⟨wr.heap.size, 4, none⟩) (by simpa using hne) _)
            have HX6 : Blk w6 wr.heap.size 68 #[.int .u8 x.op, .int .i64 (retA x.op x.a (idxA K.reverse m t')), .int .i64 (retB x.op x.b (idxA K.reverse m t')), .int .i64 x.c, .int .i64 x.d] := by
              rw [hw6]
              exact ((((HX5.out.set_ 0 _).set_ 1 _).set_ 2 _).set_ 3 _).set_ 4 _
            have hB6 : Below w3.heap.size w3 w6 := by rw [hw6]; go_grown
            have hBs6 := hB6.size
            have y0 : w6.cell? ⟨wr.heap.size, 0, none⟩ = some (.int .u8 x.op) := HX6.cell 0
            have y1 : w6.cell? ⟨wr.heap.size, 1, none⟩ = some (.int .i64 (retA x.op x.a (idxA K.reverse m t'))) := HX6.cell 1
            have y2 : w6.cell? ⟨wr.heap.size, 2, none⟩ = some (.int .i64 (retB x.op x.b (idxA K.reverse m t'))) := HX6.cell 2
            have y3 : w6.cell? ⟨wr.heap.size, 3, none⟩ = some (.int .i64 x.c) := HX6.cell 3
            have y4 : w6.cell? ⟨wr.heap.size, 4, none⟩ = some (.int .i64 x.d) := HX6.cell 4
            have y5 : w6.cell? ⟨w3.heap.size, 0, none⟩ = some v := HBW6.out.cell 0
            have hzo6 : w3.heap.size < w6.heap.size := HBW6.out.lt
            clear q0 q1 q2 q3 q4 g0 g1 g2 g3 g4 p0 pf0 hw6 HX6 hzw5 hzo5 hBs5
            go_wp2_with (at_builtin; go_loud (refine wpList_append_own _ rfl (.tmp 73) (.tmp 75) 30 rfl (w3.heap.size + 1) 68 i2 _ 5 40 Tryd.underlying30 li lz ls lb rfl (by decide) _ _ _ rfl (HOW6.out.alloc _) ⟨_, 0, none⟩ 1 1 [.int .u8 x.op, .int .i64 (retA x.op x.a (idxA K.reverse m t')), .int .i64 (retB x.op x.b (idxA K.reverse m t')), .int .i64 x.c, .int .i64 x.d] rfl rfl (cells_new _ #[.int .u8 x.op, .int .i64 (retA x.op x.a (idxA K.reverse m t')), .int .i64 (retB x.op x.b (idxA K.reverse m t')), .int .i64 x.c, .int .i64 x.d] _) (by simp [Value.oneCell']) (by simp [maxLen]; omega) (by omega) (by simp; omega) ?_))
            intro v7 w7 hown6 hg6 _
            obtain ⟨A6, c6, rfl⟩ := own_form hown6
            have BW6 := (HBW6.out.alloc (.cells #[.int .u8 x.op, .int .i64 (retA x.op x.a (idxA K.reverse m t')), .int .i64 (retB x.op x.b (idxA K.reverse m t')), .int .i64 x.c, .int .i64 x.d] 68)).grown hg6 (own_blk_ne (HOW6.out.alloc (.cells #[.int .u8 x.op, .int .i64 (retA x.op x.a (idxA K.reverse m t')), .int .i64 (retB x.op x.b (idxA K.reverse m t')), .int .i64 x.c, .int .i64 x.d] 68)) (HBW6.out.alloc (.cells #[.int .u8 x.op, .int .i64 (retA x.op x.a (idxA K.reverse m t')), .int .i64 (retB x.op x.b (idxA K.reverse m t')), .int .i64 x.c, .int .i64 x.d] 68)) (by decide))
            have hB6 : Below w3.heap.size w3 w7 := Below.trans (by go_grown) (below_grown (B := w3.heap.size) hg6 (by simp; omega) (fun k hk => by have := own_block_ge HOW6.out hk; omega))
            have z0 : w7.cell? ⟨w3.heap.size, 0, none⟩ = some v := BW6.cell 0
            have z1 := BW6.frozen 0
            have HO6 := Lib.hid hown6; have HB6 := Lib.hid BW6
            clear hown6 hg6 BW6
            go_wp2_with fail
            have hfin := own_setCell (b := w3.heap.size) (o := 0) (u := .slice A6 (j + 1) c6) HO6.out (by omega)
            have hcc := optCells_succ im.code K.reverse j q HQ'.out
            rw [HREL.out] at hcc
            have hrel : ∃ j_1 : Nat, j_1 ≤ m ∧ Value.int IntKind.i64 ((j : Int) + 1) = Value.int IntKind.i64 j_1 ∧ ∃ v, Blk (w7.setCell ⟨w3.heap.size, 0, none⟩ (.slice A6 (j + 1) c6)) w3.heap.size 32 #[v, .int .i64 im.mem, .int .i64 im.stacks] ∧
                (w7.setCell ⟨w3.heap.size, 0, none⟩ (.slice A6 (j + 1) c6)).ownsRow (w3.heap.size + 1) 68 5 v j_1 (optCells im.code K.reverse j_1) ∧ Below w3.heap.size w3 (w7.setCell ⟨w3.heap.size, 0, none⟩ (.slice A6 (j + 1) c6)) :=
              ⟨j + 1, by omega, by go_num, _, HB6.out.set_ 0 _, by rw [hcc]; exact hfin, by go_grown⟩
            exact ⟨hrel, by simp [intOf]; omega⟩
        · obtain rfl : m = j := by omega
          have o0 : wr.cell? ⟨w3.heap.size, 0, none⟩ = some v := hbo.cell 0
          have o1 : wr.cell? ⟨w3.heap.size, 1, none⟩ = some (.int .i64 im.mem) := hbo.cell 1
          have o2 : wr.cell? ⟨w3.heap.size, 2, none⟩ = some (.int .i64 im.stacks) := hbo.cell 2
          have BRw := (HBR.out.next HBr3.out).next hBq
          have r0 : wr.cell? ⟨w.heap.size + 1, 0, none⟩ = some (.slice none 0 0) := BRw.cell 0
          have r1 : wr.cell? ⟨w.heap.size + 1, 1, none⟩ = some (.int .i64 0) := BRw.cell 1
          have r2 : wr.cell? ⟨w.heap.size + 1, 2, none⟩ = some (.int .i64 0) := BRw.cell 2
          have f0 := BRw.frozen 0
          have f1 := BRw.frozen 1
          have f2 := BRw.frozen 2
          obtain ⟨A', c', rfl⟩ := own_form hov
          have HOV := Lib.hid hov; have HBw := Lib.hid hBw
          clear hov hbo BRw
          go_wp2_with fail
          refine bodyPost_ret (v := .tuple #[.agg #[.slice A' m c', .int .i64 im.mem, .int .i64 im.stacks], .int .i64 0]) (by simp [results, Tryd.results25, go_sem, r0, r1, r2]) rfl ⟨A', m, c', rfl, ?_, by go_grown⟩
          have hcode : codeCells (optCode im.code) = optCells im.code K.reverse m := by
            unfold optCells optCode kept
            rw [← HN.out, hHK.out, List.take_of_length_le (by rw [List.length_reverse, HM.out]; exact Nat.le_refl _)]
          rw [hcode]
          refine ((Rd.of_own HOV.out).keep (fun bb o hbb => ?_)).mono (fun bb hbb => ⟨by omega, by simp; omega⟩)
          rw [World.cell?_setCell_other _ _ _ _ (by intro e; injection e; omega), World.cell?_setCell_other _ _ _ _ (by intro e; injection e; omega), World.cell?_setCell_other _ _ _ _ (by intro e; injection e; omega)]

theorem Optimize.none_ (A : Option Addr) (cap : Nat) (im : Img) (w : World) (hC : Rd w (· < w.heap.size) 5 A 0 (codeCells im.code)) (hw : CodeWf im.code) (hTab : TableAt w) (hck : im.check.2 = 0) :
    Calls Tryd.prog 25 #[.agg #[.slice A 0 cap, .int .i64 im.mem, .int .i64 im.stacks]] w fun e w' =>
      e = .returned (.tuple #[.agg #[.slice none 0 0, .int .i64 im.mem, .int .i64 im.stacks], .int .i64 0]) ∧ Below w.heap.size w w' := by
  obtain ⟨ci, hc⟩ : ∃ x, im.check = (x, 0) := ⟨_, Prod.ext rfl hck⟩
  obtain ⟨i0, hi0, hz0, hs0, hb0⟩ := info_parts info_int'
  have mk0 : ∀ W : World, (Instr.makeSlice 23 (.int .i64 0) (.int .i64 0)).run Tryd.prog W = .ok (.slice (some ⟨W.heap.size, 0, none⟩) 0 0) (W.alloc (.cells (madeCells #[.int .i64 0] 0) 3)) := fun W => by
    have := run_make_rowN (P := Tryd.prog) 23 3 i0 _ Tryd.underlying23 hi0 hz0 .i64 .i64 0 0 (Nat.le_refl _) (by omega) (by omega) W
    rw [hs0, Nat.mul_one] at this; exact this
  have HCK := Lib.hid hc; have HC := Lib.hid hC; have HT := Lib.hid hTab; clear hc hC hTab hck hi0 hz0 hs0 hb0
  go_enter Tryd.func25, Tryd.ntmps25
  go_wp2_with fail
  refine (c_Check' _ _ _ im HCK.out _ (HC.out.next (by go_grown)) hw (HT.out.next (by go_grown))).mono ?_
  rintro e w1 ⟨rfl, hb1⟩
  have hB1 : Below w.heap.size w w1 := Below.next (by go_grown) hb1
  obtain ⟨hc1, hf1⟩ := bcell hb1
  have k0 : w1.cell? ⟨w.heap.size + 1, 0, none⟩ = some (.slice none 0 0) := by go_simp
  have k1 : w1.cell? ⟨w.heap.size + 1, 1, none⟩ = some (.int .i64 0) := by go_simp
  have k2 : w1.cell? ⟨w.heap.size + 1, 2, none⟩ = some (.int .i64 0) := by go_simp
  have hz : w.heap.size < w1.heap.size := by have := hb1.size; simp at this; omega
  have hz' : w.heap.size + 1 < w1.heap.size := by have := hb1.size; simp at this; omega
  clear hb1
  go_wp2_with (go_at_call 50; ((with_reducible refine (c_keep0 _ _ _).mono ?_); rintro e w' ⟨rfl, rfl⟩))
  go_rounds 1
  go_rounds 1
  exact bodyPost_ret (v := .tuple #[.agg #[.slice none 0 0, .int .i64 im.mem, .int .i64 im.stacks], .int .i64 0]) (by simp [results, Tryd.results25, go_sem, k0, k1, k2, hz', Nat.ne_of_lt hz', Nat.lt_succ_of_lt hz', Nat.ne_of_lt (Nat.lt_succ_of_lt hz')]) rfl ⟨rfl, by go_grown⟩

/-- peephole.Optimize. -/
theorem c_Optimize (A : Option Addr) (n cap : Nat) (im : Img) (w : World) (hC : Rd w (· < w.heap.size) 5 A n (codeCells im.code)) (hw : CodeWf im.code) (hTab : TableAt w) :
    Calls Tryd.prog 25 #[.agg #[.slice A n cap, .int .i64 im.mem, .int .i64 im.stacks]] w fun e w' =>
      ∃ A' m c, e = .returned (.tuple #[.agg #[.slice A' m c, .int .i64 (optimize im).1.mem, .int .i64 (optimize im).1.stacks], .int .i64 (optimize im).2]) ∧
        Rd w' (fun b => w.heap.size ≤ b ∧ b < w'.heap.size) 5 A' m (codeCells (optimize im).1.code) ∧ Below w.heap.size w w' := by
  have hn : n = im.code.length := by have := hC.1; rw [codeCells_length] at this; omega
  by_cases hck : im.check.2 = 0
  · have e : optimize im = ({ im with code := optCode im.code }, 0) := by unfold optimize; rw [if_pos hck]
    rw [e]
    rcases Nat.eq_zero_or_pos n with h0 | h0
    · subst h0
      have hc : im.code = [] := List.eq_nil_of_length_eq_zero hn.symm
      refine (Optimize.none_ A cap im w hC hw hTab hck).mono fun e w' ⟨he, hb⟩ => ⟨_, _, _, he, ?_, hb⟩
      have : optCode im.code = [] := by rw [hc]; rfl
      simp only [this]
      exact Rd.none_ _
    · obtain ⟨b, off, rfl, _, _⟩ := hC.2 h0
      exact Optimize.good b off n cap im w h0 hC hw hTab hck
  · have e : optimize im = (⟨[], 0, 0⟩, im.check.2) := by unfold optimize; rw [if_neg hck]
    rw [e]
    exact (Optimize.bad A n cap im w hC hw hTab hck).mono fun e w' ⟨he, hb⟩ => ⟨_, _, _, he, Rd.none_ _, hb⟩
end Go.Proofs.YteenmpjjaheggaaDoor
