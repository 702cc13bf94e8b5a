/- eval: variable, value, Expr, Test, Index with any lookup. -/
import Derived.Test.YtakfdnnlhjhcfaaGreatDoorM13
set_option linter.unusedVariables false
set_option linter.unusedSimpArgs false
set_option maxRecDepth 100000
set_option maxHeartbeats 4000000
namespace Bk
open Go Go.RowKit
def varE (k : Int) (lk : Option (List Int)) (ra : Int × Int) : Int × Int := match lk with
  | none => (0, 6)
  | some l => if k = 2 then (if l.length = 1 then (l.getD 0 0, 0) else (0, 7)) else if k = 4 then (if l.length = 0 then (0, 13) else (l.getLastD 0, 0)) else if k = 5 then (l.length, 0)
    else if ra.2 ≠ 0 then (0, ra.2) else if ra.1 < 0 ∨ (l.length : Int) ≤ ra.1 then (0, 12) else (l.getD ra.1.toNat 0, 0)
theorem Sl.read {w : World} {D : Nat → Prop} {v : Value} {n : Nat} {l : List Int} (h : Sl w D 1 v n (intCells l)) : ∃ A cap, v = .slice A n cap ∧ l.length = n ∧ n ≤ cap ∧ (0 < n → ∃ b off, A = some ⟨b, off, none⟩ ∧ D b ∧ ∀ i, i < n → w.cell? ⟨b, off + i, none⟩ = some (.int .i64 (l.getD i 0))) := by
  obtain ⟨A, cap, rfl, hcap, hA, hR⟩ := h
  have hl : l.length = n := by have := hR.1; simpa [intCells] using this
  refine ⟨A, cap, rfl, hl, hcap, fun h0 => ?_⟩
  obtain ⟨b, off, e, hD, hc⟩ := hR.2 h0
  refine ⟨b, off, e, hD, fun i hi => hc i _ ?_⟩
  rw [intCells_get _ _ (by omega)]
end Bk
namespace Go.Proofs.YtakfdnnlhjhcfaaGreatDoor
open Go.RowKit Bk
theorem eql_look (fn : Fn) (first cap : Array Value) (w : World) : (binOp BinOp.eql 209 (.func fn first cap) .nilFunc).run Tryz.prog w = .ok (.bool false) w := by
  have h : ∀ d, (Op.equalIn (d + 1) 209 (.func fn first cap) .nilFunc).run Tryz.prog w = .ok false w := by
    intro d
    simp [Op.equalIn, run_underlying Tryz.underlying209]
  simp [binOp, Op.equal, show Op.maxDepth = 9999 + 1 from rfl, h]
theorem c_Unary (op x : Int) (hop : op = 6 ∨ op = 7) (w : World) :
    Calls Tryz.prog 189 #[.int .u8 op, .int .i64 x] w fun e w' => e = .returned (.tuple #[.int .i64 (if op = 6 then Go.RowKit.wrap64 (-x) else if x = 0 then 1 else 0), .int .i64 0]) ∧ w = w' := by
  rcases hop with rfl | rfl
  · go_enter Tryz.func189, Tryz.ntmps189
    go_wp2_with fail
    refine bodyPost_ret_by (results_tmp2 rfl _ _ _) rfl ?_
    exact ⟨rfl, rfl⟩
  · go_enter Tryz.func189, Tryz.ntmps189
    go_wp2_with fail
    refine (ca_number _ _).mono ?_
    rintro en w2 ⟨rfl, rfl⟩
    go_wp2_with fail
    all_goals (refine bodyPost_ret_by (results_tmp2 rfl _ _ _) rfl ?_; first | exact ⟨rfl, rfl⟩ | simp_all [Array.getD])
def ValG (w : World) (B : Nat) (g : FuncId) (p : Value) (x : Nd) (r : Int × Int) : Prop := ∀ w', Below B w w' → Calls Tryz.prog 174 #[.agg #[.int .u8 x.k, .int .i64 x.num, .string x.nm, .slice x.A x.n x.cap], (.func (.func g) #[p] #[])] w' fun e w'' => e = .returned (.tuple #[.int .i64 r.1, .int .i64 r.2]) ∧ Below w'.heap.size w' w''
structure LkAt (w : World) (B : Nat) (g : FuncId) (p : Value) (look : ByteArray → Option (List Int)) : Prop where
  eg : ∀ args W, (callFunc g args).run Tryz.prog W = .ok (.enter g args) W
  get : ∀ s w', Below B w w' → Calls Tryz.prog g #[p, .string s] w' fun e w'' => LookX w'' (look s) e ∧ Below w'.heap.size w' w''
  len : ∀ s l, look s = some l → l.length ≤ 1000
section
variable {w : World} {B : Nat} (hBw : B ≤ w.heap.size) {g : FuncId} {p : Value} {look : ByteArray → Option (List Int)} (hL : LkAt w B g p look)
include hBw hL
theorem e_varG (x : Nd) (hk : x.k = 2 ∨ x.k = 3 ∨ x.k = 4 ∨ x.k = 5) {ra : Int × Int} (hit : x.k = 3 → x.n = 1 ∧ ∃ y, Kid w B x 0 y ∧ ValG w B g p y ra) (w' : World) (hb : Below B w w') :
    Calls Tryz.prog 188 #[.agg #[.int .u8 x.k, .int .i64 x.num, .string x.nm, .slice x.A x.n x.cap], (.func (.func g) #[p] #[])] w' fun e w'' => e = .returned (.tuple #[.int .i64 (varE x.k (look x.nm) ra).1, .int .i64 (varE x.k (look x.nm) ra).2]) ∧ Below w'.heap.size w' w'' := by
  have eg := hL.eg
  have HG := Lib.hid (fun W hW => hL.get x.nm W hW)
  have HLEN := Lib.hid (hL.len x.nm)
  have HIT := Lib.hid hit
  generalize look x.nm = lk at *
  obtain ⟨r, hr⟩ : ∃ r, varE x.k lk ra = r := ⟨_, rfl⟩
  have HR := Lib.hid hr
  rw [hr]
  clear hL hit hr
  obtain ⟨k, num, nm, A, n, cap⟩ := x
  dsimp only at *
  go_enter Tryz.func188, Tryz.ntmps188
  have hBw' : B ≤ w'.heap.size := (by have := hb.size; omega); have HB := Lib.hid hb; clear hb; go_upto_region 1 with fail; refine wp_nameE ?_; intro w1 hw1; have hb1 : Below w'.heap.size w' w1 := (by rw [hw1]; exact (by go_grown)); have K1 : Blk w1 w'.heap.size 26 #[.int .u8 k, .int .i64 num, .string nm, .slice A n cap] := (by rw [hw1]; exact blkA); have HK1 := Lib.hid K1; have HB1 := Lib.hid hb1; have HW1 := Lib.hid (HB.out.trans (hb1.mono hBw')); clear hw1 hb1; obtain ⟨z_1, T_1, F_1⟩ := K1.open_; clear K1; go_wp2_with fail
  refine (HG.out w1 HW1.out).mono ?_
  rintro en w2 ⟨he, hb2⟩
  have HB2 := Lib.hid (HB1.out.next hb2); have HW2 := Lib.hid (HB.out.trans ((HB1.out.next hb2).mono hBw')); have K2 := HK1.out.next hb2
  clear T_1 z_1 F_1 hb2
  have HK2 := Lib.hid K2
  obtain ⟨z_1, T_1, F_1⟩ := K2.open_
  clear K2
  cases lk with
  | none =>
    obtain ⟨A', n', c', rfl⟩ := he
    obtain rfl : r = (0, 6) := by rw [← HR.out]; rfl
    go_wp2_with fail
    refine bodyPost_ret_by (results_tmp2 rfl _ _ _) rfl ?_
    exact ⟨rfl, HB2.out⟩
  | some l =>
    obtain ⟨v, rfl, hs⟩ := he
    have hle := HLEN.out l rfl
    obtain ⟨A', cap', rfl, _, _, hrd⟩ := Sl.read hs
    have HRD := Lib.hid hrd
    clear hs hrd
    rcases hk with rfl | rfl | rfl | rfl
    · by_cases h1 : l.length = 1
      · obtain ⟨b, off, rfl, _, hc⟩ := HRD.out (by omega)
        have c0 := hc 0 (by omega)
        rw [Nat.add_zero] at c0
        obtain rfl : r = (l.getD 0 0, 0) := by rw [← HR.out]; simp [varE, h1]
        have hne : ((l.length : Int) != 1) = false := bne_eq_false_iff_eq.2 (by omega)
        have HF1 := Lib.hid h1
        have q0 : (0 : Int) < (l.length : Int) := by omega
        clear h1 hc
        go_wp2_with fail
        refine bodyPost_ret_by (results_tmp2 rfl _ _ _) rfl ?_
        exact ⟨rfl, HB2.out⟩
      · obtain rfl : r = (0, 7) := by rw [← HR.out]; simp [varE, h1]
        have hne : ((l.length : Int) != 1) = true := bne_iff_ne.2 (by omega)
        go_wp2_with fail
        refine bodyPost_ret_by (results_tmp2 rfl _ _ _) rfl ?_
        exact ⟨rfl, HB2.out⟩
    · obtain ⟨rfl, y, hky, hv⟩ := HIT.out rfl
      obtain ⟨gk, ok, hAk, hgk, c0, c1, c2, c3⟩ := hky.cells HW2.out
      have HV := Lib.hid hv
      rw [Nat.zero_mul, Nat.add_zero] at c0 c1 c2 c3
      dsimp only at hAk
      subst hAk
      clear hky hv
      go_wp2_with fail
      refine (HV.out w2 HW2.out).mono ?_
      rintro en w3 ⟨rfl, hb3⟩
      have HB3 := Lib.hid (HB2.out.next hb3)
      have HX3 := Lib.hid hb3
      clear T_1 z_1 F_1 hb3 c0 c1 c2 c3
      obtain ⟨rv, re⟩ := ra
      dsimp only at *
      by_cases h1 : re = 0
      · subst h1
        by_cases h2 : rv < 0
        · obtain rfl : r = (0, 12) := by rw [← HR.out]; simp [varE, h2]
          go_wp2_with fail
          refine bodyPost_ret_by (results_tmp2 rfl _ _ _) rfl ?_
          exact ⟨rfl, HB3.out⟩
        · by_cases h3 : (l.length : Int) ≤ rv
          · obtain rfl : r = (0, 12) := by rw [← HR.out]; simp [varE, h3]
            go_wp2_with fail
            refine bodyPost_ret_by (results_tmp2 rfl _ _ _) rfl ?_
            exact ⟨rfl, HB3.out⟩
          · obtain ⟨i, rfl⟩ : ∃ i : Nat, rv = (i : Int) := ⟨rv.toNat, by omega⟩
            obtain ⟨b, off, rfl, hbl, hc⟩ := HRD.out (by omega)
            have d0 := (HX3.out.cell (p := ⟨b, off + i, none⟩) hbl).trans (hc i (by omega))
            obtain rfl : r = (l.getD i 0, 0) := by rw [← HR.out]; simp [varE, h2, h3]
            have j0 : (0 : Int) ≤ (i : Int) := by omega
            have j1 : (i : Int) < (l.length : Int) := by omega
            have j2 : ¬ ((i : Int) < 0) := by omega
            have j3 : ¬ ((l.length : Int) ≤ (i : Int)) := by omega
            clear h2 h3 hc
            go_wp2_with fail
            refine bodyPost_ret_by (results_tmp2 rfl _ _ _) rfl ?_
            exact ⟨rfl, HB3.out⟩
      · have h1' : (re != 0) = true := by simpa using h1
        obtain rfl : r = (0, re) := by rw [← HR.out]; simp [varE, h1]
        go_wp2_with fail
        refine bodyPost_ret_by (results_tmp2 rfl _ _ _) rfl ?_
        exact ⟨rfl, HB3.out⟩
    · by_cases h1 : l.length = 0
      · have hne : ((l.length : Int) == 0) = true := beq_iff_eq.2 (by omega)
        obtain rfl : r = (0, 13) := by rw [← HR.out]; simp [varE, h1]
        go_wp2_with fail
        refine bodyPost_ret_by (results_tmp2 rfl _ _ _) rfl ?_
        exact ⟨rfl, HB2.out⟩
      · have hne : ((l.length : Int) == 0) = false := beq_eq_false_iff_ne.2 (by omega)
        obtain ⟨b, off, rfl, _, hc⟩ := HRD.out (by omega)
        have c0 := hc (l.length - 1) (by omega)
        have HRR : Hid (r = (l.getD (l.length - 1) 0, 0)) := Lib.hid (by rw [← HR.out]; simp [varE, h1, List.getLastD_eq_getLast?, List.getLast?_eq_getElem?, List.getD_eq_getElem?_getD])
        obtain ⟨m, hm⟩ : ∃ m, l.length = m + 1 := ⟨l.length - 1, by omega⟩
        have HM := Lib.hid hm
        rw [hm] at HRR hle hne c0 ⊢
        rw [Nat.add_sub_cancel] at c0 HRR
        obtain rfl := HRR.out
        have hw : wrap64 (m : Int) = (m : Int) := by unfold wrap64; omega
        have j0 : (0 : Int) ≤ (m : Int) := by omega
        have j1 : (m : Int) < ((m + 1 : Nat) : Int) := by omega
        clear hc hm h1
        go_wp2_with fail
        refine bodyPost_ret_by (results_tmp2 rfl _ _ _) rfl ?_
        exact ⟨by simp [hw], HB2.out⟩
    · obtain rfl : r = ((l.length : Int), 0) := by rw [← HR.out]; simp [varE]
      go_wp2_with fail
      refine bodyPost_ret_by (results_tmp2 rfl _ _ _) rfl ?_
      exact ⟨rfl, HB2.out⟩
omit hBw hL in
theorem val_num (x : Nd) (hk : x.k = 1) : ValG w B g p x (x.num, 0) := by
  intro w' hb
  obtain ⟨k, num, nm, A, n, cap⟩ := x
  dsimp only at *
  subst hk
  have hb0 := Lib.hid hb
  clear hb
  go_enter Tryz.func174, Tryz.ntmps174
  go_wp2_with fail
  refine bodyPost_ret_by (results_tmp2 rfl _ _ _) rfl ?_
  exact ⟨rfl, by go_grown⟩
omit hL in
theorem val_var (x : Nd) (hk : x.k = 2 ∨ x.k = 3 ∨ x.k = 4 ∨ x.k = 5) {r : Int × Int} (hv : ∀ W, Below B w W → Calls Tryz.prog 188 #[.agg #[.int .u8 x.k, .int .i64 x.num, .string x.nm, .slice x.A x.n x.cap], (.func (.func g) #[p] #[])] W fun e w'' => e = .returned (.tuple #[.int .i64 r.1, .int .i64 r.2]) ∧ Below W.heap.size W w'') : ValG w B g p x r := by
  intro w' hb
  have HV := Lib.hid hv
  obtain ⟨k, num, nm, A, n, cap⟩ := x
  dsimp only at *
  clear hv
  have k1 : (k == 1) = false := beq_eq_false_iff_ne.2 (by omega)
  rcases hk with hk | hk | hk | hk
  · have k2 : (k == 2) = true := beq_iff_eq.2 (by omega)
    clear hk
    go_enter Tryz.func174, Tryz.ntmps174
    have hBw' : B ≤ w'.heap.size := (by have := hb.size; omega); have HB := Lib.hid hb; clear hb; go_upto_region 1 with fail; refine wp_nameE ?_; intro w1 hw1; have hb1 : Below w'.heap.size w' w1 := (by rw [hw1]; exact (by go_grown)); have K1 : Blk w1 w'.heap.size 26 #[.int .u8 k, .int .i64 num, .string nm, .slice A n cap] := (by rw [hw1]; exact blkA); have HK1 := Lib.hid K1; have HB1 := Lib.hid hb1; have HW1 := Lib.hid (HB.out.trans (hb1.mono hBw')); clear hw1 hb1; obtain ⟨z_1, T_1, F_1⟩ := K1.open_; clear K1; go_wp2_with fail
    refine (HV.out w1 HW1.out).mono ?_
    rintro en w2 ⟨rfl, hb2⟩; have HB2 := Lib.hid (HB1.out.next hb2); have HW2 := Lib.hid (HB.out.trans ((HB1.out.next hb2).mono hBw')); have K2 := HK1.out.next hb2; clear T_1 z_1 F_1 hb2; have HK2 := Lib.hid K2; obtain ⟨z_1, T_1, F_1⟩ := K2.open_; clear K2
    go_wp2_with fail
    refine bodyPost_ret_by (results_tmp2 rfl _ _ _) rfl ?_
    exact ⟨rfl, HB2.out⟩
  · have k2 : (k == 2) = false := beq_eq_false_iff_ne.2 (by omega)
    have k3 : (k == 3) = true := beq_iff_eq.2 (by omega)
    clear hk
    go_enter Tryz.func174, Tryz.ntmps174
    have hBw' : B ≤ w'.heap.size := (by have := hb.size; omega); have HB := Lib.hid hb; clear hb; go_upto_region 1 with fail; refine wp_nameE ?_; intro w1 hw1; have hb1 : Below w'.heap.size w' w1 := (by rw [hw1]; exact (by go_grown)); have K1 : Blk w1 w'.heap.size 26 #[.int .u8 k, .int .i64 num, .string nm, .slice A n cap] := (by rw [hw1]; exact blkA); have HK1 := Lib.hid K1; have HB1 := Lib.hid hb1; have HW1 := Lib.hid (HB.out.trans (hb1.mono hBw')); clear hw1 hb1; obtain ⟨z_1, T_1, F_1⟩ := K1.open_; clear K1; go_wp2_with fail
    refine (HV.out w1 HW1.out).mono ?_
    rintro en w2 ⟨rfl, hb2⟩; have HB2 := Lib.hid (HB1.out.next hb2); have HW2 := Lib.hid (HB.out.trans ((HB1.out.next hb2).mono hBw')); have K2 := HK1.out.next hb2; clear T_1 z_1 F_1 hb2; have HK2 := Lib.hid K2; obtain ⟨z_1, T_1, F_1⟩ := K2.open_; clear K2
    go_wp2_with fail
    refine bodyPost_ret_by (results_tmp2 rfl _ _ _) rfl ?_
    exact ⟨rfl, HB2.out⟩
  · have k2 : (k == 2) = false := beq_eq_false_iff_ne.2 (by omega)
    have k3 : (k == 3) = false := beq_eq_false_iff_ne.2 (by omega)
    have k4 : (k == 4) = true := beq_iff_eq.2 (by omega)
    clear hk
    go_enter Tryz.func174, Tryz.ntmps174
    have hBw' : B ≤ w'.heap.size := (by have := hb.size; omega); have HB := Lib.hid hb; clear hb; go_upto_region 1 with fail; refine wp_nameE ?_; intro w1 hw1; have hb1 : Below w'.heap.size w' w1 := (by rw [hw1]; exact (by go_grown)); have K1 : Blk w1 w'.heap.size 26 #[.int .u8 k, .int .i64 num, .string nm, .slice A n cap] := (by rw [hw1]; exact blkA); have HK1 := Lib.hid K1; have HB1 := Lib.hid hb1; have HW1 := Lib.hid (HB.out.trans (hb1.mono hBw')); clear hw1 hb1; obtain ⟨z_1, T_1, F_1⟩ := K1.open_; clear K1; go_wp2_with fail
    refine (HV.out w1 HW1.out).mono ?_
    rintro en w2 ⟨rfl, hb2⟩; have HB2 := Lib.hid (HB1.out.next hb2); have HW2 := Lib.hid (HB.out.trans ((HB1.out.next hb2).mono hBw')); have K2 := HK1.out.next hb2; clear T_1 z_1 F_1 hb2; have HK2 := Lib.hid K2; obtain ⟨z_1, T_1, F_1⟩ := K2.open_; clear K2
    go_wp2_with fail
    refine bodyPost_ret_by (results_tmp2 rfl _ _ _) rfl ?_
    exact ⟨rfl, HB2.out⟩
  · have k2 : (k == 2) = false := beq_eq_false_iff_ne.2 (by omega)
    have k3 : (k == 3) = false := beq_eq_false_iff_ne.2 (by omega)
    have k4 : (k == 4) = false := beq_eq_false_iff_ne.2 (by omega)
    have k5 : (k == 5) = true := beq_iff_eq.2 (by omega)
    clear hk
    go_enter Tryz.func174, Tryz.ntmps174
    have hBw' : B ≤ w'.heap.size := (by have := hb.size; omega); have HB := Lib.hid hb; clear hb; go_upto_region 1 with fail; refine wp_nameE ?_; intro w1 hw1; have hb1 : Below w'.heap.size w' w1 := (by rw [hw1]; exact (by go_grown)); have K1 : Blk w1 w'.heap.size 26 #[.int .u8 k, .int .i64 num, .string nm, .slice A n cap] := (by rw [hw1]; exact blkA); have HK1 := Lib.hid K1; have HB1 := Lib.hid hb1; have HW1 := Lib.hid (HB.out.trans (hb1.mono hBw')); clear hw1 hb1; obtain ⟨z_1, T_1, F_1⟩ := K1.open_; clear K1; go_wp2_with fail
    refine (HV.out w1 HW1.out).mono ?_
    rintro en w2 ⟨rfl, hb2⟩; have HB2 := Lib.hid (HB1.out.next hb2); have HW2 := Lib.hid (HB.out.trans ((HB1.out.next hb2).mono hBw')); have K2 := HK1.out.next hb2; clear T_1 z_1 F_1 hb2; have HK2 := Lib.hid K2; obtain ⟨z_1, T_1, F_1⟩ := K2.open_; clear K2
    go_wp2_with fail
    refine bodyPost_ret_by (results_tmp2 rfl _ _ _) rfl ?_
    exact ⟨rfl, HB2.out⟩
omit hL in
theorem val_op0 (x : Nd) (hk : 6 ≤ x.k ∧ x.k ≤ 23) (hn : 0 < x.n) {y : Nd} (hky : Kid w B x 0 y) {r : Int × Int} (ih : ValG w B g p y r) (he : r.2 ≠ 0) : ValG w B g p x (0, r.2) := by
  intro w' hb
  have HB := Lib.hid hb; have HKY := Lib.hid hky; have HV := Lib.hid ih
  have hBw' : B ≤ w'.heap.size := by have := hb.size; omega
  clear hb hky ih
  obtain ⟨k, num, nm, A, n, cap⟩ := x
  obtain ⟨rv, re⟩ := r
  dsimp only at *
  obtain ⟨gk, ok, hAk, hgk, c0, c1, c2, c3⟩ := HKY.out.cells HB.out; rw [Nat.zero_mul, Nat.add_zero] at c0 c1 c2 c3; dsimp only at hAk; subst hAk; have C0 := Lib.hid c0; have C1 := Lib.hid c1; have C2 := Lib.hid c2; have C3 := Lib.hid c3; clear c0 c1 c2 c3
  have k1 : (k == 1) = false := beq_eq_false_iff_ne.2 (by omega)
  have k2 : (k == 2) = false := beq_eq_false_iff_ne.2 (by omega)
  have k3 : (k == 3) = false := beq_eq_false_iff_ne.2 (by omega)
  have k4 : (k == 4) = false := beq_eq_false_iff_ne.2 (by omega)
  have k5 : (k == 5) = false := beq_eq_false_iff_ne.2 (by omega)
  have hne : (re != 0) = true := bne_iff_ne.2 he
  have q0 : (0 : Int) < (n : Int) := by omega
  go_enter Tryz.func174, Tryz.ntmps174
  (go_upto_region 1 with fail; refine wp_nameE ?_; intro w1 hw1; have hb1 : Below w'.heap.size w' w1 := (by rw [hw1]; exact (by go_grown)); have K1 : Blk w1 w'.heap.size 26 #[.int .u8 k, .int .i64 num, .string nm, .slice (some ⟨gk, ok, none⟩) n cap] := (by rw [hw1]; exact blkA); have HK1 := Lib.hid K1; have HB1 := Lib.hid hb1; have HW1 := Lib.hid (HB.out.trans (hb1.mono hBw')); clear hw1 hb1; obtain ⟨z_1, T_1, F_1⟩ := K1.open_; clear K1; have c0 := (HB1.out.cell (p := ⟨gk, ok, none⟩) (by show gk < _; omega)).trans C0.out; have c1 := (HB1.out.cell (p := ⟨gk, ok + 1, none⟩) (by show gk < _; omega)).trans C1.out; have c2 := (HB1.out.cell (p := ⟨gk, ok + 2, none⟩) (by show gk < _; omega)).trans C2.out; have c3 := (HB1.out.cell (p := ⟨gk, ok + 3, none⟩) (by show gk < _; omega)).trans C3.out)
  go_wp2_with fail
  refine (HV.out w1 HW1.out).mono ?_
  rintro en w2 ⟨rfl, hb2⟩; have HB2 := Lib.hid (HB1.out.next hb2); have HW2 := Lib.hid (HB.out.trans ((HB1.out.next hb2).mono hBw')); have K2 := HK1.out.next hb2; clear T_1 z_1 F_1 hb2; have HK2 := Lib.hid K2; obtain ⟨z_1, T_1, F_1⟩ := K2.open_; clear K2
  clear c0 c1 c2 c3
  go_wp2_with fail
  refine bodyPost_ret_by (results_tmp2 rfl _ _ _) rfl ?_
  exact ⟨rfl, HB2.out⟩
omit hL in
theorem val_un (x : Nd) (hk : x.k = 6 ∨ x.k = 7) (hn : x.n = 1) {y : Nd} (hky : Kid w B x 0 y) {r : Int × Int} (ih : ValG w B g p y r) (he : r.2 = 0) : ValG w B g p x (if x.k = 6 then Go.RowKit.wrap64 (-r.1) else if r.1 = 0 then 1 else 0, 0) := by
  intro w' hb
  have HB := Lib.hid hb; have HKY := Lib.hid hky; have HV := Lib.hid ih
  have hBw' : B ≤ w'.heap.size := by have := hb.size; omega
  clear hb hky ih
  obtain ⟨k, num, nm, A, n, cap⟩ := x
  obtain ⟨rv, re⟩ := r
  dsimp only at *
  obtain ⟨gk, ok, hAk, hgk, c0, c1, c2, c3⟩ := HKY.out.cells HB.out; rw [Nat.zero_mul, Nat.add_zero] at c0 c1 c2 c3; dsimp only at hAk; subst hAk; have C0 := Lib.hid c0; have C1 := Lib.hid c1; have C2 := Lib.hid c2; have C3 := Lib.hid c3; clear c0 c1 c2 c3
  subst hn; subst he
  have HU := Lib.hid (fun W => c_Unary k rv hk W)
  generalize (if k = 6 then Go.RowKit.wrap64 (-rv) else if rv = 0 then 1 else 0) = q at *
  have k1 : (k == 1) = false := beq_eq_false_iff_ne.2 (by omega)
  have k2 : (k == 2) = false := beq_eq_false_iff_ne.2 (by omega)
  have k3 : (k == 3) = false := beq_eq_false_iff_ne.2 (by omega)
  have k4 : (k == 4) = false := beq_eq_false_iff_ne.2 (by omega)
  have k5 : (k == 5) = false := beq_eq_false_iff_ne.2 (by omega)
  go_enter Tryz.func174, Tryz.ntmps174
  (go_upto_region 1 with fail; refine wp_nameE ?_; intro w1 hw1; have hb1 : Below w'.heap.size w' w1 := (by rw [hw1]; exact (by go_grown)); have K1 : Blk w1 w'.heap.size 26 #[.int .u8 k, .int .i64 num, .string nm, .slice (some ⟨gk, ok, none⟩) 1 cap] := (by rw [hw1]; exact blkA); have HK1 := Lib.hid K1; have HB1 := Lib.hid hb1; have HW1 := Lib.hid (HB.out.trans (hb1.mono hBw')); clear hw1 hb1; obtain ⟨z_1, T_1, F_1⟩ := K1.open_; clear K1; have c0 := (HB1.out.cell (p := ⟨gk, ok, none⟩) (by show gk < _; omega)).trans C0.out; have c1 := (HB1.out.cell (p := ⟨gk, ok + 1, none⟩) (by show gk < _; omega)).trans C1.out; have c2 := (HB1.out.cell (p := ⟨gk, ok + 2, none⟩) (by show gk < _; omega)).trans C2.out; have c3 := (HB1.out.cell (p := ⟨gk, ok + 3, none⟩) (by show gk < _; omega)).trans C3.out)
  go_wp2_with fail
  refine (HV.out w1 HW1.out).mono ?_
  rintro en w2 ⟨rfl, hb2⟩; have HB2 := Lib.hid (HB1.out.next hb2); have HW2 := Lib.hid (HB.out.trans ((HB1.out.next hb2).mono hBw')); have K2 := HK1.out.next hb2; clear T_1 z_1 F_1 hb2; have HK2 := Lib.hid K2; obtain ⟨z_1, T_1, F_1⟩ := K2.open_; clear K2
  clear c0 c1 c2 c3
  go_wp2_with fail
  refine (HU.out w2).mono ?_
  rintro en w3 ⟨rfl, rfl⟩
  go_wp2_with fail
  refine bodyPost_ret_by (results_tmp2 rfl _ _ _) rfl ?_
  exact ⟨rfl, HB2.out⟩
omit hL in
theorem val_bin (x : Nd) (hk : 8 ≤ x.k ∧ x.k ≤ 23) (hn : x.n = 2) {y z : Nd} (hky : Kid w B x 0 y) (hkz : Kid w B x 1 z) {r q : Int × Int} (ih : ValG w B g p y r) (ih2 : ValG w B g p z q) (he : r.2 = 0) : ValG w B g p x (if q.2 ≠ 0 then (0, q.2) else apply x.k r.1 q.1) := by
  intro w' hb
  have HB := Lib.hid hb; have HKY := Lib.hid hky; have HKZ := Lib.hid hkz; have HV := Lib.hid ih; have HV2 := Lib.hid ih2
  have hBw' : B ≤ w'.heap.size := by have := hb.size; omega
  clear hb hky hkz ih ih2
  obtain ⟨k, num, nm, A, n, cap⟩ := x
  obtain ⟨rv, re⟩ := r
  obtain ⟨qv, qe⟩ := q
  dsimp only at *
  obtain ⟨gk, ok, hAk, hgk, c0, c1, c2, c3⟩ := HKY.out.cells HB.out; rw [Nat.zero_mul, Nat.add_zero] at c0 c1 c2 c3; dsimp only at hAk; subst hAk; have C0 := Lib.hid c0; have C1 := Lib.hid c1; have C2 := Lib.hid c2; have C3 := Lib.hid c3; clear c0 c1 c2 c3
  subst hn; subst he
  have HA := Lib.hid (fun W => c_Apply k rv qv W)
  obtain ⟨ar, har⟩ : ∃ ar, apply k rv qv = ar := ⟨_, rfl⟩
  rw [har] at HA ⊢
  obtain ⟨av, ae⟩ := ar
  dsimp only at HA
  clear har
  have k1 : (k == 1) = false := beq_eq_false_iff_ne.2 (by omega)
  have k2 : (k == 2) = false := beq_eq_false_iff_ne.2 (by omega)
  have k3 : (k == 3) = false := beq_eq_false_iff_ne.2 (by omega)
  have k4 : (k == 4) = false := beq_eq_false_iff_ne.2 (by omega)
  have k5 : (k == 5) = false := beq_eq_false_iff_ne.2 (by omega)
  go_enter Tryz.func174, Tryz.ntmps174
  (go_upto_region 1 with fail; refine wp_nameE ?_; intro w1 hw1; have hb1 : Below w'.heap.size w' w1 := (by rw [hw1]; exact (by go_grown)); have K1 : Blk w1 w'.heap.size 26 #[.int .u8 k, .int .i64 num, .string nm, .slice (some ⟨gk, ok, none⟩) 2 cap] := (by rw [hw1]; exact blkA); have HK1 := Lib.hid K1; have HB1 := Lib.hid hb1; have HW1 := Lib.hid (HB.out.trans (hb1.mono hBw')); clear hw1 hb1; obtain ⟨z_1, T_1, F_1⟩ := K1.open_; clear K1; have c0 := (HB1.out.cell (p := ⟨gk, ok, none⟩) (by show gk < _; omega)).trans C0.out; have c1 := (HB1.out.cell (p := ⟨gk, ok + 1, none⟩) (by show gk < _; omega)).trans C1.out; have c2 := (HB1.out.cell (p := ⟨gk, ok + 2, none⟩) (by show gk < _; omega)).trans C2.out; have c3 := (HB1.out.cell (p := ⟨gk, ok + 3, none⟩) (by show gk < _; omega)).trans C3.out)
  go_wp2_with fail
  refine (HV.out w1 HW1.out).mono ?_
  rintro en w2 ⟨rfl, hb2⟩; have HB2 := Lib.hid (HB1.out.next hb2); have HW2 := Lib.hid (HB.out.trans ((HB1.out.next hb2).mono hBw')); have K2 := HK1.out.next hb2; clear T_1 z_1 F_1 hb2; have HK2 := Lib.hid K2; obtain ⟨z_1, T_1, F_1⟩ := K2.open_; clear K2
  clear c0 c1 c2 c3
  obtain ⟨gk', ok', hAk, hgk', c0, c1, c2, c3⟩ := HKZ.out.cells HW2.out
  rw [Nat.one_mul] at c0 c1 c2 c3
  dsimp only at hAk
  injection hAk with hAk
  injection hAk with e1 e2
  subst e1; subst e2
  go_wp2_with fail
  refine (HV2.out w2 HW2.out).mono ?_
  rintro en w3 ⟨rfl, hb3⟩
  have HB3 := Lib.hid (HB2.out.next hb3); have K3 := HK2.out.next hb3
  clear T_1 z_1 F_1 hb3 c0 c1 c2 c3
  obtain ⟨z_1, T_1, F_1⟩ := K3.open_
  clear K3
  by_cases hq : qe = 0
  · subst hq
    go_wp2_with fail
    refine (HA.out w3).mono ?_
    rintro en w4 ⟨rfl, rfl⟩
    go_wp2_with fail
    refine bodyPost_ret_by (results_tmp2 rfl _ _ _) rfl ?_
    exact ⟨by simp, HB3.out⟩
  · have hne : (qe != 0) = true := bne_iff_ne.2 hq
    go_wp2_with fail
    refine bodyPost_ret_by (results_tmp2 rfl _ _ _) rfl ?_
    exact ⟨by simp [hq], HB3.out⟩
theorem e_valueG : ∀ (e : Ex) (x : Nd), EV w B nameB e x → ValG w B g p x (evalG look e) := by
  intro e
  induction e with
  | num v => intro x ⟨h1, h2, _⟩; have := val_num (w := w) (B := B) (g := g) (p := p) x h1; rwa [h2] at this
  | var s =>
    intro x ⟨h1, h2, h3, h4, h5⟩
    have := val_var hBw x (.inl h1) (fun W hW => e_varG hBw hL x (.inl h1) (ra := (0, 0)) (fun h => by omega) W hW)
    rw [h1, h3] at this
    have e1 : varE 2 (look s) (0, 0) = evalG look (.var s) := by simp only [varE, evalG]; cases look s <;> simp
    rwa [e1] at this
  | top s =>
    intro x ⟨h1, h2, h3, h4, h5⟩
    have := val_var hBw x (.inr (.inr (.inl h1))) (fun W hW => e_varG hBw hL x (.inr (.inr (.inl h1))) (ra := (0, 0)) (fun h => by omega) W hW)
    rw [h1, h3] at this
    have e1 : varE 4 (look s) (0, 0) = evalG look (.top s) := by simp only [varE, evalG]; cases look s <;> simp
    rwa [e1] at this
  | size s =>
    intro x ⟨h1, h2, h3, h4, h5⟩
    have := val_var hBw x (.inr (.inr (.inr h1))) (fun W hW => e_varG hBw hL x (.inr (.inr (.inr h1))) (ra := (0, 0)) (fun h => by omega) W hW)
    rw [h1, h3] at this
    have e1 : varE 5 (look s) (0, 0) = evalG look (.size s) := by simp only [varE, evalG]; cases look s <;> simp
    rwa [e1] at this
  | item s a ih =>
    intro x ⟨h1, h2, h3, h4, h5, y, h6, h7⟩
    have := val_var hBw x (.inr (.inl h1)) (fun W hW => e_varG hBw hL x (.inr (.inl h1)) (ra := evalG look a) (fun _ => ⟨h5, y, h6, ih y h7⟩) W hW)
    rw [h1, h3] at this
    have e1 : varE 3 (look s) (evalG look a) = evalG look (.item s a) := by simp only [varE, evalG]; cases look s <;> simp
    rwa [e1] at this
  | un op a ih =>
    intro x ⟨h1, h2, h3, h4, h5, y, h6, h7⟩
    by_cases h0 : (evalG look a).2 = 0
    · have := val_un hBw x (by omega) h5 h6 (ih y h7) h0
      rw [h1] at this
      have e1 : evalG look (.un op a) = (if op = 6 then Go.RowKit.wrap64 (-(evalG look a).1) else if (evalG look a).1 = 0 then 1 else 0, 0) := by
        rw [evalG, if_neg (by omega)]; split <;> rfl
      rwa [← e1] at this
    · have := val_op0 hBw x (by omega) (by omega) h6 (ih y h7) h0
      rwa [show evalG look (.un op a) = (0, (evalG look a).2) by rw [evalG, if_pos h0]]
  | bin op a b iha ihb =>
    intro x ⟨h1, h2, h3, h4, h5, y, z, h6, h7, h8, h9⟩
    by_cases h0 : (evalG look a).2 = 0
    · have := val_bin hBw x (by omega) h5 h6 h7 (iha y h8) (ihb z h9) h0
      rw [h1] at this
      rwa [show evalG look (.bin op a b) = if (evalG look b).2 ≠ 0 then (0, (evalG look b).2) else apply op (evalG look a).1 (evalG look b).1 by rw [evalG, if_neg (by omega)]]
    · have := val_op0 hBw x (by omega) (by omega) h6 (iha y h8) h0
      rwa [show evalG look (.bin op a b) = (0, (evalG look a).2) by rw [evalG, if_pos h0]]
end
end Go.Proofs.YtakfdnnlhjhcfaaGreatDoor
