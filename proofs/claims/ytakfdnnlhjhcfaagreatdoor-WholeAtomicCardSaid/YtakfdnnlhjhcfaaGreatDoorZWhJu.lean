/- awakeRun's program is a program of a run; what its runs give. Printed by gen_whju.py. -/
import Derived.Test.YtakfdnnlhjhcfaaGreatDoorM37
import Derived.Test.YtakfdnnlhjhcfaaGreatDoorZWhKj
set_option linter.unusedVariables false
set_option linter.unusedSimpArgs false
set_option maxRecDepth 100000
set_option maxHeartbeats 4000000
namespace Bk
open Go Go.RowKit Go.Proofs.YtakfdnnlhjhcfaaGreatDoor
def vx : Vr := ⟨⟨#[120]⟩, 1, 0⟩
def pA : Pg := ⟨[vx], [], .upd 40 (.var ⟨#[120]⟩) (.num 3) .nil⟩
theorem nameX : nameB ⟨#[120]⟩ = true := by decide +kernel
theorem emp0 : (⟨#[]⟩ : ByteArray).toList.isEmpty = true := by decide +kernel
theorem findX : findV ⟨#[120]⟩ [vx] = some 0 := by decide +kernel
section
variable {w : World} {B g2 g3 cap : Nat} (h : TrAt w B g2 g3 cap)
include h
theorem tr_ev : EV w B nameB (.var ⟨#[120]⟩) nX ∧ EV w B nameB (.num 3) n3 := by
  have _ := h
  exact ⟨⟨rfl, rfl, rfl, nameX, rfl⟩, ⟨rfl, rfl, by decide, emp0, rfl⟩⟩
theorem tr_kv : KV w B 3 (nM g3 cap) ∧ KV w B 2 (nP g2) ∧ KV w B 1 nX ∧ KV w B 1 n3 := by
  have hx : KV w B 1 nX := ⟨by decide, by decide, by decide, by decide, fun _ => rfl, fun i hi => absurd hi (Nat.not_lt_zero _)⟩
  have h3 : KV w B 1 n3 := ⟨by decide, by decide, by decide, by decide, fun _ => rfl, fun i hi => absurd hi (Nat.not_lt_zero _)⟩
  have hp : KV w B 2 (nP g2) := ⟨(by show (0 : Int) ≤ 40 ∧ (40 : Int) ≤ 255; decide), (by show (-9223372036854775808 : Int) ≤ 0 ∧ (0 : Int) ≤ 9223372036854775807; decide), Nat.le_refl 2, by show 2 ≤ maxLen; unfold maxLen; omega, (fun e => by cases e), fun i hi => by
    match i, hi with
    | 0, _ => exact ⟨nX, h.kx, hx⟩
    | 1, _ => exact ⟨n3, h.k3, h3⟩⟩
  exact ⟨⟨(by show (0 : Int) ≤ 57 ∧ (57 : Int) ≤ 255; decide), (by show (-9223372036854775808 : Int) ≤ 0 ∧ (0 : Int) ≤ 9223372036854775807; decide), h.cap.1, h.cap.2, (fun e => by cases e), fun i hi => by
    have hi : i < 1 := hi
    obtain rfl : i = 0 := by omega
    exact ⟨nP g2, h.k0, hp⟩⟩, hp, hx, h3⟩
theorem tr_sq : SqAt w B 2 pA.main (nM g3 cap) := by
  obtain ⟨e1, e2⟩ := tr_ev h
  refine ⟨rfl, rfl, fun i hi => ?_⟩
  have hi : i < 1 := hi
  obtain rfl : i = 0 := by omega
  exact ⟨nP g2, h.k0, rfl, .inl rfl, by show plainB (nP g2) = true; simp [plainB, nP, emp0], rfl, trivial, nX, n3, h.kx, h.k3, e1, e2⟩
theorem tr_kids : kidN w B (nM g3 cap) 0 = nP g2 ∧ kidN w B (nP g2) 0 = nX ∧ kidN w B (nP g2) 1 = n3 := ⟨kidN_eq h.k0, kidN_eq h.kx, kidN_eq h.k3⟩
theorem tr_lim : limF w B 3 (nM g3 cap) 80 2000 = (true, 1996) := by
  obtain ⟨k0, k1, k2⟩ := tr_kids h
  have lx : ∀ lf, 0 < lf → limF w B 1 nX 78 lf = (true, lf - 1) := fun lf hl => by rw [limF, if_neg (by omega)]; rfl
  have l3 : ∀ lf, 0 < lf → limF w B 1 n3 78 lf = (true, lf - 1) := fun lf hl => by rw [limF, if_neg (by omega)]; rfl
  have lp : limF w B 2 (nP g2) 79 1999 = (true, 1996) := by
    rw [limF, if_neg (by omega)]
    show limTo _ 2 1998 = _
    simp only [limTo, k1, k2, if_true]
    rw [lx 1998 (by omega)]
    simp only [if_true]
    rw [l3 _ (by omega)]
  rw [limF, if_neg (by omega)]
  show limTo _ 1 1999 = _
  simp only [limTo, k0, if_true]
  exact lp
theorem tr_bl : blB w B 3 (nM g3 cap) = true := by
  obtain ⟨k0, k1, k2⟩ := tr_kids h
  obtain ⟨e1, e2⟩ := tr_ev h
  have x1 : exB w B nX = true := by simp only [exB, decide_eq_true_eq]; exact ⟨_, e1⟩
  have x2 : exB w B n3 = true := by simp only [exB, decide_eq_true_eq]; exact ⟨_, e2⟩
  have p1 : plB w B nX = true := by unfold plB; rw [x1]; rfl
  have s1 : stB w B 2 (nP g2) = true := by
    unfold stB
    dsimp only
    rw [if_pos (.inl rfl)]
    have hp : plainB (nP g2) = true := by simp [plainB, nP, emp0]
    rw [hp, show decide ((nP g2).n = 2) = true from rfl]
    simp [allTo, k1, k2, p1, x2]
  unfold blB
  rw [show decide ((nM g3 cap).k = 57) = true from rfl, show plainB (nM g3 cap) = true by simp [plainB, nM, emp0]]
  show (true && (true && allTo _ 1)) = true
  simp [allTo, k0, s1]
theorem tr_val : Go.Proofs.YtakfdnnlhjhcfaaGreatDoor.validB w B 3 [vx] [] (nM g3 cap) = true := by
  have hd : declsB [vx] = true := by simp only [declsB, decide_eq_true_eq]; intro v hv; simp at hv; subst hv; decide +kernel
  have hb : bodyB w B 3 (nM g3 cap) = true := by unfold bodyB; rw [tr_lim h, tr_bl h]; rfl
  unfold Go.Proofs.YtakfdnnlhjhcfaaGreatDoor.validB
  rw [hd, hb]; rfl
theorem tr_chk : chkN w B 3 [vx] [] (nM g3 cap) = 0 := by
  obtain ⟨k0, k1, k2⟩ := tr_kids h
  unfold chkN
  rw [if_pos (tr_val h)]
  unfold cntP
  have hd : dupC [vx] 0 = 0 := by decide +kernel
  have f1 : faultX [vx] [] nX = 0 := by
    show useE [vx] ⟨#[120]⟩ 1 = 0
    unfold useE; rw [findX]; rfl
  have cx : cntB w B [] 1 nX [vx] = 0 := by
    rw [cntB, f1]; rfl
  have c3 : cntB w B [] 1 n3 [vx] = 0 := rfl
  have i0 : innerX (nP g2) 0 [vx] = [vx] := rfl
  have i1 : innerX (nP g2) 1 [vx] = [vx] := rfl
  have cp : cntB w B [] 2 (nP g2) [vx] = 0 := by
    rw [cntB]
    show one 0 + sumTo _ 2 = 0
    simp only [sumTo, k1, k2, i0, i1, cx, c3]; rfl
  have cm : cntB w B [] 3 (nM g3 cap) [vx] = 0 := by
    rw [cntB]
    show one 0 + sumTo _ 1 = 0
    have j0 : innerX (nM g3 cap) 0 [vx] = [vx] := rfl
    simp only [sumTo, k0, j0, cp]; rfl
  rw [cm]
  show sumTo (dupC [vx]) 1 + 0 + 0 = 0
  simp only [sumTo, hd]
end
theorem fitA (n : Int) : fitsS pA.vars [[n]] [] [] = true := by
  unfold fitsS
  have hv : valB pA.vars = true := by unfold valB; simp [pA, vx, kndB]
  rw [hv]
  simp only [Bool.true_and, Bool.and_eq_true, decide_eq_true_eq]
  refine ⟨rfl, by decide, by decide, fun i v l h1 h2 => ?_⟩
  match i, h1, h2 with
  | 0, h1, h2 =>
    simp [pA] at h1; simp at h2; subst h1; subst h2; rfl
theorem runF : runP pA false [[4]] [] [] 10 = .ok (⟨[[7]], ⟨[vx], [0], 0⟩, [], [], []⟩, 9) := by kernel_rfl
theorem runB : runP pA true [[4]] [] [] 10 = .ok (⟨[[1]], ⟨[vx], [0], 0⟩, [], [], []⟩, 9) := by kernel_rfl
end Bk
namespace Go.Proofs.YtakfdnnlhjhcfaaGreatDoor
open Go.RowKit Bk
theorem PrgAt.prog {w : World} {lo g2 : Nat} {vv v : Value} (h : PrgAt w lo vv g2 v) : ∃ V cv g3 cap, vv = .slice V 1 cv ∧ v = .slice (some ⟨g3, 0, none⟩) 1 cap ∧ ProgAt w w.heap.size 2 V 1 cv none 0 0 (nM g3 cap) pA [] := by
  obtain ⟨g3, cap, rfl, ht⟩ := Bk.K1At.tree h.2
  obtain ⟨g1, cv, rfl, _, hg, hc, hcl⟩ := own_ex h.1 (by decide)
  have hv : VsAt w w.heap.size (some ⟨g1, 0, none⟩) [vx] := fun i u hu => by
    match i, hu with
    | 0, hu =>
      simp at hu; subst hu
      exact ⟨g1, 0, rfl, hg, hcl 0 _ rfl, hcl 1 _ rfl, hcl 2 _ rfl⟩
  have hq : PrsAt w w.heap.size 3 none [] := fun i p hp => by simp at hp
  refine ⟨_, cv, g3, cap, rfl, rfl, ⟨Nat.le_refl _, hv, rfl, hq, rfl, by decide, rfl, fun i c u hc => by simp at hc, tr_sq ht, (tr_kv ht).1, ⟨⟩, fun W hW => ?_, fun W hW => ?_⟩⟩
  · exact (e_ValidP (Nat.le_refl _) _ 1 cv [vx] hv rfl (by decide) none 0 0 [] hq rfl (by decide) (nM g3 cap) (tr_kv ht).1 W hW).mono fun en w'' h => ⟨by rw [h.1, tr_val ht], h.2⟩
  · refine (e_CheckX (Nat.le_refl _) _ 1 cv [vx] hv rfl (by decide) hc (fun e => by cases e) none 0 0 [] hq rfl (by decide) (fun p hp => by simp at hp) (nM g3 cap) (tr_kv ht).1 W hW).mono ?_
    rintro en w'' ⟨⟨A, c, h1⟩, h2⟩
    rw [tr_chk ht] at h1
    exact ⟨A, c, h1, h2⟩
theorem PrgAt.prog' {w : World} {lo g2 g3 cv cap : Nat} {V : Option Addr} (h : PrgAt w lo (.slice V 1 cv) g2 (.slice (some ⟨g3, 0, none⟩) 1 cap)) : ProgAt w w.heap.size 2 V 1 cv none 0 0 (nM g3 cap) pA [] := by
  obtain ⟨V', cv', g3', cap', e1, e2, h⟩ := h.prog
  injection e1 with a1 a2 a3
  injection e2 with b1 b2 b3
  injection b1 with b1
  injection b1 with b1 _ _
  subst a1; subst a3; subst b1; subst b3
  exact h
theorem SW.forms {w : World} {D : Nat → Prop} {vC vI vO : Value} {cs : List (List Int)} {inp out : List Int} (h : SW w D vC vI vO cs inp out) : ∃ A n c A' n' c' A'' n'' c'', vC = .slice A n c ∧ vI = .slice A' n' c' ∧ vO = .slice A'' n'' c'' := by
  obtain ⟨sv, ⟨A, c, e, _⟩, _⟩ := h.row
  obtain ⟨A', c', e', _⟩ := h.inp
  obtain ⟨A'', c'', e'', _⟩ := h.out
  exact ⟨A, _, c, A', _, c', A'', _, c'', e, e', e''⟩
theorem SW.form1 {w : World} {D : Nat → Prop} {vC vI vO : Value} {cs : List (List Int)} {inp out : List Int} (h : SW w D vC vI vO cs inp out) : ∃ A n c, vC = .slice A n c := by
  obtain ⟨sv, ⟨A, c, e, _⟩, _⟩ := h.row
  exact ⟨A, _, c, e⟩
theorem e_fwdA {W : World} {lo g2 g3 cv cap : Nat} {V : Option Addr} {vC : Value} (hpg : PrgAt W lo (.slice V 1 cv) g2 (.slice (some ⟨g3, 0, none⟩) 1 cap)) (hS : SW W (· < W.heap.size) vC (.slice none 0 0) (.slice none 0 0) [[4]] [] []) :
    Calls Tryz.prog 9 #[.agg #[.slice V 1 cv, .slice none 0 0, .int .u8 57, .int .i64 0, .string ⟨#[]⟩, .slice (some ⟨g3, 0, none⟩) 1 cap], .agg #[vC, .slice none 0 0, .slice none 0 0], .int .i64 10] W fun e w' => ∃ A n c A' n' c' A'' n'' c'', e = .returned (.agg #[.slice A n c, .slice A' n' c', .slice A'' n'' c'', .int .i64 1, .int .i64 0]) ∧ SW w' (fun k => W.heap.size ≤ k ∧ k < w'.heap.size) (.slice A n c) (.slice A' n' c') (.slice A'' n'' c'') [[7]] [] [] ∧ Below W.heap.size W w' := by
  refine (c_Forward (fuel := 10) hpg.prog' hS (fitA 4) (by omega) (Below.refl _ _)).mono ?_
  rintro e w' ⟨v, rfl, hr, hb⟩
  rw [runF] at hr
  obtain ⟨uC, uI, uO, rfl, hs⟩ := hr
  obtain ⟨A, n, c, A', n', c', A'', n'', c'', rfl, rfl, rfl⟩ := hs.forms
  exact ⟨A, n, c, A', n', c', A'', n'', c'', rfl, hs, hb⟩
theorem e_bwdA {W : World} {lo g2 g3 cv cap : Nat} {V : Option Addr} {vC : Value} (hpg : PrgAt W lo (.slice V 1 cv) g2 (.slice (some ⟨g3, 0, none⟩) 1 cap)) (hS : SW W (· < W.heap.size) vC (.slice none 0 0) (.slice none 0 0) [[4]] [] []) :
    Calls Tryz.prog 10 #[.agg #[.slice V 1 cv, .slice none 0 0, .int .u8 57, .int .i64 0, .string ⟨#[]⟩, .slice (some ⟨g3, 0, none⟩) 1 cap], .agg #[vC, .slice none 0 0, .slice none 0 0], .int .i64 10] W fun e w' => ∃ A n c A' n' c' A'' n'' c'', e = .returned (.agg #[.slice A n c, .slice A' n' c', .slice A'' n'' c'', .int .i64 1, .int .i64 0]) ∧ SW w' (fun k => W.heap.size ≤ k ∧ k < w'.heap.size) (.slice A n c) (.slice A' n' c') (.slice A'' n'' c'') [[1]] [] [] ∧ Below W.heap.size W w' := by
  refine (c_Backward (fuel := 10) hpg.prog' hS (fitA 4) (by omega) (Below.refl _ _)).mono ?_
  rintro e w' ⟨v, rfl, hr, hb⟩
  rw [runB] at hr
  obtain ⟨uC, uI, uO, rfl, hs⟩ := hr
  obtain ⟨A, n, c, A', n', c', A'', n'', c'', rfl, rfl, rfl⟩ := hs.forms
  exact ⟨A, n, c, A', n', c', A'', n'', c'', rfl, hs, hb⟩
theorem SW.grow {w w' : World} {D D' : Nat → Prop} {vC vI vO : Value} {cs : List (List Int)} {inp out : List Int} (h : SW w D vC vI vO cs inp out) (hb : Below w.heap.size w w') (h1 : ∀ k, D k → k < w.heap.size) (h2 : ∀ k, D k → D' k) : SW w' D' vC vI vO cs inp out := h.map (fun b o hd => hb.cell (p := ⟨b, o, none⟩) (h1 b hd)) h2
theorem e_eqA {W : World} {n : Int} {vC vI vO vC' vI' vO' : Value} (h : SW W (· < W.heap.size) vC vI vO [[n]] [] []) (h' : SW W (· < W.heap.size) vC' vI' vO' [[n]] [] []) :
    Calls Tryz.prog 12 #[.agg #[vC, vI, vO], .agg #[vC', vI', vO']] W fun e w' => e = .returned (.bool true) ∧ Below W.heap.size W w' :=
  (c_StEqual h h' (fun _ h => h) (fun _ h => h) (by simp) (by simp)).mono fun e w' ⟨h1, h2⟩ => ⟨by rw [h1]; simp, h2⟩
theorem e_awakeRun {w : World} (hsy : SymAt w) : Calls Tryz.prog 6 #[] w fun e w' => e = .returned (.bool true) ∧ Below w.heap.size w w' := by
  have HSY := Lib.hid hsy
  clear hsy
  go_enter Tryz.func6, Tryz.ntmps6
  go_wp2_with fail
  refine (e_parsed HSY.out).mono ?_
  rintro en w1 ⟨⟨vv, g2, v, rfl, hpg⟩, hb1⟩
  obtain ⟨V, cv, g3, cap, rfl, rfl, _⟩ := hpg.prog
  have HPG1 := Lib.hid hpg; have HB1 := Lib.hid hb1
  clear hpg hb1
  go_upto_region 2 with fail
  refine wp_nameE ?_
  intro w2 hw2
  have hb2 : Below w1.heap.size w1 w2 := by rw [hw2]; exact (by go_grown)
  have K2 : Blk w2 w1.heap.size 28 #[.slice V 1 cv, .slice none 0 0, .int .u8 57, .int .i64 0, .string ⟨#[]⟩, .slice (some ⟨g3, 0, none⟩) 1 cap] := by rw [hw2]; exact blkA
  have HK2 := Lib.hid K2; have HB2 := Lib.hid (HB1.out.next hb2)
  have HPG0 := Lib.hid (HPG1.out.fr (Fr.of (O := fun _ => False) hb2) (fun _ _ _ h => h))
  clear hw2 hb2 K2 HPG1
  go_cut [2] (fun v2 wx => ∃ bR A1 n1 c1 A2 n2 c2 A3 n3' c3, v2 = .pointer (some ⟨bR, 0, none⟩) ∧ Blk wx bR 41 #[.slice A1 n1 c1, .slice A2 n2 c2, .slice A3 n3' c3, .int .i64 1, .int .i64 0] ∧ SW wx (· < wx.heap.size) (.slice A1 n1 c1) (.slice A2 n2 c2) (.slice A3 n3' c3) [[7]] [] [] ∧ Below w2.heap.size w2 wx)
  case first =>
    refine wp_region_held_drew (S := fun W => Below w2.heap.size w2 W) (by kernel_rfl) ((Below.refl _ _).drew) (fun hH => ?_)
    refine wpAnyH_atN ?_
    intro wa hwa
    have hX : Below w2.heap.size w2 wa := by rw [hwa]; exact (Below.refl _ _).drew
    replace hH : Below w2.heap.size w2 wa := hX
    have HPG := Lib.hid (HPG0.out.fr (Fr.of (O := fun _ => False) hX) (fun _ _ _ h => h))
    clear hwa
    refine tkK 0 (v := ?_) rfl ?hy hH ?_
    case hy => (intro w9_ hS9; have t := (HK2.out.next hS9).cell; clear hS9; go_simp; try with_reducible rfl)
    (try simp only [PU, Act.put])
    refine wpAnyH_ready (rs := [1, 3]) (by kernel_rfl) (by simp) ?_
    refine AllReadyH.cons rfl (fun K hK => ?_) (AllReadyH.cons rfl (fun K hK => ?_) (AllReadyH.nil))
    · go_simp
      refine (e_number1 4 wa).mono ?_
      rintro en wb ⟨⟨vC, rfl, hsw⟩, hbn⟩
      have HSW := Lib.hid (hsw.map (D' := (· < wb.heap.size)) (fun _ _ _ => rfl) (fun k hk => hk.2))
      obtain ⟨AC, nC, cC, rfl⟩ := SW.form1 hsw
      replace HPG := Lib.hid (HPG.out.fr (Fr.of (O := fun _ => False) hbn) (fun _ _ _ h => h))
      replace hX := hX.next hbn
      clear hsw hbn
      refine hK.out _ _ hX (fun hH => ?_)
      clear hK
      (try simp only [PU, Act.put])
      refine wpAnyH_ready (rs := [2, 3]) (by kernel_rfl) (by simp) ?_
      refine AllReadyH.cons rfl (fun K hK => ?_) (AllReadyH.cons rfl (fun K hK => ?_) (AllReadyH.nil))
      · go_simp
        refine (e_fwdA HPG.out HSW.out).mono ?_
        rintro en wc ⟨A1, n1, c1, A2, n2, c2, A3, n3', c3, rfl, hsr, hbn⟩
        have HSR := Lib.hid (hsr.map (D' := (· < wc.heap.size)) (fun _ _ _ => rfl) (fun k hk => hk.2))
        replace HPG := Lib.hid (HPG.out.fr (Fr.of (O := fun _ => False) hbn) (fun _ _ _ h => h))
        replace hX := hX.next hbn
        clear hsr hbn
        refine hK.out _ _ hX (fun hH => ?_)
        clear hK
        (try simp only [PU, Act.put])
        refine nxH 3 (by kernel_rfl) rfl (fun K hK => ?_)
        go_simp
        refine hK.out _ _ (hX.alloc hX.size _) (fun hH => ?_)
        clear hK
        (try simp only [PU, Act.put])
        refine wpAnyH_atN ?_
        intro wd hwn
        have hbn : Below wc.heap.size wc wd := by rw [hwn]; exact (Below.refl _ _).alloc (Nat.le_refl _) _
        have HKR := Lib.hid (show Blk wd wc.heap.size 41 #[.slice none 0 0, .slice none 0 0, .slice none 0 0, .int .i64 0, .int .i64 0] by rw [hwn]; exact Blk.new _ _ _)
        have hlr : wc.heap.size < wd.heap.size := HKR.out.lt
        have hlw := hX.size
        replace HPG := Lib.hid (HPG.out.fr (Fr.of (O := fun _ => False) hbn) (fun _ _ _ h => h))
        have HSR' := Lib.hid (HSR.out.grow (D' := fun k => k < wd.heap.size ∧ k ≠ wc.heap.size) hbn (fun k hk => hk) (fun k hk => by omega))
        replace hX := hX.next hbn
        replace hH : Below w2.heap.size w2 wd := hX
        clear hwn hbn
        refine nxH 4 (by kernel_rfl) rfl (fun K hK => ?_)
        obtain ⟨z_r, T_r, F_r⟩ := HKR.out.open_
        go_simp
        refine hK.out _ _ (((((hX.setCell hlw _).setCell hlw _).setCell hlw _).setCell hlw _).setCell hlw _) (fun hH => ?_)
        clear hK
        (try simp only [PU, Act.put])
        clear z_r T_r F_r
        refine wpAnyH_done (by kernel_rfl) ?_ _
        have HHZ := Lib.hid hH
        clear hH hX hlr hlw
        go_wp2_with fail
        go_meet
        have hf := Fr.set (Fr.set (Fr.set (Fr.set (Fr.set (Fr.refl (· = wc.heap.size) wd) (p := ⟨wc.heap.size, 0, none⟩) rfl (.slice A1 n1 c1)) (p := ⟨wc.heap.size, 1, none⟩) rfl (.slice A2 n2 c2)) (p := ⟨wc.heap.size, 2, none⟩) rfl (.slice A3 n3' c3)) (p := ⟨wc.heap.size, 3, none⟩) rfl (.int .i64 1)) (p := ⟨wc.heap.size, 4, none⟩) rfl (.int .i64 0)
        exact ⟨wc.heap.size, A1, n1, c1, A2, n2, c2, A3, n3', c3, rfl, by simpa using ((((HKR.out.set_ 0 (.slice A1 n1 c1)).set_ 1 (.slice A2 n2 c2)).set_ 2 (.slice A3 n3' c3)).set_ 3 (.int .i64 1)).set_ 4 (.int .i64 0), HSR'.out.map (fun b o hd => hf.cell hd.1 hd.2 o) (fun k hk => by simp; exact hk.1), HHZ.out⟩
      · go_simp
        refine hK.out _ _ (hX.alloc hX.size _) (fun hH => ?_)
        clear hK
        (try simp only [PU, Act.put])
        refine wpAnyH_atN ?_
        intro wc hwn
        have hbn : Below wb.heap.size wb wc := by rw [hwn]; exact (Below.refl _ _).alloc (Nat.le_refl _) _
        have HKR := Lib.hid (show Blk wc wb.heap.size 41 #[.slice none 0 0, .slice none 0 0, .slice none 0 0, .int .i64 0, .int .i64 0] by rw [hwn]; exact Blk.new _ _ _)
        have hlr : wb.heap.size < wc.heap.size := HKR.out.lt
        have hlw := hX.size
        replace HPG := Lib.hid (HPG.out.fr (Fr.of (O := fun _ => False) hbn) (fun _ _ _ h => h))
        replace HSW := Lib.hid (HSW.out.grow (D' := (· < wc.heap.size)) hbn (fun k hk => hk) (fun k hk => by omega))
        replace hX := hX.next hbn
        replace hH : Below w2.heap.size w2 wc := hX
        clear hwn hbn
        refine nxH 2 (by kernel_rfl) rfl (fun K hK => ?_)
        go_simp
        refine (e_fwdA HPG.out HSW.out).mono ?_
        rintro en wd ⟨A1, n1, c1, A2, n2, c2, A3, n3', c3, rfl, hsr, hbn⟩
        have hlt_ : wb.heap.size < wc.heap.size := HKR.out.lt
        have HSR' := Lib.hid (hsr.map (D' := fun k => k < wd.heap.size ∧ k ≠ wb.heap.size) (fun _ _ _ => rfl) (fun k hk => by omega))
        replace HPG := Lib.hid (HPG.out.fr (Fr.of (O := fun _ => False) hbn) (fun _ _ _ h => h))
        replace HKR := Lib.hid (HKR.out.next hbn)
        replace hX := hX.next hbn
        clear hsr hbn
        refine hK.out _ _ hX (fun hH => ?_)
        clear hK
        (try simp only [PU, Act.put])
        refine nxH 4 (by kernel_rfl) rfl (fun K hK => ?_)
        obtain ⟨z_r, T_r, F_r⟩ := HKR.out.open_
        go_simp
        refine hK.out _ _ (((((hX.setCell hlw _).setCell hlw _).setCell hlw _).setCell hlw _).setCell hlw _) (fun hH => ?_)
        clear hK
        (try simp only [PU, Act.put])
        clear z_r T_r F_r
        refine wpAnyH_done (by kernel_rfl) ?_ _
        have HHZ := Lib.hid hH
        clear hH hX hlr hlw
        go_wp2_with fail
        go_meet
        have hf := Fr.set (Fr.set (Fr.set (Fr.set (Fr.set (Fr.refl (· = wb.heap.size) wd) (p := ⟨wb.heap.size, 0, none⟩) rfl (.slice A1 n1 c1)) (p := ⟨wb.heap.size, 1, none⟩) rfl (.slice A2 n2 c2)) (p := ⟨wb.heap.size, 2, none⟩) rfl (.slice A3 n3' c3)) (p := ⟨wb.heap.size, 3, none⟩) rfl (.int .i64 1)) (p := ⟨wb.heap.size, 4, none⟩) rfl (.int .i64 0)
        exact ⟨wb.heap.size, A1, n1, c1, A2, n2, c2, A3, n3', c3, rfl, by simpa using ((((HKR.out.set_ 0 (.slice A1 n1 c1)).set_ 1 (.slice A2 n2 c2)).set_ 2 (.slice A3 n3' c3)).set_ 3 (.int .i64 1)).set_ 4 (.int .i64 0), HSR'.out.map (fun b o hd => hf.cell hd.1 hd.2 o) (fun k hk => by simp; exact hk.1), HHZ.out⟩
    · go_simp
      refine hK.out _ _ (hX.alloc hX.size _) (fun hH => ?_)
      clear hK
      (try simp only [PU, Act.put])
      refine wpAnyH_atN ?_
      intro wb hwn
      have hbn : Below wa.heap.size wa wb := by rw [hwn]; exact (Below.refl _ _).alloc (Nat.le_refl _) _
      have HKR := Lib.hid (show Blk wb wa.heap.size 41 #[.slice none 0 0, .slice none 0 0, .slice none 0 0, .int .i64 0, .int .i64 0] by rw [hwn]; exact Blk.new _ _ _)
      have hlr : wa.heap.size < wb.heap.size := HKR.out.lt
      have hlw := hX.size
      replace HPG := Lib.hid (HPG.out.fr (Fr.of (O := fun _ => False) hbn) (fun _ _ _ h => h))
      replace hX := hX.next hbn
      replace hH : Below w2.heap.size w2 wb := hX
      clear hwn hbn
      refine nxH 1 (by kernel_rfl) rfl (fun K hK => ?_)
      go_simp
      refine (e_number1 4 wb).mono ?_
      rintro en wc ⟨⟨vC, rfl, hsw⟩, hbn⟩
      have HSW := Lib.hid (hsw.map (D' := (· < wc.heap.size)) (fun _ _ _ => rfl) (fun k hk => hk.2))
      obtain ⟨AC, nC, cC, rfl⟩ := SW.form1 hsw
      replace HPG := Lib.hid (HPG.out.fr (Fr.of (O := fun _ => False) hbn) (fun _ _ _ h => h))
      replace HKR := Lib.hid (HKR.out.next hbn)
      replace hX := hX.next hbn
      clear hsw hbn
      refine hK.out _ _ hX (fun hH => ?_)
      clear hK
      (try simp only [PU, Act.put])
      refine nxH 2 (by kernel_rfl) rfl (fun K hK => ?_)
      go_simp
      refine (e_fwdA HPG.out HSW.out).mono ?_
      rintro en wd ⟨A1, n1, c1, A2, n2, c2, A3, n3', c3, rfl, hsr, hbn⟩
      have hlt_ : wa.heap.size < wc.heap.size := HKR.out.lt
      have HSR' := Lib.hid (hsr.map (D' := fun k => k < wd.heap.size ∧ k ≠ wa.heap.size) (fun _ _ _ => rfl) (fun k hk => by omega))
      replace HPG := Lib.hid (HPG.out.fr (Fr.of (O := fun _ => False) hbn) (fun _ _ _ h => h))
      replace HKR := Lib.hid (HKR.out.next hbn)
      replace hX := hX.next hbn
      clear hsr hbn
      refine hK.out _ _ hX (fun hH => ?_)
      clear hK
      (try simp only [PU, Act.put])
      refine nxH 4 (by kernel_rfl) rfl (fun K hK => ?_)
      obtain ⟨z_r, T_r, F_r⟩ := HKR.out.open_
      go_simp
      refine hK.out _ _ (((((hX.setCell hlw _).setCell hlw _).setCell hlw _).setCell hlw _).setCell hlw _) (fun hH => ?_)
      clear hK
      (try simp only [PU, Act.put])
      clear z_r T_r F_r
      refine wpAnyH_done (by kernel_rfl) ?_ _
      have HHZ := Lib.hid hH
      clear hH hX hlr hlw
      go_wp2_with fail
      go_meet
      have hf := Fr.set (Fr.set (Fr.set (Fr.set (Fr.set (Fr.refl (· = wa.heap.size) wd) (p := ⟨wa.heap.size, 0, none⟩) rfl (.slice A1 n1 c1)) (p := ⟨wa.heap.size, 1, none⟩) rfl (.slice A2 n2 c2)) (p := ⟨wa.heap.size, 2, none⟩) rfl (.slice A3 n3' c3)) (p := ⟨wa.heap.size, 3, none⟩) rfl (.int .i64 1)) (p := ⟨wa.heap.size, 4, none⟩) rfl (.int .i64 0)
      exact ⟨wa.heap.size, A1, n1, c1, A2, n2, c2, A3, n3', c3, rfl, by simpa using ((((HKR.out.set_ 0 (.slice A1 n1 c1)).set_ 1 (.slice A2 n2 c2)).set_ 2 (.slice A3 n3' c3)).set_ 3 (.int .i64 1)).set_ 4 (.int .i64 0), HSR'.out.map (fun b o hd => hf.cell hd.1 hd.2 o) (fun k hk => by simp; exact hk.1), HHZ.out⟩
  case rest =>
  obtain ⟨b2, B1, m1, d1, B2, m2, d2, B3, m3, d3, rfl, hkr, hsr, hb3⟩ := hcut
  generalize wc = w3 at *
  have HKA := Lib.hid hkr; have HSA := Lib.hid hsr
  have HB3 := Lib.hid (HB2.out.next hb3); have HK3 := Lib.hid (HK2.out.next hb3)
  have HPG3 := Lib.hid (HPG0.out.fr (Fr.of (O := fun _ => False) hb3) (fun _ _ _ h => h))
  clear hkr hsr hb3 HK2 HB2 HPG0
  have HPG0 := HPG3
  clear HPG3
  go_upto_region 3 with fail
  go_cut [3] (fun v3 wx => ∃ bR A1 n1 c1 A2 n2 c2 A3 n3' c3, v3 = .pointer (some ⟨bR, 0, none⟩) ∧ Blk wx bR 41 #[.slice A1 n1 c1, .slice A2 n2 c2, .slice A3 n3' c3, .int .i64 1, .int .i64 0] ∧ SW wx (· < wx.heap.size) (.slice A1 n1 c1) (.slice A2 n2 c2) (.slice A3 n3' c3) [[1]] [] [] ∧ Below w3.heap.size w3 wx)
  case first =>
    refine wp_region_held_drew (S := fun W => Below w3.heap.size w3 W) (by kernel_rfl) ((Below.refl _ _).drew) (fun hH => ?_)
    refine wpAnyH_atN ?_
    intro wa hwa
    have hX : Below w3.heap.size w3 wa := by rw [hwa]; exact (Below.refl _ _).drew
    replace hH : Below w3.heap.size w3 wa := hX
    have HPG := Lib.hid (HPG0.out.fr (Fr.of (O := fun _ => False) hX) (fun _ _ _ h => h))
    clear hwa
    refine tkK 0 (v := ?_) rfl ?hy hH ?_
    case hy => (intro w9_ hS9; have t := (HK3.out.next hS9).cell; clear hS9; go_simp; try with_reducible rfl)
    (try simp only [PU, Act.put])
    refine wpAnyH_ready (rs := [1, 3]) (by kernel_rfl) (by simp) ?_
    refine AllReadyH.cons rfl (fun K hK => ?_) (AllReadyH.cons rfl (fun K hK => ?_) (AllReadyH.nil))
    · go_simp
      refine (e_number1 4 wa).mono ?_
      rintro en wb ⟨⟨vC, rfl, hsw⟩, hbn⟩
      have HSW := Lib.hid (hsw.map (D' := (· < wb.heap.size)) (fun _ _ _ => rfl) (fun k hk => hk.2))
      obtain ⟨AC, nC, cC, rfl⟩ := SW.form1 hsw
      replace HPG := Lib.hid (HPG.out.fr (Fr.of (O := fun _ => False) hbn) (fun _ _ _ h => h))
      replace hX := hX.next hbn
      clear hsw hbn
      refine hK.out _ _ hX (fun hH => ?_)
      clear hK
      (try simp only [PU, Act.put])
      refine wpAnyH_ready (rs := [2, 3]) (by kernel_rfl) (by simp) ?_
      refine AllReadyH.cons rfl (fun K hK => ?_) (AllReadyH.cons rfl (fun K hK => ?_) (AllReadyH.nil))
      · go_simp
        refine (e_bwdA HPG.out HSW.out).mono ?_
        rintro en wc ⟨A1, n1, c1, A2, n2, c2, A3, n3', c3, rfl, hsr, hbn⟩
        have HSR := Lib.hid (hsr.map (D' := (· < wc.heap.size)) (fun _ _ _ => rfl) (fun k hk => hk.2))
        replace HPG := Lib.hid (HPG.out.fr (Fr.of (O := fun _ => False) hbn) (fun _ _ _ h => h))
        replace hX := hX.next hbn
        clear hsr hbn
        refine hK.out _ _ hX (fun hH => ?_)
        clear hK
        (try simp only [PU, Act.put])
        refine nxH 3 (by kernel_rfl) rfl (fun K hK => ?_)
        go_simp
        refine hK.out _ _ (hX.alloc hX.size _) (fun hH => ?_)
        clear hK
        (try simp only [PU, Act.put])
        refine wpAnyH_atN ?_
        intro wd hwn
        have hbn : Below wc.heap.size wc wd := by rw [hwn]; exact (Below.refl _ _).alloc (Nat.le_refl _) _
        have HKR := Lib.hid (show Blk wd wc.heap.size 41 #[.slice none 0 0, .slice none 0 0, .slice none 0 0, .int .i64 0, .int .i64 0] by rw [hwn]; exact Blk.new _ _ _)
        have hlr : wc.heap.size < wd.heap.size := HKR.out.lt
        have hlw := hX.size
        replace HPG := Lib.hid (HPG.out.fr (Fr.of (O := fun _ => False) hbn) (fun _ _ _ h => h))
        have HSR' := Lib.hid (HSR.out.grow (D' := fun k => k < wd.heap.size ∧ k ≠ wc.heap.size) hbn (fun k hk => hk) (fun k hk => by omega))
        replace hX := hX.next hbn
        replace hH : Below w3.heap.size w3 wd := hX
        clear hwn hbn
        refine nxH 4 (by kernel_rfl) rfl (fun K hK => ?_)
        obtain ⟨z_r, T_r, F_r⟩ := HKR.out.open_
        go_simp
        refine hK.out _ _ (((((hX.setCell hlw _).setCell hlw _).setCell hlw _).setCell hlw _).setCell hlw _) (fun hH => ?_)
        clear hK
        (try simp only [PU, Act.put])
        clear z_r T_r F_r
        refine wpAnyH_done (by kernel_rfl) ?_ _
        have HHZ := Lib.hid hH
        clear hH hX hlr hlw
        go_wp2_with fail
        go_meet
        have hf := Fr.set (Fr.set (Fr.set (Fr.set (Fr.set (Fr.refl (· = wc.heap.size) wd) (p := ⟨wc.heap.size, 0, none⟩) rfl (.slice A1 n1 c1)) (p := ⟨wc.heap.size, 1, none⟩) rfl (.slice A2 n2 c2)) (p := ⟨wc.heap.size, 2, none⟩) rfl (.slice A3 n3' c3)) (p := ⟨wc.heap.size, 3, none⟩) rfl (.int .i64 1)) (p := ⟨wc.heap.size, 4, none⟩) rfl (.int .i64 0)
        exact ⟨wc.heap.size, A1, n1, c1, A2, n2, c2, A3, n3', c3, rfl, by simpa using ((((HKR.out.set_ 0 (.slice A1 n1 c1)).set_ 1 (.slice A2 n2 c2)).set_ 2 (.slice A3 n3' c3)).set_ 3 (.int .i64 1)).set_ 4 (.int .i64 0), HSR'.out.map (fun b o hd => hf.cell hd.1 hd.2 o) (fun k hk => by simp; exact hk.1), HHZ.out⟩
      · go_simp
        refine hK.out _ _ (hX.alloc hX.size _) (fun hH => ?_)
        clear hK
        (try simp only [PU, Act.put])
        refine wpAnyH_atN ?_
        intro wc hwn
        have hbn : Below wb.heap.size wb wc := by rw [hwn]; exact (Below.refl _ _).alloc (Nat.le_refl _) _
        have HKR := Lib.hid (show Blk wc wb.heap.size 41 #[.slice none 0 0, .slice none 0 0, .slice none 0 0, .int .i64 0, .int .i64 0] by rw [hwn]; exact Blk.new _ _ _)
        have hlr : wb.heap.size < wc.heap.size := HKR.out.lt
        have hlw := hX.size
        replace HPG := Lib.hid (HPG.out.fr (Fr.of (O := fun _ => False) hbn) (fun _ _ _ h => h))
        replace HSW := Lib.hid (HSW.out.grow (D' := (· < wc.heap.size)) hbn (fun k hk => hk) (fun k hk => by omega))
        replace hX := hX.next hbn
        replace hH : Below w3.heap.size w3 wc := hX
        clear hwn hbn
        refine nxH 2 (by kernel_rfl) rfl (fun K hK => ?_)
        go_simp
        refine (e_bwdA HPG.out HSW.out).mono ?_
        rintro en wd ⟨A1, n1, c1, A2, n2, c2, A3, n3', c3, rfl, hsr, hbn⟩
        have hlt_ : wb.heap.size < wc.heap.size := HKR.out.lt
        have HSR' := Lib.hid (hsr.map (D' := fun k => k < wd.heap.size ∧ k ≠ wb.heap.size) (fun _ _ _ => rfl) (fun k hk => by omega))
        replace HPG := Lib.hid (HPG.out.fr (Fr.of (O := fun _ => False) hbn) (fun _ _ _ h => h))
        replace HKR := Lib.hid (HKR.out.next hbn)
        replace hX := hX.next hbn
        clear hsr hbn
        refine hK.out _ _ hX (fun hH => ?_)
        clear hK
        (try simp only [PU, Act.put])
        refine nxH 4 (by kernel_rfl) rfl (fun K hK => ?_)
        obtain ⟨z_r, T_r, F_r⟩ := HKR.out.open_
        go_simp
        refine hK.out _ _ (((((hX.setCell hlw _).setCell hlw _).setCell hlw _).setCell hlw _).setCell hlw _) (fun hH => ?_)
        clear hK
        (try simp only [PU, Act.put])
        clear z_r T_r F_r
        refine wpAnyH_done (by kernel_rfl) ?_ _
        have HHZ := Lib.hid hH
        clear hH hX hlr hlw
        go_wp2_with fail
        go_meet
        have hf := Fr.set (Fr.set (Fr.set (Fr.set (Fr.set (Fr.refl (· = wb.heap.size) wd) (p := ⟨wb.heap.size, 0, none⟩) rfl (.slice A1 n1 c1)) (p := ⟨wb.heap.size, 1, none⟩) rfl (.slice A2 n2 c2)) (p := ⟨wb.heap.size, 2, none⟩) rfl (.slice A3 n3' c3)) (p := ⟨wb.heap.size, 3, none⟩) rfl (.int .i64 1)) (p := ⟨wb.heap.size, 4, none⟩) rfl (.int .i64 0)
        exact ⟨wb.heap.size, A1, n1, c1, A2, n2, c2, A3, n3', c3, rfl, by simpa using ((((HKR.out.set_ 0 (.slice A1 n1 c1)).set_ 1 (.slice A2 n2 c2)).set_ 2 (.slice A3 n3' c3)).set_ 3 (.int .i64 1)).set_ 4 (.int .i64 0), HSR'.out.map (fun b o hd => hf.cell hd.1 hd.2 o) (fun k hk => by simp; exact hk.1), HHZ.out⟩
    · go_simp
      refine hK.out _ _ (hX.alloc hX.size _) (fun hH => ?_)
      clear hK
      (try simp only [PU, Act.put])
      refine wpAnyH_atN ?_
      intro wb hwn
      have hbn : Below wa.heap.size wa wb := by rw [hwn]; exact (Below.refl _ _).alloc (Nat.le_refl _) _
      have HKR := Lib.hid (show Blk wb wa.heap.size 41 #[.slice none 0 0, .slice none 0 0, .slice none 0 0, .int .i64 0, .int .i64 0] by rw [hwn]; exact Blk.new _ _ _)
      have hlr : wa.heap.size < wb.heap.size := HKR.out.lt
      have hlw := hX.size
      replace HPG := Lib.hid (HPG.out.fr (Fr.of (O := fun _ => False) hbn) (fun _ _ _ h => h))
      replace hX := hX.next hbn
      replace hH : Below w3.heap.size w3 wb := hX
      clear hwn hbn
      refine nxH 1 (by kernel_rfl) rfl (fun K hK => ?_)
      go_simp
      refine (e_number1 4 wb).mono ?_
      rintro en wc ⟨⟨vC, rfl, hsw⟩, hbn⟩
      have HSW := Lib.hid (hsw.map (D' := (· < wc.heap.size)) (fun _ _ _ => rfl) (fun k hk => hk.2))
      obtain ⟨AC, nC, cC, rfl⟩ := SW.form1 hsw
      replace HPG := Lib.hid (HPG.out.fr (Fr.of (O := fun _ => False) hbn) (fun _ _ _ h => h))
      replace HKR := Lib.hid (HKR.out.next hbn)
      replace hX := hX.next hbn
      clear hsw hbn
      refine hK.out _ _ hX (fun hH => ?_)
      clear hK
      (try simp only [PU, Act.put])
      refine nxH 2 (by kernel_rfl) rfl (fun K hK => ?_)
      go_simp
      refine (e_bwdA HPG.out HSW.out).mono ?_
      rintro en wd ⟨A1, n1, c1, A2, n2, c2, A3, n3', c3, rfl, hsr, hbn⟩
      have hlt_ : wa.heap.size < wc.heap.size := HKR.out.lt
      have HSR' := Lib.hid (hsr.map (D' := fun k => k < wd.heap.size ∧ k ≠ wa.heap.size) (fun _ _ _ => rfl) (fun k hk => by omega))
      replace HPG := Lib.hid (HPG.out.fr (Fr.of (O := fun _ => False) hbn) (fun _ _ _ h => h))
      replace HKR := Lib.hid (HKR.out.next hbn)
      replace hX := hX.next hbn
      clear hsr hbn
      refine hK.out _ _ hX (fun hH => ?_)
      clear hK
      (try simp only [PU, Act.put])
      refine nxH 4 (by kernel_rfl) rfl (fun K hK => ?_)
      obtain ⟨z_r, T_r, F_r⟩ := HKR.out.open_
      go_simp
      refine hK.out _ _ (((((hX.setCell hlw _).setCell hlw _).setCell hlw _).setCell hlw _).setCell hlw _) (fun hH => ?_)
      clear hK
      (try simp only [PU, Act.put])
      clear z_r T_r F_r
      refine wpAnyH_done (by kernel_rfl) ?_ _
      have HHZ := Lib.hid hH
      clear hH hX hlr hlw
      go_wp2_with fail
      go_meet
      have hf := Fr.set (Fr.set (Fr.set (Fr.set (Fr.set (Fr.refl (· = wa.heap.size) wd) (p := ⟨wa.heap.size, 0, none⟩) rfl (.slice A1 n1 c1)) (p := ⟨wa.heap.size, 1, none⟩) rfl (.slice A2 n2 c2)) (p := ⟨wa.heap.size, 2, none⟩) rfl (.slice A3 n3' c3)) (p := ⟨wa.heap.size, 3, none⟩) rfl (.int .i64 1)) (p := ⟨wa.heap.size, 4, none⟩) rfl (.int .i64 0)
      exact ⟨wa.heap.size, A1, n1, c1, A2, n2, c2, A3, n3', c3, rfl, by simpa using ((((HKR.out.set_ 0 (.slice A1 n1 c1)).set_ 1 (.slice A2 n2 c2)).set_ 2 (.slice A3 n3' c3)).set_ 3 (.int .i64 1)).set_ 4 (.int .i64 0), HSR'.out.map (fun b o hd => hf.cell hd.1 hd.2 o) (fun k hk => by simp; exact hk.1), HHZ.out⟩
  case rest =>
  obtain ⟨b3, C1, k1, f1, C2, k2, f2, C3, k3, f3, rfl, hkr, hsr, hb4⟩ := hcut
  generalize wc = w4 at *
  have HKB := Lib.hid hkr; have HSB := Lib.hid hsr
  have HB4 := Lib.hid (HB3.out.next hb4)
  have HKA4 := Lib.hid (HKA.out.next hb4)
  have HSA4 := Lib.hid (HSA.out.grow (D' := (· < w4.heap.size)) hb4 (fun k hk => hk) (fun k hk => Nat.lt_of_lt_of_le hk hb4.size))
  clear hkr hsr hb4 HKA HSA HK3 HB3 HPG0
  go_upto_region 4 with fail
  refine wp_region_held_drew (S := fun W => Below w4.heap.size w4 W) (by kernel_rfl) ((Below.refl _ _).drew) (fun hH => ?_)
  refine wpAnyH_atN ?_
  intro wa hwa
  have hX : Below w4.heap.size w4 wa := by rw [hwa]; exact (Below.refl _ _).drew
  replace hH : Below w4.heap.size w4 wa := hX
  clear hwa
  refine tkQ 0 (v := ?_) rfl hH ?_
  (try simp only [PU, Act.put])
  refine tkK 1 (v := ?_) rfl ?hy hH ?_
  case hy => (intro w9_ hS9; have t := (HKA4.out.next hS9).cell; have t' := (HKB.out.next hS9).cell; clear hS9; go_simp; try with_reducible rfl)
  (try simp only [PU, Act.put])
  refine tkQ 2 (v := ?_) rfl hH ?_
  (try simp only [PU, Act.put])
  refine tkQ 3 (v := ?_) rfl hH ?_
  (try simp only [PU, Act.put])
  refine tkQ 4 (v := ?_) rfl hH ?_
  (try simp only [PU, Act.put])
  refine tkK 5 (v := ?_) rfl ?hy hH ?_
  case hy => (intro w9_ hS9; have t := (HKA4.out.next hS9).cell; have t' := (HKB.out.next hS9).cell; clear hS9; go_simp; try with_reducible rfl)
  (try simp only [PU, Act.put])
  refine tkQ 6 (v := ?_) rfl hH ?_
  (try simp only [PU, Act.put])
  refine tkQ 7 (v := ?_) rfl hH ?_
  (try simp only [PU, Act.put])
  refine tkQ 8 (v := ?_) rfl hH ?_
  (try simp only [PU, Act.put])
  refine tkQ 9 (v := ?_) rfl hH ?_
  (try simp only [PU, Act.put])
  refine tkK 10 (v := ?_) rfl ?hy hH ?_
  case hy => (intro w9_ hS9; have t := (HKA4.out.next hS9).cell; have t' := (HKB.out.next hS9).cell; clear hS9; go_simp; try with_reducible rfl)
  (try simp only [PU, Act.put])
  refine tkQ 11 (v := ?_) rfl hH ?_
  (try simp only [PU, Act.put])
  refine tkQ 12 (v := ?_) rfl hH ?_
  (try simp only [PU, Act.put])
  refine tkQ 13 (v := ?_) rfl hH ?_
  (try simp only [PU, Act.put])
  refine tkQ 14 (v := ?_) rfl hH ?_
  (try simp only [PU, Act.put])
  refine tkK 15 (v := ?_) rfl ?hy hH ?_
  case hy => (intro w9_ hS9; have t := (HKA4.out.next hS9).cell; have t' := (HKB.out.next hS9).cell; clear hS9; go_simp; try with_reducible rfl)
  (try simp only [PU, Act.put])
  refine tkQ 16 (v := ?_) rfl hH ?_
  (try simp only [PU, Act.put])
  refine tkQ 17 (v := ?_) rfl hH ?_
  (try simp only [PU, Act.put])
  refine tkQ 18 (v := ?_) rfl hH ?_
  (try simp only [PU, Act.put])
  refine tkQ 19 (v := ?_) rfl hH ?_
  (try simp only [PU, Act.put])
  refine tkK 20 (v := ?_) rfl ?hy hH ?_
  case hy => (intro w9_ hS9; have t := (HKA4.out.next hS9).cell; have t' := (HKB.out.next hS9).cell; clear hS9; go_simp; try with_reducible rfl)
  (try simp only [PU, Act.put])
  refine nxH 21 (by kernel_rfl) rfl (fun K hK => ?_)
  go_simp
  refine (e_number1 7 wa).mono ?_
  rintro en wb ⟨⟨vC, rfl, hsw⟩, hbn⟩
  have HSW := Lib.hid (hsw.map (D' := (· < wb.heap.size)) (fun _ _ _ => rfl) (fun k hk => hk.2))
  obtain ⟨AC, nC, cC, rfl⟩ := SW.form1 hsw
  replace hX := hX.next hbn
  clear hsw hbn
  refine hK.out _ _ hX (fun hH => ?_)
  clear hK
  (try simp only [PU, Act.put])
  refine nxH 22 (by kernel_rfl) rfl (fun K hK => ?_)
  go_simp
  refine (e_eqA (HSA4.out.grow (D' := (· < wb.heap.size)) hX (fun k hk => hk) (fun k hk => Nat.lt_of_lt_of_le hk hX.size)) HSW.out).mono ?_
  rintro en wc ⟨rfl, hbn⟩
  replace hX := hX.next hbn
  clear hbn HSW
  refine hK.out _ _ hX (fun hH => ?_)
  clear hK
  (try simp only [PU, Act.put])
  refine tkQ 23 (v := ?_) rfl hH ?_
  (try simp only [PU, Act.put])
  refine tkQ 24 (v := ?_) rfl hH ?_
  (try simp only [PU, Act.put])
  refine tkQ 25 (v := ?_) rfl hH ?_
  (try simp only [PU, Act.put])
  refine tkK 26 (v := ?_) rfl ?hy hH ?_
  case hy => (intro w9_ hS9; have t := (HKA4.out.next hS9).cell; have t' := (HKB.out.next hS9).cell; clear hS9; go_simp; try with_reducible rfl)
  (try simp only [PU, Act.put])
  refine nxH 27 (by kernel_rfl) rfl (fun K hK => ?_)
  go_simp
  refine (e_number1 1 wc).mono ?_
  rintro en wd ⟨⟨vC, rfl, hsw⟩, hbn⟩
  have HSW := Lib.hid (hsw.map (D' := (· < wd.heap.size)) (fun _ _ _ => rfl) (fun k hk => hk.2))
  obtain ⟨AC, nC, cC, rfl⟩ := SW.form1 hsw
  replace hX := hX.next hbn
  clear hsw hbn
  refine hK.out _ _ hX (fun hH => ?_)
  clear hK
  (try simp only [PU, Act.put])
  refine nxH 28 (by kernel_rfl) rfl (fun K hK => ?_)
  go_simp
  refine (e_eqA (HSB.out.grow (D' := (· < wd.heap.size)) hX (fun k hk => hk) (fun k hk => Nat.lt_of_lt_of_le hk hX.size)) HSW.out).mono ?_
  rintro en we ⟨rfl, hbn⟩
  replace hX := hX.next hbn
  clear hbn HSW
  refine hK.out _ _ hX (fun hH => ?_)
  clear hK
  (try simp only [PU, Act.put])
  refine tkQ 29 (v := ?_) rfl hH ?_
  (try simp only [PU, Act.put])
  refine tkQ 30 (v := ?_) rfl hH ?_
  (try simp only [PU, Act.put])
  refine wpAnyH_done (by kernel_rfl) ?_ _
  have HX := Lib.hid hX
  clear hX hH
  go_wp2_with fail
  go_ret
  exact ⟨rfl, HB4.out.next HX.out⟩
end Go.Proofs.YtakfdnnlhjhcfaaGreatDoor
