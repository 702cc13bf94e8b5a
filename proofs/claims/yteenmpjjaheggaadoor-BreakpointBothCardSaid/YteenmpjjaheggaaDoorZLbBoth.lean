/- The walk of the law BreakpointBoth. -/
import Derived.Test.YteenmpjjaheggaaDoorBpZ
import Derived.Deep.DeepCutAuto
set_option linter.unusedVariables false
set_option linter.unusedSimpArgs false
set_option maxRecDepth 100000
set_option maxHeartbeats 8000000
set_option maxRecDepth 100000
namespace Bk
open Go
/-- Numbers as a row of ints. -/
def numCells (l : List Nat) : List Value := l.map fun (k : Nat) => Value.int .i64 (k : Int)
theorem own_ge {w : World} {base : Nat} {e : TypeId} {size n : Nat} {v : Value} {xs : List Value} (h : w.ownsRow base e size v n xs) {k : Nat} (hk : v.ownBlock = some k) : base ≤ k ∧ k < w.heap.size := by
  rcases h.2 with ⟨rfl, _⟩ | ⟨g, cap, cur, rfl, hg, hh, _⟩
  · cases hk
  · injection hk with hk; subst hk
    exact ⟨hg, Blk.lt (cs := cur) hh⟩
theorem cell_oneB (w : World) (u : Value) (t : TypeId) : ∀ (j : Nat) (v : Value), [u][j]? = some v → (w.alloc (.cells #[u] t)).cell? ((⟨w.heap.size, 0, none⟩ : Addr).add j) = some v := fun j v h => cells_new w #[u] t j v h
theorem hits_step {code : Prg} {M : Mach} {p : Mach → Bool} {s j q : Nat} (h : (hits (fun i => p (tr code M i)) j).length = q + 1) (hs : j ≤ s) : ∃ t, findB code M p s j = some t ∧ 1 ≤ t ∧ t < j ∧ (hits (fun i => p (tr code M i)) t).length = q ∧ (hits (fun i => p (tr code M i)) j)[q]? = some t ∧ ∀ i u : Nat, (hits (fun i => p (tr code M i)) t)[i]? = some u → (hits (fun i => p (tr code M i)) j)[i]? = some u := by
  have hj : 1 ≤ j := Nat.pos_of_ne_zero fun e => by subst e; cases h
  cases hf : findB code M p s j with
  | none => rw [hits_backN hf hs hj] at h; cases h
  | some t =>
    have ht : 1 ≤ t := Nat.pos_of_ne_zero fun e => by subst e; rw [hits_back0 hf] at h; cases h
    have e := hits_back hf ht
    have hl : (hits (fun i => p (tr code M i)) t).length = q := by rw [e] at h; simpa using h
    refine ⟨t, rfl, ht, (findB_some s j t hf).1, hl, ?_, fun i u hu => ?_⟩
    · rw [e, List.getElem?_append_right (by omega), hl, Nat.sub_self]; rfl
    · rw [e, List.getElem?_append_left (List.getElem?_eq_some_iff.1 hu).1]; exact hu
end Bk
namespace Go.Proofs.YteenmpjjaheggaaDoor
open Go.RowKit Bk
theorem c_lawBreakpointBoth (A : Option Addr) (n cap : Nat) (im : Img) (M : Mach) (vm vs vc vi vo : Value) (sv : List Value) (w : World) (hC : Rd w (· < w.heap.size) 5 A n (codeCells im.code)) (hw : CodeWf im.code) (hL : MLs w (· < w.heap.size) M vm vs vc vi vo sv) (hwf : MWf M) (hl : ∀ l ∈ M.s, l.length ≤ 17592186043904) (hcl : M.calls.length ≤ 17592186043904) (hTab : TableAt w) (tk : Nat) (htk : tk ≤ 255) (ta tb : Int) (hta : I64 ta) :
    Calls Tryd.prog 4 #[.agg #[.slice A n cap, .int .i64 im.mem, .int .i64 im.stacks], .agg (mcells M vm vs vc vi vo).toArray, .agg #[.int .u8 tk, .int .i64 ta, .int .i64 tb]] w fun e w' => e = .returned (.bool true) ∧ Below w.heap.size w w' := by
  obtain ⟨sm, hsm⟩ : ∃ sm, sm34 im M = sm := ⟨_, rfl⟩
  have HSM := Lib.hid hsm; clear hsm
  obtain ⟨ok, hok⟩ : ∃ ok, ok34 im M = ok := ⟨_, rfl⟩
  have HOK := Lib.hid hok; clear hok
  have hnn : n = im.code.length := by have := hC.1; rw [codeCells_length] at this; omega
  have HC := Lib.hid hC; have HT := Lib.hid hTab; have HL := Lib.hid hL; have HN := Lib.hid hnn; have HWF := Lib.hid hwf; have HLL := Lib.hid hl; have HCL := Lib.hid hcl
  clear hC hTab hL hnn hwf hl hcl
  go_enter Tryd.func4, Tryd.ntmps4
  go_upto_region 1 with fail
  refine wp_nameY ?_
  intro w1 hw1
  have hB_w1 : Below w.heap.size w w1 := by rw [hw1]; exact (by go_grown)
  have K_1 : Blk w1 w.heap.size 32 #[.slice A n cap, .int .i64 im.mem, .int .i64 im.stacks] := by rw [hw1]; exact (by repeat' (first | assumption | exact Blk.new' (by simp) _ _ | apply Blk.alloc | apply Blk.drew))
  have KM : Blk w1 (w.heap.size + 1) 27 (mcells M vm vs vc vi vo).toArray := by rw [hw1]; exact (by repeat' (first | assumption | exact Blk.new' (by simp) _ _ | apply Blk.alloc | apply Blk.drew))
  have HM := Lib.hid ((HL.out.next hB_w1).at_ KM)
  have KT : Blk w1 (w.heap.size + 2) 42 #[.int .u8 tk, .int .i64 ta, .int .i64 tb] := by rw [hw1]; exact (by repeat' (first | assumption | exact Blk.new' (by simp) _ _ | apply Blk.alloc | apply Blk.drew))
  have HKT := Lib.hid KT
  clear KT
  have zz : w1.heap.size = w.heap.size + 3 := by rw [hw1]; simp
  clear hw1 KM
  obtain ⟨z_1, T_1, F_1⟩ := K_1.open_; have H_1 := Lib.hid K_1; clear K_1
  go_wp2_with fail
  refine (c_awake34 _ (HT.out.next hB_w1)).mono ?_
  rintro e w2 ⟨rfl, hb2⟩
  have hB_w2 := hB_w1.next hb2
  replace HM := Lib.hid (HM.out.next hb2)
  replace HKT := Lib.hid (HKT.out.next hb2)
  have K_1 := H_1.out.next hb2; (try clear H_1); (try clear T_1); (try clear z_1); (try clear F_1); obtain ⟨z_1, T_1, F_1⟩ := K_1.open_; have H_1 := Lib.hid K_1; clear K_1
  have z2 := hb2.size
  clear hb2
  go_wp2_with (refine wpList_loadG 27 rfl rfl rfl (load_mach HM.out) ?_; simp only [Act.put, Bk.PU])
  cases sm with
  | false =>
    refine (c_small0 (HL.out.next hB_w2) A n cap im HN.out HSM.out).mono ?_
    rintro e w3 ⟨rfl, hb3⟩
    have hB_w3 := hB_w2.next hb3
    clear hb3
    go_wp2_with fail
    go_ret
    exact ⟨rfl, hB_w3⟩
  | true =>
    refine (c_small1 (HL.out.next hB_w2) A n cap im HN.out HSM.out).mono ?_
    rintro e w3 ⟨rfl, hb3⟩
    have hB_w3 := hB_w2.next hb3
    replace HM := Lib.hid (HM.out.next hb3)
    replace HKT := Lib.hid (HKT.out.next hb3)
    have K_1 := H_1.out.next hb3; (try clear H_1); (try clear T_1); (try clear z_1); (try clear F_1); obtain ⟨z_1, T_1, F_1⟩ := K_1.open_; have H_1 := Lib.hid K_1; clear K_1
    have z3 := hb3.size
    have hms : M.s.length ≤ 1000000 := by have := of_decide_eq_true HSM.out; omega
    clear hb3
    obtain ⟨z_t, T_t, F_t⟩ := HKT.out.open_
    go_wp2_with (refine wpList_loadG 27 rfl rfl rfl (load_mach HM.out) ?_; simp only [Act.put, Bk.PU])
    cases ok with
    | false =>
      refine (c_lineNone A n cap im M vm vs vc vi vo sv w3 (Rd.upL HC.out hB_w3) hw (MLs.up HL.out hB_w3) HWF.out HLL.out HCL.out (HT.out.next hB_w3) tk htk ta tb hta hms HOK.out).mono ?_
      rintro e w4 ⟨rfl, hb4⟩
      have hB_w4 := hB_w3.next hb4
      replace HM := Lib.hid (HM.out.next hb4)
      have K_1 := H_1.out.next hb4; (try clear H_1); (try clear T_1); (try clear z_1); (try clear F_1); obtain ⟨z_1, T_1, F_1⟩ := K_1.open_; have H_1 := Lib.hid K_1; clear K_1
      clear hb4 T_t z_t F_t
      go_wp2_with (refine wpList_loadG 27 rfl rfl rfl (load_mach HM.out) ?_; simp only [Act.put, Bk.PU])
      obtain ⟨er, her⟩ : ∃ er, im.check.2 = er := ⟨_, rfl⟩
      by_cases hck : er = 0
      · have hff : fitsB im M = false := by have h := HOK.out; unfold ok34 at h; rw [her, hck] at h; simpa using h
        refine (c_DNewMis A n cap im M vm vs vc vi vo sv w4 (Rd.upL HC.out hB_w4) hw (MLs.up HL.out hB_w4) hms (by have := HCL.out; omega) (HT.out.next hB_w4) (by rw [her, hck]) hff).mono ?_
        rintro e w5 ⟨rfl, hb5⟩
        have hB_w5 := hB_w4.next hb5
        clear hb5 hff her hck
        go_wp2_with fail
        go_ret
        exact ⟨rfl, hB_w5⟩
      · refine (c_DNewBad A n cap im M vm vs vc vi vo sv w4 (Rd.upL HC.out hB_w4) hw (MLs.up HL.out hB_w4) hms (by have := HCL.out; omega) (HT.out.next hB_w4) her hck).mono ?_
        rintro e w5 ⟨rfl, hb5⟩
        have hB_w5 := hB_w4.next hb5
        clear hb5 her hck
        go_wp2_with fail
        go_ret
        exact ⟨rfl, hB_w5⟩
    | true =>
      obtain ⟨L, hLin⟩ := lin_any im.code M 120
      obtain ⟨m, hm⟩ : ∃ m, m = L + 1 := ⟨_, rfl⟩
      obtain ⟨hck, hff⟩ : im.check.2 = 0 ∧ fitsB im M = true := by have h := HOK.out; unfold ok34 at h; simpa using h
      have HVE : Hid (VEnv im M 400) := Lib.hid (VEnv.of hck hw (Fit.of HWF.out hff) (K := 17592186043904) HLL.out (by omega))
      have hL120 : L ≤ 120 := hLin.le
      have hm121 : m ≤ 121 := by omega
      have HLin := Lib.hid hLin; have HMm := Lib.hid hm
      have hFit := Fit.of HWF.out hff
      have HCK := Lib.hid hck; have HFIT := Lib.hid hFit; have HBD := Lib.hid (MBd.of hck hFit (K := 17592186043904) HLL.out (by have := HCL.out; omega))
      clear hck hff hLin hFit
      refine (c_lineOk A n cap im M vm vs vc vi vo sv w3 (Rd.upL HC.out hB_w3) hw (MLs.up HL.out hB_w3) HWF.out HLL.out HCL.out (HT.out.next hB_w3) tk htk ta tb hta hms HOK.out HLin.out).mono ?_
      rintro e w4 ⟨g, cp, rfl, hown, hb4⟩
      rw [← hm] at hown ⊢
      obtain ⟨g2, cp2, hgeq, hg3, hg4, _, _, hgc⟩ := own_some hown (by omega)
      have hgg : g = g2 := by
        injection hgeq with h1 _ _
        injection h1 with h1
        injection h1 with h1 _ _
      subst hgg
      clear hgeq
      obtain ⟨l, hll⟩ : ∃ l, tl (Tst.holds ⟨tk, ta, tb⟩) im.code M L = l := ⟨_, rfl⟩
      have HLL2 := Lib.hid hll
      have hlen : m = l.length := by rw [← hll, tl_len]; exact hm
      have HLEN := Lib.hid hlen
      rw [hll] at hgc
      have HGC : Hid (∀ k, k < l.length → w4.cell? ⟨g, k, none⟩ = some (.bool (l.getD k false))) := Lib.hid fun k hk => hgc k _ (boolCells_get l k hk)
      have hB_w4 := hB_w3.next hb4
      replace HM := Lib.hid (HM.out.next hb4)
      replace HKT := Lib.hid (HKT.out.next hb4)
      have K_1 := H_1.out.next hb4; (try clear H_1); (try clear T_1); (try clear z_1); (try clear F_1); obtain ⟨z_1, T_1, F_1⟩ := K_1.open_; have H_1 := Lib.hid K_1; clear K_1
      have z4 := hb4.size
      clear hb4 hown hgc hm hll hlen T_t z_t F_t
      go_wp2_with (refine wpList_loadG 27 rfl rfl rfl (load_mach HM.out) ?_; simp only [Act.put, Bk.PU])
      refine (c_DNewOk A n cap im M vm vs vc vi vo sv w4 (Rd.upL HC.out hB_w4) hw (MLs.up HL.out hB_w4) hms (by have := HCL.out; omega) (HT.out.next hB_w4) HCK.out HFIT.out HBD.out).mono ?_
      rintro e w5 ⟨P, A', n', cap', rfl, hV, hA, hO, hfx, hR5, hb5⟩
      have hB_w5 := hB_w4.next hb5
      replace HM := Lib.hid (HM.out.next hb5)
      replace HKT := Lib.hid (HKT.out.next hb5)
      have HGC5 : Hid (∀ k, k < l.length → w5.cell? ⟨g, k, none⟩ = some (.bool (l.getD k false))) := Lib.hid fun k hk => (hb5.cell (p := ⟨g, k, none⟩) hg4).trans (HGC.out k hk)
      have z5 := hb5.size
      have HV := Lib.hid hV; have HA := Lib.hid hA; have HO := Lib.hid hO
      have BEL : Hid (∀ wz, Fr P.O w5 wz → Below w.heap.size w wz) := Lib.hid fun wz hf => hB_w5.trans (hf.below (B := w.heap.size) (by have := hB_w5.size; omega) (fun k hk => by have := (hO k hk).1; have := hB_w4.size; omega))
      have HR5 := Lib.hid hR5; have HA5 : Hid (DAt w5 { P with fx := fun k => Value.ownBlock (.slice none 0 0) = some k } im.code M 0) := Lib.hid (hA.foreign (Below.refl _ _) (fun k hk => by simp [Value.ownBlock] at hk) (fun k hk => by simp [Value.ownBlock] at hk))
      have HV5 : Hid (VFx w5 { P with fx := fun k => Value.ownBlock (.slice none 0 0) = some k } A' n' cap' im) := Lib.hid (hV.pl _)
      clear hV hA hO hb5 hfx hR5 T_1 z_1 F_1 H_1
      go_wp2_with fail
      have HOW5 : Hid (w5.ownsRow w5.heap.size 3 1 (.slice none 0 0) 0 (numCells (hits (fun i => (Tst.holds ⟨tk, ta, tb⟩) (tr im.code M i)) (0 + 1)))) := Lib.hid ⟨by rw [hits_one]; rfl, .inl ⟨rfl, by rfl⟩⟩
      go_loopg [11] 121 (fun k v11 wr => ∃ (j tn tc : Nat) (tA : Option Addr), 121 ≤ j + k ∧ j ≤ L ∧ v11 = .slice tA tn tc ∧ wr.ownsRow w5.heap.size 3 1 (.slice tA tn tc) tn (numCells (hits (fun i => (Tst.holds ⟨tk, ta, tb⟩) (tr im.code M i)) (j + 1))) ∧ DAt wr { P with fx := fun k => Value.ownBlock (.slice tA tn tc) = some k } im.code M j ∧ VFx wr { P with fx := fun k => Value.ownBlock (.slice tA tn tc) = some k } A' n' cap' im ∧ Rd wr (fun k => w4.heap.size ≤ k ∧ k < w5.heap.size ∧ ¬ P.O k) 5 A' n' (codeCells im.code) ∧ Fr (fun k => P.O k ∨ w5.heap.size ≤ k) w5 wr)
      case atStart => exact ⟨0, 0, 0, none, by omega, Nat.zero_le _, rfl, HOW5.out, HA5.out, HV5.out, HR5.out, Fr.refl _ _⟩
      case round =>
        obtain ⟨j, tn, tc, tA, hjk, hjL, rfl, how, ha, hv, hr, hfr⟩ := hrel
        have hts : tn ≤ j + 1 := by have h1 := how.1; have h2 := hits_le (fun i => (Tst.holds ⟨tk, ta, tb⟩) (tr im.code M i)) (j + 1); simp [numCells] at h1; omega
        have HOWr := Lib.hid how; have HAr := Lib.hid ha; have HVr := Lib.hid hv; have HRr := Lib.hid hr; have HFr := Lib.hid hfr; have HJK := Lib.hid hjk
        have HKTr : Hid (Blk wr (w.heap.size + 2) 42 #[.int .u8 tk, .int .i64 ta, .int .i64 tb]) := Lib.hid (hfr.blk HKT.out (show ¬ (P.O (w.heap.size + 2) ∨ w5.heap.size ≤ w.heap.size + 2) from fun h => h.elim (fun h => by have := (HO.out _ h).1; omega) (fun h => by omega)))
        have hmm := HMm.out
        have htm : (tn : Int) ≤ (m : Int) := by omega
        have hm1 : (m : Int) - 1 = (L : Int) := by omega
        have hwL : IntKind.i64.wrap ((m : Int) - 1) = (L : Int) := by rw [hm1]; exact wrap_small _ (by omega) (by omega)
        have HM1 := Lib.hid hm1
        clear hmm hm1
        clear how ha hv hr hfr hjk
        go_upto_region 10 with fail
        go_cut [67] (fun v67 wx => ∃ (r : Bool) (t : Nat), v67 = .bool r ∧ (r = true → j < t ∧ t ≤ L ∧ hits (fun i => (Tst.holds ⟨tk, ta, tb⟩) (tr im.code M i)) (t + 1) = hits (fun i => (Tst.holds ⟨tk, ta, tb⟩) (tr im.code M i)) (j + 1) ++ [t]) ∧ (r = false → t = j ∧ hits (fun i => (Tst.holds ⟨tk, ta, tb⟩) (tr im.code M i)) (L + 1) = hits (fun i => (Tst.holds ⟨tk, ta, tb⟩) (tr im.code M i)) (j + 1)) ∧ DAt wx { P with fx := fun k => Value.ownBlock (.slice tA tn tc) = some k } im.code M t ∧ VFx wx { P with fx := fun k => Value.ownBlock (.slice tA tn tc) = some k } A' n' cap' im ∧ Fr P.O wr wx)
        case first =>
          by_cases hjL2 : j < L
          · have hl1 : (j : Int) < (L : Int) := by omega
            obtain ⟨R, hR⟩ : ∃ R, findF im.code M (Tst.holds ⟨tk, ta, tb⟩) (L - j) j = R := ⟨_, rfl⟩
            have hN : ((m : Int) - 1 - (j : Int)).toNat = L - j := by have := HM1.out; omega
            have hwN : IntKind.i64.wrap ((L : Int) - (j : Int)) = ((L - j : Nat) : Int) := by rw [Int.ofNat_sub hjL]; exact wrap_small _ (by omega) (by omega)
            have HRF := Lib.hid hR
            clear hR hN
            refine wp_region_held_drew (S := fun W => Fr P.O wr W) (by kernel_rfl) ((Fr.refl _ _).next (Below.refl _ _).drew) (fun hH => ?_)
            have hX : Below wr.heap.size wr wr.drew := (Below.refl _ _).drew
            refine wpAnyH_take (i := 0) (v := ?_) rfl (by kernel_rfl) (by kernel_rfl) (by kernel_rfl) (fun _ _ _ h => h) (Or.inl ⟨by rfl, ?hy⟩) hH ?_
            case hy => (intro w9_ hS9; clear hS9; go_simp; try with_reducible rfl)
            (try simp only [Bk.PU, Act.put])
            refine wpAnyH_take (i := 1) (v := ?_) rfl (by kernel_rfl) (by kernel_rfl) (by kernel_rfl) (fun _ _ _ h => h) (Or.inl ⟨by rfl, ?hy⟩) hH ?_
            case hy => (intro w9_ hS9; clear hS9; go_simp; try with_reducible rfl)
            (try simp only [Bk.PU, Act.put])
            refine wpAnyH_take (i := 2) (v := ?_) rfl (by kernel_rfl) (by kernel_rfl) (by kernel_rfl) (fun _ _ _ h => h) (Or.inl ⟨by rfl, ?hy⟩) hH ?_
            case hy => (intro w9_ hS9; clear hS9; go_simp; try with_reducible rfl)
            (try simp only [Bk.PU, Act.put])
            refine wpAnyH_take (i := 3) (v := ?_) rfl (by kernel_rfl) (by kernel_rfl) (by kernel_rfl) (fun _ _ _ h => h) (Or.inl ⟨by rfl, ?hy⟩) hH ?_
            case hy => (intro w9_ hS9; clear hS9; go_simp; try with_reducible rfl)
            (try simp only [Bk.PU, Act.put])
            refine wpAnyH_take (i := 4) (v := ?_) rfl (by kernel_rfl) (by kernel_rfl) (by kernel_rfl) (fun _ _ _ h => h) (Or.inl ⟨by rfl, ?hy⟩) hH ?_
            case hy => (intro w9_ hS9; clear hS9; go_simp; try with_reducible rfl)
            (try simp only [Bk.PU, Act.put])
            refine wpAnyH_take (i := 5) (v := ?_) rfl (by kernel_rfl) (by kernel_rfl) (by kernel_rfl) (fun _ _ _ h => h) (Or.inl ⟨by rfl, ?hy⟩) hH ?_
            case hy => (intro w9_ hS9; clear hS9; go_simp; try with_reducible rfl)
            (try simp only [Bk.PU, Act.put])
            refine wpAnyH_take (i := 6) (v := ?_) rfl (by kernel_rfl) (by kernel_rfl) (by kernel_rfl) (fun _ _ _ h => h) (Or.inl ⟨by rfl, ?hy⟩) hH ?_
            case hy => (intro w9_ hS9; clear hS9; go_simp; try with_reducible rfl)
            (try simp only [Bk.PU, Act.put])
            refine wpAnyH_take (i := 8) (v := ?_) rfl (by kernel_rfl) (by kernel_rfl) (by kernel_rfl) (fun _ _ _ h => h) (Or.inl ⟨by rfl, ?hy⟩) hH ?_
            case hy => (intro w9_ hS9; clear hS9; go_simp; try with_reducible rfl)
            (try simp only [Bk.PU, Act.put])
            refine wpAnyH_take (i := 9) (v := ?_) rfl (by kernel_rfl) (by kernel_rfl) (by kernel_rfl) (fun _ _ _ h => h) (Or.inl ⟨by rfl, ?hy⟩) hH ?_
            case hy => (intro w9_ hS9; clear hS9; go_simp; try with_reducible rfl)
            (try simp only [Bk.PU, Act.put])
            refine wpAnyH_take (i := 10) (v := ?_) rfl (by kernel_rfl) (by kernel_rfl) (by kernel_rfl) (fun _ _ _ h => h) (Or.inl ⟨by rfl, ?hy⟩) hH ?_
            case hy => (intro w9_ hS9; clear hS9; go_simp; try with_reducible rfl)
            (try simp only [Bk.PU, Act.put])
            refine wpAnyH_ready (rs := [7]) (by kernel_rfl) (by simp) ?_
            refine AllReadyH.cons rfl (fun K hK => ?_) (AllReadyH.nil)
            go_simp
            refine (c_DTime (HVr.out.next hX) (HAr.out.next hX)).mono ?_
            rintro e w6 ⟨rfl, hb6⟩
            replace hX := hX.next hb6
            replace hH := hH.next hb6
            clear hb6
            refine hK.out _ _ hH (fun _ => ?_)
            clear hK
            (try simp only [Bk.PU, Act.put])
            refine wpAnyH_take (i := 11) (v := ?_) rfl (by kernel_rfl) (by kernel_rfl) (by kernel_rfl) (fun _ _ _ h => h) (Or.inl ⟨by rfl, ?hy⟩) hH ?_
            case hy => (intro w9_ hS9; clear hS9; go_simp; try with_reducible rfl)
            (try simp only [Bk.PU, Act.put])
            refine wpAnyH_take (i := 12) (v := ?_) rfl (by kernel_rfl) (by kernel_rfl) (by kernel_rfl) (fun _ _ _ h => h) (Or.inl ⟨by rfl, ?hy⟩) hH ?_
            case hy => (intro w9_ hS9; clear hS9; go_simp; try with_reducible rfl)
            (try simp only [Bk.PU, Act.put])
            refine wpAnyH_take (i := 13) (v := ?_) rfl (by kernel_rfl) (by kernel_rfl) (by kernel_rfl) (fun _ _ _ h => h) (Or.inl ⟨by rfl, ?hy⟩) hH ?_
            case hy => (intro w9_ hS9; clear hS9; go_simp; try with_reducible rfl)
            (try simp only [Bk.PU, Act.put])
            refine wpAnyH_take (i := 14) (v := ?_) rfl (by kernel_rfl) (by kernel_rfl) (by kernel_rfl) (fun _ _ _ h => h) (Or.inl ⟨by rfl, ?hy⟩) hH ?_
            case hy => (intro w9_ hS9; clear hS9; go_simp; try with_reducible rfl)
            (try simp only [Bk.PU, Act.put])
            refine wpAnyH_take (i := 15) (v := ?_) rfl (by kernel_rfl) (by kernel_rfl) (by kernel_rfl) (fun _ _ _ h => h) (Or.inl ⟨by rfl, ?hy⟩) hH ?_
            case hy => (intro w9_ hS9; clear hS9; go_simp; try with_reducible rfl)
            (try simp only [Bk.PU, Act.put])
            refine wpAnyH_take (i := 16) (v := ?_) rfl (by kernel_rfl) (by kernel_rfl) (by kernel_rfl) (fun _ _ _ h => h) (Or.inl ⟨by rfl, ?hy⟩) hH ?_
            case hy => (intro w9_ hS9; clear hS9; go_simp; try with_reducible rfl)
            (try simp only [Bk.PU, Act.put])
            refine wpAnyH_take (i := 17) (v := ?_) rfl (by kernel_rfl) (by kernel_rfl) (by kernel_rfl) (fun _ _ _ h => h) (Or.inl ⟨by rfl, ?hy⟩) hH ?_
            case hy => (intro w9_ hS9; clear hS9; go_simp; try with_reducible rfl)
            (try simp only [Bk.PU, Act.put])
            refine wpAnyH_take (i := 18) (v := ?_) rfl (by kernel_rfl) (by kernel_rfl) (by kernel_rfl) (fun _ _ _ h => h) (Or.inl ⟨by rfl, ?hy⟩) hH ?_
            case hy => (intro w9_ hS9; clear hS9; go_simp; try with_reducible rfl)
            (try simp only [Bk.PU, Act.put])
            refine wpAnyH_take (i := 21) (v := ?_) rfl (by kernel_rfl) (by kernel_rfl) (by kernel_rfl) (fun _ _ _ h => h) (Or.inl ⟨by rfl, ?hy⟩) hH ?_
            case hy => (intro w9_ hS9; have T9 := (hS9.blk HKTr.out (show ¬ P.O (w.heap.size + 2) from fun h => by have := (HO.out _ h).1; omega)).cell; clear hS9; go_simp; try with_reducible rfl)
            (try simp only [Bk.PU, Act.put])
            refine wpAnyH_ready (rs := [19]) (by kernel_rfl) (by simp) ?_
            refine AllReadyH.cons rfl (fun K hK => ?_) (AllReadyH.nil)
            go_simp
            refine (c_DTime (HVr.out.next hX) (HAr.out.next hX)).mono ?_
            rintro e w7 ⟨rfl, hb7⟩
            replace hX := hX.next hb7
            replace hH := hH.next hb7
            clear hb7
            refine hK.out _ _ hH (fun _ => ?_)
            clear hK
            (try simp only [Bk.PU, Act.put])
            refine wpAnyH_take (i := 20) (v := ?_) rfl (by kernel_rfl) (by kernel_rfl) (by kernel_rfl) (fun _ _ _ h => h) (Or.inl ⟨by rfl, ?hy⟩) hH ?_
            case hy => (intro w9_ hS9; clear hS9; go_simp; try with_reducible rfl)
            (try simp only [Bk.PU, Act.put])
            refine wpAnyH_ready (rs := [22]) (by kernel_rfl) (by simp) ?_
            refine AllReadyH.cons rfl (fun K hK => ?_) (AllReadyH.nil)
            go_simp
            refine (c_predicate _ tk htk ta tb hta).mono ?_
            rintro e w8 ⟨pg, pf, pl, C, rfl, heg, hpm, hC, hb8⟩
            have HX7 := Lib.hid hX
            replace hX := hX.next hb8
            replace hH := hH.next hb8
            have z8 := hb8.size
            have HEG := Lib.hid heg; have HPM := Lib.hid hpm; have HCC := Lib.hid hC; have HZ8 := Lib.hid hb8
            clear heg hpm hC hb8
            refine hK.out _ _ hH (fun _ => ?_)
            clear hK
            (try simp only [Bk.PU, Act.put])
            refine wpAnyH_ready (rs := [23]) (by kernel_rfl) (by simp) ?_
            refine AllReadyH.cons rfl (fun K hK => ?_) (AllReadyH.nil)
            go_simp
            have hs := c_Next (HVr.out.next hX) HVE.out (j := j) (by omega) (by omega) HEG.out HPM.out (fun b hb => ⟨(HCC.out b hb).2, fun h => by have h1 := (HO.out _ h).2; have h2 := (HCC.out b hb).1; have h3 := HFr.out.size; have h4 := HX7.out.size; omega⟩) ((L - j : Nat) : Int) (by unfold I64; omega) (by rw [Int.toNat_natCast]; omega) (by omega) (HAr.out.next hX)
            rw [Int.toNat_natCast, HRF.out] at hs
            have HS := Lib.hid hs
            clear hs
            refine HS.out.mono ?_
            rintro e w9 ⟨rfl, ha9, hf9⟩
            have HA9 := Lib.hid ha9; have HF9 : Hid (Fr P.O w8 w9) := Lib.hid hf9; have HB8 := Lib.hid hX; have HV9 := Lib.hid ((HVr.out.next hX).fr hf9)
            replace hH := hH.trans HF9.out
            clear ha9 hf9 HS hX
            refine hK.out _ _ hH (fun _ => ?_)
            clear hK
            (try simp only [Bk.PU, Act.put])
            refine wpAnyH_take (i := 24) (v := ?_) rfl (by kernel_rfl) (by kernel_rfl) (by kernel_rfl) (fun _ _ _ h => h) (Or.inl ⟨by rfl, ?hy⟩) hH ?_
            case hy => (intro w9_ hS9; clear hS9; go_simp; try with_reducible rfl)
            (try simp only [Bk.PU, Act.put])
            refine wpAnyH_done (by kernel_rfl) ?_ _
            have HH9 := Lib.hid hH
            clear hH
            go_wp2_with fail
            go_meet
            refine ⟨R.isSome, R.getD j, rfl, fun h => ?_, fun h => ?_, HA9.out, HV9.out, HH9.out⟩
            · obtain ⟨t, rfl⟩ := Option.isSome_iff_exists.1 h
              obtain ⟨q1, q2, -⟩ := findF_some _ _ _ HRF.out
              exact ⟨q1, (by show t ≤ _; omega), hits_fwd HRF.out⟩
            · obtain rfl : R = none := by cases R with | none => rfl | some t => cases h
              exact ⟨rfl, hits_end (HLin.out.ran) hjL HRF.out⟩
          · have hl1 : ¬ (j : Int) < (L : Int) := by omega
            refine wp_region_held_drew (S := fun W => Fr P.O wr W) (by kernel_rfl) ((Fr.refl _ _).next (Below.refl _ _).drew) (fun hH => ?_)
            have hX : Below wr.heap.size wr wr.drew := (Below.refl _ _).drew
            refine wpAnyH_take (i := 0) (v := ?_) rfl (by kernel_rfl) (by kernel_rfl) (by kernel_rfl) (fun _ _ _ h => h) (Or.inl ⟨by rfl, ?hy⟩) hH ?_
            case hy => (intro w9_ hS9; clear hS9; go_simp; try with_reducible rfl)
            (try simp only [Bk.PU, Act.put])
            refine wpAnyH_take (i := 1) (v := ?_) rfl (by kernel_rfl) (by kernel_rfl) (by kernel_rfl) (fun _ _ _ h => h) (Or.inl ⟨by rfl, ?hy⟩) hH ?_
            case hy => (intro w9_ hS9; clear hS9; go_simp; try with_reducible rfl)
            (try simp only [Bk.PU, Act.put])
            refine wpAnyH_take (i := 2) (v := ?_) rfl (by kernel_rfl) (by kernel_rfl) (by kernel_rfl) (fun _ _ _ h => h) (Or.inl ⟨by rfl, ?hy⟩) hH ?_
            case hy => (intro w9_ hS9; clear hS9; go_simp; try with_reducible rfl)
            (try simp only [Bk.PU, Act.put])
            refine wpAnyH_take (i := 3) (v := ?_) rfl (by kernel_rfl) (by kernel_rfl) (by kernel_rfl) (fun _ _ _ h => h) (Or.inl ⟨by rfl, ?hy⟩) hH ?_
            case hy => (intro w9_ hS9; clear hS9; go_simp; try with_reducible rfl)
            (try simp only [Bk.PU, Act.put])
            refine wpAnyH_take (i := 4) (v := ?_) rfl (by kernel_rfl) (by kernel_rfl) (by kernel_rfl) (fun _ _ _ h => h) (Or.inl ⟨by rfl, ?hy⟩) hH ?_
            case hy => (intro w9_ hS9; clear hS9; go_simp; try with_reducible rfl)
            (try simp only [Bk.PU, Act.put])
            refine wpAnyH_take (i := 5) (v := ?_) rfl (by kernel_rfl) (by kernel_rfl) (by kernel_rfl) (fun _ _ _ h => h) (Or.inl ⟨by rfl, ?hy⟩) hH ?_
            case hy => (intro w9_ hS9; clear hS9; go_simp; try with_reducible rfl)
            (try simp only [Bk.PU, Act.put])
            refine wpAnyH_take (i := 6) (v := ?_) rfl (by kernel_rfl) (by kernel_rfl) (by kernel_rfl) (fun _ _ _ h => h) (Or.inl ⟨by rfl, ?hy⟩) hH ?_
            case hy => (intro w9_ hS9; clear hS9; go_simp; try with_reducible rfl)
            (try simp only [Bk.PU, Act.put])
            refine wpAnyH_take (i := 8) (v := ?_) rfl (by kernel_rfl) (by kernel_rfl) (by kernel_rfl) (fun _ _ _ h => h) (Or.inl ⟨by rfl, ?hy⟩) hH ?_
            case hy => (intro w9_ hS9; clear hS9; go_simp; try with_reducible rfl)
            (try simp only [Bk.PU, Act.put])
            refine wpAnyH_take (i := 9) (v := ?_) rfl (by kernel_rfl) (by kernel_rfl) (by kernel_rfl) (fun _ _ _ h => h) (Or.inl ⟨by rfl, ?hy⟩) hH ?_
            case hy => (intro w9_ hS9; clear hS9; go_simp; try with_reducible rfl)
            (try simp only [Bk.PU, Act.put])
            refine wpAnyH_take (i := 10) (v := ?_) rfl (by kernel_rfl) (by kernel_rfl) (by kernel_rfl) (fun _ _ _ h => h) (Or.inl ⟨by rfl, ?hy⟩) hH ?_
            case hy => (intro w9_ hS9; clear hS9; go_simp; try with_reducible rfl)
            (try simp only [Bk.PU, Act.put])
            refine wpAnyH_ready (rs := [7]) (by kernel_rfl) (by simp) ?_
            refine AllReadyH.cons rfl (fun K hK => ?_) (AllReadyH.nil)
            go_simp
            refine (c_DTime (HVr.out.next hX) (HAr.out.next hX)).mono ?_
            rintro e w6 ⟨rfl, hb6⟩
            replace hX := hX.next hb6
            replace hH := hH.next hb6
            clear hb6
            refine hK.out _ _ hH (fun _ => ?_)
            clear hK
            (try simp only [Bk.PU, Act.put])
            refine wpAnyH_take (i := 11) (v := ?_) rfl (by kernel_rfl) (by kernel_rfl) (by kernel_rfl) (fun _ _ _ h => h) (Or.inl ⟨by rfl, ?hy⟩) hH ?_
            case hy => (intro w9_ hS9; clear hS9; go_simp; try with_reducible rfl)
            (try simp only [Bk.PU, Act.put])
            refine wpAnyH_take (i := 12) (v := ?_) rfl (by kernel_rfl) (by kernel_rfl) (by kernel_rfl) (fun _ _ _ h => h) (Or.inl ⟨by rfl, ?hy⟩) hH ?_
            case hy => (intro w9_ hS9; clear hS9; go_simp; try with_reducible rfl)
            (try simp only [Bk.PU, Act.put])
            refine wpAnyH_take (i := 13) (v := ?_) rfl (by kernel_rfl) (by kernel_rfl) (by kernel_rfl) (fun _ _ _ h => h) (Or.inl ⟨by rfl, ?hy⟩) hH ?_
            case hy => (intro w9_ hS9; clear hS9; go_simp; try with_reducible rfl)
            (try simp only [Bk.PU, Act.put])
            refine wpAnyH_take (i := 14) (v := undef) rfl (by kernel_rfl) (by kernel_rfl) (by kernel_rfl) (fun _ _ _ h => h) (Or.inr ⟨by rfl, rfl⟩) hH ?_
            (try simp only [Bk.PU, Act.put])
            refine wpAnyH_take (i := 15) (v := undef) rfl (by kernel_rfl) (by kernel_rfl) (by kernel_rfl) (fun _ _ _ h => h) (Or.inr ⟨by rfl, rfl⟩) hH ?_
            (try simp only [Bk.PU, Act.put])
            refine wpAnyH_take (i := 16) (v := undef) rfl (by kernel_rfl) (by kernel_rfl) (by kernel_rfl) (fun _ _ _ h => h) (Or.inr ⟨by rfl, rfl⟩) hH ?_
            (try simp only [Bk.PU, Act.put])
            refine wpAnyH_take (i := 17) (v := undef) rfl (by kernel_rfl) (by kernel_rfl) (by kernel_rfl) (fun _ _ _ h => h) (Or.inr ⟨by rfl, rfl⟩) hH ?_
            (try simp only [Bk.PU, Act.put])
            refine wpAnyH_take (i := 18) (v := undef) rfl (by kernel_rfl) (by kernel_rfl) (by kernel_rfl) (fun _ _ _ h => h) (Or.inr ⟨by rfl, rfl⟩) hH ?_
            (try simp only [Bk.PU, Act.put])
            refine wpAnyH_take (i := 21) (v := undef) rfl (by kernel_rfl) (by kernel_rfl) (by kernel_rfl) (fun _ _ _ h => h) (Or.inr ⟨by rfl, rfl⟩) hH ?_
            (try simp only [Bk.PU, Act.put])
            refine wpAnyH_ready (rs := [19]) (by kernel_rfl) (by simp) ?_
            refine AllReadyH.cons rfl (fun K hK => ?_) (AllReadyH.nil)
            rw [if_neg (by first | decide | (intro h; exact absurd (show (false : Bool) = true from h) (by decide)))]
            refine hK.out _ _ hH (fun _ => ?_)
            clear hK
            (try simp only [Bk.PU, Act.put])
            refine wpAnyH_take (i := 20) (v := undef) rfl (by kernel_rfl) (by kernel_rfl) (by kernel_rfl) (fun _ _ _ h => h) (Or.inr ⟨by rfl, rfl⟩) hH ?_
            (try simp only [Bk.PU, Act.put])
            refine wpAnyH_ready (rs := [22]) (by kernel_rfl) (by simp) ?_
            refine AllReadyH.cons rfl (fun K hK => ?_) (AllReadyH.nil)
            rw [if_neg (by first | decide | (intro h; exact absurd (show (false : Bool) = true from h) (by decide)))]
            refine hK.out _ _ hH (fun _ => ?_)
            clear hK
            (try simp only [Bk.PU, Act.put])
            refine wpAnyH_ready (rs := [23]) (by kernel_rfl) (by simp) ?_
            refine AllReadyH.cons rfl (fun K hK => ?_) (AllReadyH.nil)
            rw [if_neg (by first | decide | (intro h; exact absurd (show (false : Bool) = true from h) (by decide)))]
            refine hK.out _ _ hH (fun _ => ?_)
            clear hK
            (try simp only [Bk.PU, Act.put])
            refine wpAnyH_take (i := 24) (v := ?_) rfl (by kernel_rfl) (by kernel_rfl) (by kernel_rfl) (fun _ _ _ h => h) (Or.inl ⟨by rfl, ?hy⟩) hH ?_
            case hy => (intro w9_ hS9; clear hS9; go_simp; try with_reducible rfl)
            (try simp only [Bk.PU, Act.put])
            refine wpAnyH_done (by kernel_rfl) ?_ _
            have HH9 := Lib.hid hH
            have HX9 := Lib.hid hX
            clear hH hX
            go_wp2_with fail
            go_meet
            obtain rfl : j = L := by omega
            exact ⟨false, j, rfl, (fun h => by cases h), (fun _ => ⟨rfl, rfl⟩), HAr.out.next HX9.out, HVr.out.next HX9.out, HH9.out⟩
        case rest =>
          obtain ⟨r, t, rfl, hr1, hr2, ha9, hv9, hf9⟩ := hcut
          have HA9 := Lib.hid ha9; have HV9 := Lib.hid hv9; have HH9 := Lib.hid hf9
          clear ha9 hv9 hf9
          cases r with
          | true =>
            obtain ⟨hjt, htL, hhi⟩ := hr1 rfl
            have HHI := Lib.hid hhi
            clear hr1 hr2 hhi
            go_wp2_with fail
            refine (c_DTime HV9.out HA9.out).mono ?_
            rintro e w10 ⟨rfl, hb10⟩
            have hF10 : Fr P.O wr w10 := HH9.out.next hb10
            have HA10 := Lib.hid (HA9.out.next hb10); have HV10 := Lib.hid (HV9.out.next hb10)
            have z10 := hF10.size
            have hGE : ∀ k, (Value.slice tA tn tc).ownBlock = some k → w5.heap.size ≤ k := fun k hk => (own_ge HOWr.out hk).1
            have HGE := Lib.hid hGE
            have HOW10 : Hid (w10.ownsRow w5.heap.size 3 1 (.slice tA tn tc) tn (numCells (hits (fun i => (Tst.holds ⟨tk, ta, tb⟩) (tr im.code M i)) (j + 1)))) := Lib.hid (own_of_block HOWr.out (fun k hk hv => hF10.block k hk (fun ho => by have h1 := (HO.out _ ho).2; have h2 := hGE k hv; omega)))
            have HF10 := Lib.hid hF10
            have h5r : w5.heap.size ≤ wr.heap.size := HFr.out.size
            clear hb10 hF10 hGE
            obtain ⟨i2, li, lz, ls, lb⟩ := info_parts info_intP
            go_wp2_with (at_builtin; refine wpList_append_own_at _ rfl (.tmp 68) (.tmp 71) 23 rfl w5.heap.size 3 i2 _ 1 8 Tryd.underlying23 li lz ls lb rfl (by decide) _ _ _ rfl (HOW10.out.alloc _) ⟨w10.heap.size, 0, none⟩ 1 1 [.int .i64 (t : Int)] rfl rfl (cell_oneB _ _ _) (by intro u hu; simp at hu; subst hu; rfl) (by simp [maxLen]; omega) (by omega) (by simp; omega) ?_)
            intro v11 w11 hown hgr _ hat
            clear li lz ls lb
            obtain ⟨tA2, tc2, rfl⟩ := own_form hown
            have hlt2 := fun k hk => own_ge hown (k := k) hk
            have hf11 : Fr (fun k => (Value.slice tA tn tc).ownBlock = some k) w10 w11 := ((Fr.refl _ _).alloc _).trans ⟨hgr.os, hgr.tape, hgr.output, hgr.size, fun k hk ho => hgr.block k hk (by first | exact ho | exact fun e => ho e.symm)⟩
            have hOO : ∀ k, P.O k → ¬ (Value.slice tA tn tc).ownBlock = some k := fun k ho h => by have h1 := HGE.out k h; have h2 := (HO.out k ho).2; omega
            have hA11 : DAt w11 { P with fx := fun k => Value.ownBlock (.slice tA2 (tn + 1) tc2) = some k } im.code M t := DAt.otherF HA10.out hf11 (hOO _ (.inl rfl)) (hOO _ (.inr (.inl rfl))) (hOO _ (.inr (.inr rfl))) (fun k hk => hk) (fun k hk => hat.elim (fun e => .inl (by rw [← e]; exact hk)) (fun e => .inr (by rw [hk] at e; have e := Option.some.inj e; (try simp at e); omega))) (fun k hk => (hlt2 k hk).2)
            have hR10 := Rd.frR HRr.out h5r HF10.out (fun k h1 h2 h3 h => h3 h)
            have h510 : w5.heap.size ≤ w10.heap.size := by omega
            have hR11 := Rd.frR hR10 h510 hf11 (fun k h1 h2 h3 h => by have := HGE.out k h; omega)
            have hV11 : VFx w11 { P with fx := fun k => Value.ownBlock (.slice tA2 (tn + 1) tc2) = some k } A' n' cap' im := (VFx.other HV10.out (lo := w4.heap.size) (hi := w5.heap.size) hR10 h510 hf11 (fun k h1 h2 h => by have := HGE.out k h; omega) (fun h => by have h1 := HGE.out _ h; have h2 := HT.out.lt; have h3 := hB_w5.size; omega)).pl _
            have hF11 : Fr (fun k => P.O k ∨ w5.heap.size ≤ k) w5 w11 := (HFr.out.trans (HF10.out.mono fun k h => .inl h)).trans (hf11.mono fun k h => .inr (HGE.out k h))
            have e1 : numCells (hits (fun i => (Tst.holds ⟨tk, ta, tb⟩) (tr im.code M i)) (t + 1)) = numCells (hits (fun i => (Tst.holds ⟨tk, ta, tb⟩) (tr im.code M i)) (j + 1)) ++ [.int .i64 (t : Int)] := by rw [HHI.out]; simp [numCells]
            rw [← e1] at hown
            have HOW11 := Lib.hid hown; have HA11 := Lib.hid hA11; have HR11 := Lib.hid hR11; have HV11 := Lib.hid hV11; have HF11 := Lib.hid hF11
            clear hown hgr hat hlt2 hf11 hOO hA11 hR10 h510 hR11 hV11 hF11 e1
            go_wp2_with fail
            go_roundg (121 - t)
            case measure => have := HJK.out; omega
            case rel => exact ⟨t, tn + 1, tc2, tA2, by omega, by omega, rfl, HOW11.out, HA11.out, HV11.out, HR11.out, HF11.out⟩
          | false =>
            obtain ⟨rfl, hhi⟩ := hr2 rfl
            have HHI := Lib.hid hhi
            clear hr1 hr2 hhi
            go_wp2_with fail
            refine (c_SeekOk HV9.out HVE.out (j := t) (t := L) (by omega) (by omega) (by omega) (by omega) HLin.out.ran HA9.out).mono ?_
            rintro e w12 ⟨rfl, ha12, hf12⟩
            have hF12 : Fr P.O wr w12 := HH9.out.trans hf12
            have HA12 : Hid (DAt w12 { P with fx := fun k => Value.ownBlock (.slice tA tn tc) = some k } im.code M L) := Lib.hid ha12
            have HV12 : Hid (VFx w12 { P with fx := fun k => Value.ownBlock (.slice tA tn tc) = some k } A' n' cap' im) := Lib.hid (HV9.out.fr hf12)
            have HKT12 : Hid (Blk w12 (w.heap.size + 2) 42 #[.int .u8 tk, .int .i64 ta, .int .i64 tb]) := Lib.hid (hF12.blk HKTr.out (show ¬ P.O (w.heap.size + 2) from fun h => by have := (HO.out _ h).1; omega))
            have HOW12 : Hid (w12.ownsRow w5.heap.size 3 1 (.slice tA tn tc) tn (numCells (hits (fun i => (Tst.holds ⟨tk, ta, tb⟩) (tr im.code M i)) (L + 1)))) := Lib.hid (by rw [HHI.out]; exact own_of_block HOWr.out (fun k hk hv => hF12.block k hk (fun ho => by have h1 := (HO.out _ ho).2; have h2 := (own_ge HOWr.out hv).1; omega)))
            have HF12 : Hid (Fr (fun k => P.O k ∨ w5.heap.size ≤ k) w5 w12) := Lib.hid (HFr.out.trans (hF12.mono fun k h => .inl h))
            have htn : (hits (fun i => (Tst.holds ⟨tk, ta, tb⟩) (tr im.code M i)) (L + 1)).length = tn := by have := HOW12.out.1; simpa [numCells] using this
            have HTN := Lib.hid htn
            have TC : Hid (∀ i u : Nat, (hits (fun i => (Tst.holds ⟨tk, ta, tb⟩) (tr im.code M i)) (L + 1))[i]? = some u → ∃ g2, tA = some ⟨g2, 0, none⟩ ∧ w5.heap.size ≤ g2 ∧ g2 < w12.heap.size ∧ w12.cell? ⟨g2, i, none⟩ = some (.int .i64 (u : Int))) := Lib.hid (by
              intro i u hu
              have hi := (List.getElem?_eq_some_iff.1 hu).1
              obtain ⟨g2, cap2, e2, h1, h2, _, _, h5⟩ := own_some HOW12.out (by omega)
              injection e2 with e2
              exact ⟨g2, e2, h1, h2, h5 i _ (by unfold numCells; rw [List.getElem?_map, hu]; rfl)⟩)
            have HCAP : Hid (0 < tn → tn ≤ tc) := Lib.hid (fun h => by obtain ⟨g2, cap2, e2, _, _, h3, _⟩ := own_some HOW12.out h; injection e2 with _ _ e3; omega)
            have z12 := HF12.out.size
            clear ha12 hf12 hF12 HA9 HV9 HH9 HOWr HAr HVr HRr HFr HKTr htn HOW12 HHI HJK
            go_upto_region 14 with fail
            obtain ⟨pv, hpv⟩ : ∃ pv, (Tst.holds ⟨tk, ta, tb⟩) (tr im.code M L) = pv := ⟨_, rfl⟩
            have HPV := Lib.hid hpv
            clear hpv
            go_cut [94] (fun v94 wx => ∃ r : Bool, v94 = .bool r ∧ (r = true ↔ (pv = true ∧ 1 ≤ L)) ∧ Below w12.heap.size w12 wx)
            case first =>
              cases pv with
              | false =>
                refine wp_region_held_drew (S := fun W => Below w12.heap.size w12 W) (by kernel_rfl) ((Below.refl _ _).drew) (fun hH => ?_)
                refine wpAnyH_take (i := 0) (v := ?_) rfl (by kernel_rfl) (by kernel_rfl) (by kernel_rfl) (fun _ _ _ h => h) (Or.inl ⟨by rfl, ?hy⟩) hH ?_
                case hy => (intro w9_ hS9; have T9 := (HKT12.out.next hS9).cell; clear hS9; go_simp; try with_reducible rfl)
                (try simp only [Bk.PU, Act.put])
                refine wpAnyH_take (i := 1) (v := ?_) rfl (by kernel_rfl) (by kernel_rfl) (by kernel_rfl) (fun _ _ _ h => h) (Or.inl ⟨by rfl, ?hy⟩) hH ?_
                case hy => (intro w9_ hS9; clear hS9; go_simp; try with_reducible rfl)
                (try simp only [Bk.PU, Act.put])
                refine wpAnyH_ready (rs := [2]) (by kernel_rfl) (by simp) ?_
                refine AllReadyH.cons rfl (fun K hK => ?_) (AllReadyH.nil)
                go_simp
                refine (c_DMachine (HV12.out.next hH) HVE.out (j := L) (by omega) (HA12.out.next hH)).mono ?_
                rintro e w13 ⟨vmn, vsn, vcn, vin, von, svn, rfl, hO13, hb13⟩
                have HO13 := Lib.hid hO13
                have hb13' := hb13
                replace hH := hH.next hb13
                clear hO13 hb13
                refine hK.out _ _ hH (fun _ => ?_)
                clear hK
                (try simp only [Bk.PU, Act.put])
                refine wpAnyH_ready (rs := [3]) (by kernel_rfl) (by simp) ?_
                refine AllReadyH.cons rfl (fun K hK => ?_) (AllReadyH.nil)
                go_simp
                have hs := c_own HO13.out.mls (by have := (HVE.out.bd (L) (by omega)).ml; omega) tk htk ta tb hta
                rw [HPV.out] at hs
                have HSO := Lib.hid hs
                clear hs
                refine HSO.out.mono ?_
                rintro e w14 ⟨rfl, hb14⟩
                have hb14' := hb14
                replace hH := hH.next hb14
                clear hb14 HSO HO13
                refine hK.out _ _ hH (fun _ => ?_)
                clear hK
                (try simp only [Bk.PU, Act.put])
                refine wpAnyH_take (i := 4) (v := ?_) rfl (by kernel_rfl) (by kernel_rfl) (by kernel_rfl) (fun _ _ _ h => h) (Or.inl ⟨by rfl, ?hy⟩) hH ?_
                case hy => (intro w9_ hS9; clear hS9; go_simp; try with_reducible rfl)
                (try simp only [Bk.PU, Act.put])
                refine wpAnyH_take (i := 5) (v := undef) rfl (by kernel_rfl) (by kernel_rfl) (by kernel_rfl) (fun _ _ _ h => h) (Or.inr ⟨by rfl, rfl⟩) hH ?_
                (try simp only [Bk.PU, Act.put])
                refine wpAnyH_take (i := 6) (v := undef) rfl (by kernel_rfl) (by kernel_rfl) (by kernel_rfl) (fun _ _ _ h => h) (Or.inr ⟨by rfl, rfl⟩) hH ?_
                (try simp only [Bk.PU, Act.put])
                refine wpAnyH_take (i := 7) (v := undef) rfl (by kernel_rfl) (by kernel_rfl) (by kernel_rfl) (fun _ _ _ h => h) (Or.inr ⟨by rfl, rfl⟩) hH ?_
                (try simp only [Bk.PU, Act.put])
                refine wpAnyH_take (i := 8) (v := ?_) rfl (by kernel_rfl) (by kernel_rfl) (by kernel_rfl) (fun _ _ _ h => h) (Or.inl ⟨by rfl, ?hy⟩) hH ?_
                case hy => (intro w9_ hS9; clear hS9; go_simp; try with_reducible rfl)
                (try simp only [Bk.PU, Act.put])
                refine wpAnyH_done (by kernel_rfl) ?_ _
                have HX9 := Lib.hid hH
                clear hH
                go_wp2_with fail
                go_meet
                exact ⟨_, rfl, by simp, HX9.out⟩
              | true =>
                have hmc : (1 : Int) < (m : Int) ↔ 1 ≤ L := by have := HMm.out; omega
                have HMC := Lib.hid hmc
                clear hmc
                refine wp_region_held_drew (S := fun W => Below w12.heap.size w12 W) (by kernel_rfl) ((Below.refl _ _).drew) (fun hH => ?_)
                refine wpAnyH_take (i := 0) (v := ?_) rfl (by kernel_rfl) (by kernel_rfl) (by kernel_rfl) (fun _ _ _ h => h) (Or.inl ⟨by rfl, ?hy⟩) hH ?_
                case hy => (intro w9_ hS9; have T9 := (HKT12.out.next hS9).cell; clear hS9; go_simp; try with_reducible rfl)
                (try simp only [Bk.PU, Act.put])
                refine wpAnyH_take (i := 1) (v := ?_) rfl (by kernel_rfl) (by kernel_rfl) (by kernel_rfl) (fun _ _ _ h => h) (Or.inl ⟨by rfl, ?hy⟩) hH ?_
                case hy => (intro w9_ hS9; clear hS9; go_simp; try with_reducible rfl)
                (try simp only [Bk.PU, Act.put])
                refine wpAnyH_ready (rs := [2]) (by kernel_rfl) (by simp) ?_
                refine AllReadyH.cons rfl (fun K hK => ?_) (AllReadyH.nil)
                go_simp
                refine (c_DMachine (HV12.out.next hH) HVE.out (j := L) (by omega) (HA12.out.next hH)).mono ?_
                rintro e w13 ⟨vmn, vsn, vcn, vin, von, svn, rfl, hO13, hb13⟩
                have HO13 := Lib.hid hO13
                have hb13' := hb13
                replace hH := hH.next hb13
                clear hO13 hb13
                refine hK.out _ _ hH (fun _ => ?_)
                clear hK
                (try simp only [Bk.PU, Act.put])
                refine wpAnyH_ready (rs := [3]) (by kernel_rfl) (by simp) ?_
                refine AllReadyH.cons rfl (fun K hK => ?_) (AllReadyH.nil)
                go_simp
                have hs := c_own HO13.out.mls (by have := (HVE.out.bd (L) (by omega)).ml; omega) tk htk ta tb hta
                rw [HPV.out] at hs
                have HSO := Lib.hid hs
                clear hs
                refine HSO.out.mono ?_
                rintro e w14 ⟨rfl, hb14⟩
                have hb14' := hb14
                replace hH := hH.next hb14
                clear hb14 HSO HO13
                refine hK.out _ _ hH (fun _ => ?_)
                clear hK
                (try simp only [Bk.PU, Act.put])
                refine wpAnyH_take (i := 4) (v := ?_) rfl (by kernel_rfl) (by kernel_rfl) (by kernel_rfl) (fun _ _ _ h => h) (Or.inl ⟨by rfl, ?hy⟩) hH ?_
                case hy => (intro w9_ hS9; clear hS9; go_simp; try with_reducible rfl)
                (try simp only [Bk.PU, Act.put])
                refine wpAnyH_take (i := 5) (v := ?_) rfl (by kernel_rfl) (by kernel_rfl) (by kernel_rfl) (fun _ _ _ h => h) (Or.inl ⟨by rfl, ?hy⟩) hH ?_
                case hy => (intro w9_ hS9; clear hS9; go_simp; try with_reducible rfl)
                (try simp only [Bk.PU, Act.put])
                refine wpAnyH_take (i := 6) (v := ?_) rfl (by kernel_rfl) (by kernel_rfl) (by kernel_rfl) (fun _ _ _ h => h) (Or.inl ⟨by rfl, ?hy⟩) hH ?_
                case hy => (intro w9_ hS9; clear hS9; go_simp; try with_reducible rfl)
                (try simp only [Bk.PU, Act.put])
                refine wpAnyH_take (i := 7) (v := ?_) rfl (by kernel_rfl) (by kernel_rfl) (by kernel_rfl) (fun _ _ _ h => h) (Or.inl ⟨by rfl, ?hy⟩) hH ?_
                case hy => (intro w9_ hS9; clear hS9; go_simp; try with_reducible rfl)
                (try simp only [Bk.PU, Act.put])
                refine wpAnyH_take (i := 8) (v := ?_) rfl (by kernel_rfl) (by kernel_rfl) (by kernel_rfl) (fun _ _ _ h => h) (Or.inl ⟨by rfl, ?hy⟩) hH ?_
                case hy => (intro w9_ hS9; clear hS9; go_simp; try with_reducible rfl)
                (try simp only [Bk.PU, Act.put])
                refine wpAnyH_done (by kernel_rfl) ?_ _
                have HX9 := Lib.hid hH
                clear hH
                go_wp2_with fail
                go_meet
                exact ⟨_, rfl, by simpa using HMC.out, HX9.out⟩
            case rest =>
              obtain ⟨r, rfl, hri, hbx⟩ := hcut
              have HRI := Lib.hid hri; have HBX := Lib.hid hbx
              clear hri hbx
              go_upto_if 94 with fail
              obtain ⟨nk, hnk⟩ : ∃ nk, (hits (fun i => (Tst.holds ⟨tk, ta, tb⟩) (tr im.code M i)) L).length = nk := ⟨_, rfl⟩
              have hsucc := hits_succ (fun i => (Tst.holds ⟨tk, ta, tb⟩) (tr im.code M i)) L
              have hrt : r = true → hits (fun i => (Tst.holds ⟨tk, ta, tb⟩) (tr im.code M i)) (L + 1) = hits (fun i => (Tst.holds ⟨tk, ta, tb⟩) (tr im.code M i)) L ++ [L] := fun h => by rw [hsucc, if_pos]; exact ⟨(HRI.out.1 h).2, by show (Tst.holds ⟨tk, ta, tb⟩) (tr im.code M L) = true; rw [HPV.out]; exact (HRI.out.1 h).1⟩
              have hrf : r = false → hits (fun i => (Tst.holds ⟨tk, ta, tb⟩) (tr im.code M i)) (L + 1) = hits (fun i => (Tst.holds ⟨tk, ta, tb⟩) (tr im.code M i)) L := fun h => by rw [hsucc, if_neg, List.append_nil]; rintro ⟨h1, h2⟩; have h2 : (Tst.holds ⟨tk, ta, tb⟩) (tr im.code M L) = true := h2; rw [HPV.out] at h2; rw [HRI.out.2 ⟨h2, h1⟩] at h; cases h
              have HNK := Lib.hid hnk; have HRT := Lib.hid hrt; have HRFf := Lib.hid hrf
              have hpre : ∀ i u : Nat, (hits (fun i => (Tst.holds ⟨tk, ta, tb⟩) (tr im.code M i)) L)[i]? = some u → (hits (fun i => (Tst.holds ⟨tk, ta, tb⟩) (tr im.code M i)) (L + 1))[i]? = some u := fun i u hu => by
                cases r with
                | true => rw [hrt rfl, List.getElem?_append_left (List.getElem?_eq_some_iff.1 hu).1]; exact hu
                | false => rw [hrf rfl]; exact hu
              have HPRE := Lib.hid hpre
              clear hnk hrt hrf hsucc hpre
              go_cut [11] (fun v11 wx => v11 = .slice tA nk tc ∧ Below wc.heap.size wc wx)
              case first =>
                cases r with
                | true =>
                  have htn : tn = nk + 1 := by rw [← HTN.out, HRT.out rfl, ← HNK.out]; simp
                  obtain ⟨g2, rfl, hg2, hg2l, hc2⟩ := TC.out nk L (by rw [HRT.out rfl, List.getElem?_append_right (by rw [HNK.out]; exact Nat.le_refl _), HNK.out, Nat.sub_self]; rfl)
                  have hc3 := (HBX.out.cell (p := ⟨g2, nk, none⟩) hg2l).trans hc2
                  have hcap : nk + 1 ≤ tc := by rw [← htn]; exact HCAP.out (by omega)
                  have htn' : (tn : Int) = (nk : Int) + 1 := by omega
                  have h0 : ((tn : Int) == 0) = false := by simp; omega
                  have hw1 : IntKind.i64.wrap ((tn : Int) - 1) = (nk : Int) := by rw [htn', Int.add_sub_cancel]; exact wrap_small _ (by omega) (by omega)
                  have n0 : (0 : Int) ≤ (nk : Int) := by omega
                  have n1 : (nk : Int) < (tn : Int) := by omega
                  have n2 : (nk : Int) ≤ (tc : Int) := by omega
                  have hLL : ((L : Int) != (L : Int)) = false := by simp
                  clear htn htn' hcap hc2
                  go_wp2_with fail
                  go_meet
                  exact ⟨rfl, by go_grown⟩
                | false =>
                  have htn : tn = nk := by rw [← HTN.out, HRFf.out rfl, HNK.out]
                  have HTT := Lib.hid htn
                  clear htn
                  go_wp2_with fail
                  go_meet
                  exact ⟨by rw [HTT.out], by go_grown⟩
              case rest =>
                obtain ⟨rfl, hbx2⟩ := hcut
                have HBW := Lib.hid (HBX.out.next hbx2)
                clear hbx2 HBX HRT HRFf HRI HCAP
                have HA15 : Hid (DAt _ { P with fx := fun k => Value.ownBlock (.slice tA tn tc) = some k } im.code M L) := Lib.hid (HA12.out.next HBW.out)
                have HV15 : Hid (VFx _ { P with fx := fun k => Value.ownBlock (.slice tA tn tc) = some k } A' n' cap' im) := Lib.hid (HV12.out.next HBW.out)
                have HKT15 := Lib.hid (HKT12.out.next HBW.out)
                have HF15 := Lib.hid (HF12.out.next HBW.out)
                have TL : Hid (∀ i u : Nat, (hits (fun i => (Tst.holds ⟨tk, ta, tb⟩) (tr im.code M i)) L)[i]? = some u → ∃ g2, tA = some ⟨g2, 0, none⟩ ∧ w5.heap.size ≤ g2 ∧ g2 < wc.heap.size ∧ wc.cell? ⟨g2, i, none⟩ = some (.int .i64 (u : Int))) := Lib.hid (fun i u hu => by
                  obtain ⟨g2, e, h1, h2, h3⟩ := TC.out i u (HPRE.out i u hu)
                  exact ⟨g2, e, h1, Nat.lt_of_lt_of_le h2 HBW.out.size, (HBW.out.cell (p := ⟨g2, i, none⟩) h2).trans h3⟩)
                have z15 := HF15.out.size
                have hnkL : nk ≤ L := by rw [← HNK.out]; exact hits_le _ L
                clear HA12 HV12 HKT12 HF12 TC HPRE HPV HTN HBW
                go_wp2_with fail
                go_loopw [12] (fun v12 wq => ∃ j q : Nat, v12 = .int .i64 ((q : Int) - 1) ∧ q ≤ nk ∧ (hits (fun i => (Tst.holds ⟨tk, ta, tb⟩) (tr im.code M i)) j).length = q ∧ j ≤ L ∧ (1 ≤ j ∨ L = 0) ∧ (∀ i u : Nat, (hits (fun i => (Tst.holds ⟨tk, ta, tb⟩) (tr im.code M i)) j)[i]? = some u → (hits (fun i => (Tst.holds ⟨tk, ta, tb⟩) (tr im.code M i)) L)[i]? = some u) ∧ DAt wq { P with fx := fun k => Value.ownBlock (.slice tA tn tc) = some k } im.code M j ∧ VFx wq { P with fx := fun k => Value.ownBlock (.slice tA tn tc) = some k } A' n' cap' im ∧ Fr P.O wc wq) (fun v _ => (intOf v + 1).toNat)
                case atStart => exact ⟨L, nk, (by go_num), Nat.le_refl _, HNK.out, Nat.le_refl _, (by omega), (fun _ _ h => h), HA15.out, HV15.out, Fr.refl _ _⟩
                case round =>
                  obtain ⟨j, q, hv, hqn, hlen, hjL3, hj1, hpre, ha, hv2, hf⟩ := hrel
                  have HAq := Lib.hid ha; have HVq := Lib.hid hv2; have HFq := Lib.hid hf; have HPREq := Lib.hid hpre; have HLENq := Lib.hid hlen; have HJ1 := Lib.hid hj1
                  have zq := hf.size
                  have HKTq : Hid (Blk wr (w.heap.size + 2) 42 #[.int .u8 tk, .int .i64 ta, .int .i64 tb]) := Lib.hid (hf.blk HKT15.out (show ¬ P.O (w.heap.size + 2) from fun h => by have := (HO.out _ h).1; omega))
                  clear ha hv2 hf hpre hlen hj1
                  cases q with
                  | succ q =>
                    have hv : u12 = .int .i64 (q : Int) := by rw [hv]; congr 1; omega
                    subst hv
                    obtain ⟨t2, hfb, ht1, htj, hlt, hgq, hpr⟩ := hits_step (s := 121) HLENq.out (by omega)
                    obtain ⟨g2, rfl, hg2, hg2l, hc2⟩ := TL.out q t2 (HPREq.out q t2 hgq)
                    have hg2n : ¬ P.O g2 := fun h => by have := (HO.out _ h).2; omega
                    have HCQ : Hid (wr.cell? ⟨g2, q, none⟩ = some (.int .i64 (t2 : Int))) := Lib.hid ((HFq.out.cell hg2l hg2n q).trans hc2)
                    have HG2N := Lib.hid hg2n; have HFB := Lib.hid hfb; have HLT := Lib.hid hlt; have HPR := Lib.hid hpr
                    have hg2q : g2 < wr.heap.size := by omega
                    have n0 : (0 : Int) ≤ (q : Int) := by omega
                    have n1 : (q : Int) < (nk : Int) := by omega
                    have htt : ((t2 : Int) != (t2 : Int)) = false := by simp
                    clear hfb hlt hgq hpr hg2n hc2
                    go_upto_region 21 with fail
                    refine wp_region_held_drew (S := fun W => Fr P.O wr W) (by kernel_rfl) ((Fr.refl _ _).next (Below.refl _ _).drew) (fun hH => ?_)
                    have hX : Below wr.heap.size wr wr.drew := (Below.refl _ _).drew
                    refine wpAnyH_take (i := 0) (v := ?_) rfl (by kernel_rfl) (by kernel_rfl) (by kernel_rfl) (fun _ _ _ h => h) (Or.inl ⟨by rfl, ?hy⟩) hH ?_
                    case hy => (intro w9_ hS9; clear hS9; go_simp; try with_reducible rfl)
                    (try simp only [Bk.PU, Act.put])
                    refine wpAnyH_take (i := 1) (v := ?_) rfl (by kernel_rfl) (by kernel_rfl) (by kernel_rfl) (fun _ _ _ h => h) (Or.inl ⟨by rfl, ?hy⟩) hH ?_
                    case hy => (intro w9_ hS9; have T9 := (hS9.blk HKTq.out (show ¬ P.O (w.heap.size + 2) from fun h => by have := (HO.out _ h).1; omega)).cell; clear hS9; go_simp; try with_reducible rfl)
                    (try simp only [Bk.PU, Act.put])
                    refine wpAnyH_ready (rs := [2]) (by kernel_rfl) (by simp) ?_
                    refine AllReadyH.cons rfl (fun K hK => ?_) (AllReadyH.nil)
                    go_simp
                    refine (c_predicate _ tk htk ta tb hta).mono ?_
                    rintro e w18 ⟨pg, pf, pl, C, rfl, heg, hpm, hC, hb18⟩
                    have HX17 := Lib.hid hX
                    replace hX := hX.next hb18
                    replace hH := hH.next hb18
                    have z18 := hb18.size
                    have HEG := Lib.hid heg; have HPM := Lib.hid hpm; have HCC := Lib.hid hC
                    clear heg hpm hC hb18
                    refine hK.out _ _ hH (fun _ => ?_)
                    clear hK
                    (try simp only [Bk.PU, Act.put])
                    refine wpAnyH_ready (rs := [3]) (by kernel_rfl) (by simp) ?_
                    refine AllReadyH.cons rfl (fun K hK => ?_) (AllReadyH.nil)
                    go_simp
                    have hs := c_Prev (HVq.out.next hX) HVE.out (j := j) (by omega) (by omega) HEG.out HPM.out (fun b hb => ⟨(HCC.out b hb).2, fun h => by have h1 := (HO.out _ h).2; have h2 := (HCC.out b hb).1; have h4 := HX17.out.size; omega⟩) 121 (by unfold I64; omega) (by omega) (HAq.out.next hX)
                    rw [show ((121 : Int)).toNat = 121 from rfl, HFB.out] at hs
                    have HS := Lib.hid hs
                    clear hs
                    refine HS.out.mono ?_
                    rintro e w19 ⟨rfl, ha19, hf19⟩
                    have HA19 := Lib.hid ha19; have HF19 : Hid (Fr P.O w18 w19) := Lib.hid hf19; have HV19 := Lib.hid ((HVq.out.next hX).fr hf19)
                    replace hH := hH.trans HF19.out
                    clear ha19 hf19 HS hX
                    refine hK.out _ _ hH (fun _ => ?_)
                    clear hK
                    (try simp only [Bk.PU, Act.put])
                    refine wpAnyH_take (i := 4) (v := ?_) rfl (by kernel_rfl) (by kernel_rfl) (by kernel_rfl) (fun _ _ _ h => h) (Or.inl ⟨by rfl, ?hy⟩) hH ?_
                    case hy => (intro w9_ hS9; clear hS9; go_simp; try with_reducible rfl)
                    (try simp only [Bk.PU, Act.put])
                    refine wpAnyH_take (i := 5) (v := ?_) rfl (by kernel_rfl) (by kernel_rfl) (by kernel_rfl) (fun _ _ _ h => h) (Or.inl ⟨by rfl, ?hy⟩) hH ?_
                    case hy => (intro w9_ hS9; clear hS9; go_simp; try with_reducible rfl)
                    (try simp only [Bk.PU, Act.put])
                    refine wpAnyH_take (i := 6) (v := ?_) rfl (by kernel_rfl) (by kernel_rfl) (by kernel_rfl) (fun _ _ _ h => h) (Or.inl ⟨by rfl, ?hy⟩) hH ?_
                    case hy => (intro w9_ hS9; clear hS9; go_simp; try with_reducible rfl)
                    (try simp only [Bk.PU, Act.put])
                    refine wpAnyH_take (i := 8) (v := ?_) rfl (by kernel_rfl) (by kernel_rfl) (by kernel_rfl) (fun _ _ _ h => h) (Or.inl ⟨by rfl, ?hy⟩) hH ?_
                    case hy => (intro w9_ hS9; clear hS9; go_simp; try with_reducible rfl)
                    (try simp only [Bk.PU, Act.put])
                    refine wpAnyH_take (i := 9) (v := ?_) rfl (by kernel_rfl) (by kernel_rfl) (by kernel_rfl) (fun _ _ _ h => h) (Or.inl ⟨by rfl, ?hy⟩) hH ?_
                    case hy => (intro w9_ hS9; clear hS9; go_simp; try with_reducible rfl)
                    (try simp only [Bk.PU, Act.put])
                    refine wpAnyH_take (i := 10) (v := ?_) rfl (by kernel_rfl) (by kernel_rfl) (by kernel_rfl) (fun _ _ _ h => h) (Or.inl ⟨by rfl, ?hy⟩) hH ?_
                    case hy => (intro w9_ hS9; clear hS9; go_simp; try with_reducible rfl)
                    (try simp only [Bk.PU, Act.put])
                    refine wpAnyH_take (i := 11) (v := ?_) rfl (by kernel_rfl) (by kernel_rfl) (by kernel_rfl) (fun _ _ _ h => h) (Or.inl ⟨by rfl, ?hy⟩) hH ?_
                    case hy => (intro w9_ hS9; have T9 := (hS9.cell hg2q HG2N.out q).trans HCQ.out; clear hS9; go_simp; try with_reducible rfl)
                    (try simp only [Bk.PU, Act.put])
                    refine wpAnyH_ready (rs := [7]) (by kernel_rfl) (by simp) ?_
                    refine AllReadyH.cons rfl (fun K hK => ?_) (AllReadyH.nil)
                    go_simp
                    refine (c_DTime HV19.out HA19.out).mono ?_
                    rintro e w20 ⟨rfl, hb20⟩
                    have HA20 := Lib.hid (HA19.out.next hb20); have HV20 := Lib.hid (HV19.out.next hb20)
                    replace hH := hH.next hb20
                    clear hb20
                    refine hK.out _ _ hH (fun _ => ?_)
                    clear hK
                    (try simp only [Bk.PU, Act.put])
                    refine wpAnyH_take (i := 12) (v := ?_) rfl (by kernel_rfl) (by kernel_rfl) (by kernel_rfl) (fun _ _ _ h => h) (Or.inl ⟨by rfl, ?hy⟩) hH ?_
                    case hy => (intro w9_ hS9; clear hS9; go_simp; try with_reducible rfl)
                    (try simp only [Bk.PU, Act.put])
                    refine wpAnyH_take (i := 13) (v := ?_) rfl (by kernel_rfl) (by kernel_rfl) (by kernel_rfl) (fun _ _ _ h => h) (Or.inl ⟨by rfl, ?hy⟩) hH ?_
                    case hy => (intro w9_ hS9; clear hS9; go_simp; try with_reducible rfl)
                    (try simp only [Bk.PU, Act.put])
                    refine wpAnyH_done (by kernel_rfl) ?_ _
                    have HH21 := Lib.hid hH
                    clear hH
                    go_wp2_with fail
                    exact ⟨⟨t2, q, (by go_num), (by omega), HLT.out, (by omega), .inl ht1, (fun i u hu => HPREq.out i u (HPR.out i u hu)), HA20.out, HV20.out, HFq.out.trans HH21.out⟩, by simp [intOf] <;> omega⟩
                  | zero =>
                    have hv : u12 = .int .i64 (-1) := by rw [hv]; rfl
                    subst hv
                    have hnil : hits (fun i => (Tst.holds ⟨tk, ta, tb⟩) (tr im.code M i)) j = [] := List.eq_nil_of_length_eq_zero HLENq.out
                    obtain ⟨b0, hb0⟩ : ∃ b, (Tst.holds ⟨tk, ta, tb⟩) M = b := ⟨_, rfl⟩
                    obtain ⟨R, hR⟩ : ∃ R, findB im.code M (Tst.holds ⟨tk, ta, tb⟩) 121 j = R := ⟨_, rfl⟩
                    have hRc : (b0 = true ∧ 1 ≤ L ∧ R = some 0) ∨ (b0 = false ∧ R = none) ∨ (b0 = true ∧ L = 0 ∧ R = none) := by
                      by_cases hj0 : 1 ≤ j
                      · have h := findB_nil (s := 121) hnil (by omega) hj0
                        rw [hR, hb0] at h
                        cases b0 with
                        | true => exact .inl ⟨rfl, by omega, by simpa using h⟩
                        | false => exact .inr (.inl ⟨rfl, by simpa using h⟩)
                      · obtain rfl : j = 0 := by omega
                        have hL0 : L = 0 := by have := HJ1.out; omega
                        obtain rfl : R = none := hR.symm.trans rfl
                        cases b0 with
                        | true => exact .inr (.inr ⟨rfl, hL0, rfl⟩)
                        | false => exact .inr (.inl ⟨rfl, rfl⟩)
                    have hgO : ¬ P.O g := fun h => by have := (HO.out _ h).1; omega
                    have hc0 : w5.cell? ⟨g, 0, none⟩ = some (.bool b0) := by rw [HGC5.out 0 (by have := HLEN.out; have := HMm.out; omega), ← HLL2.out, tl_get (Nat.zero_le _)]; show some (Value.bool ((Tst.holds ⟨tk, ta, tb⟩) M)) = _; rw [hb0]
                    have hc1 : wr.cell? ⟨g, 0, none⟩ = some (.bool b0) := (HFq.out.cell (by omega) hgO 0).trans ((HF15.out.cell (by omega) (fun h => h.elim hgO (fun h => by omega)) 0).trans hc0)
                    have HC1 := Lib.hid hc1; have HR := Lib.hid hR; have HGO := Lib.hid hgO; have HRC := Lib.hid hRc
                    obtain ⟨z_t, T_t, F_t⟩ := HKTq.out.open_
                    clear hnil hR hRc hgO hc0 hc1 hb0
                    go_wp2_with fail
                    refine (c_predicate _ tk htk ta tb hta).mono ?_
                    rintro e w18 ⟨pg, pf, pl, C, rfl, heg, hpm, hC, hb18⟩
                    have hs := c_Prev (HVq.out.next hb18) HVE.out (j := j) (by omega) (by omega) heg hpm (fun b hb => ⟨(hC b hb).2, fun h => by have h1 := (HO.out _ h).2; have h2 := (hC b hb).1; omega⟩) 121 (by unfold I64; omega) (by omega) (HAq.out.next hb18)
                    rw [show ((121 : Int)).toNat = 121 from rfl, HR.out] at hs
                    have HS := Lib.hid hs
                    have HV18 := Lib.hid (HVq.out.next hb18); have HB18 := Lib.hid hb18
                    clear hs heg hpm hC hb18 T_t z_t F_t
                    go_wp2_with fail
                    refine HS.out.mono ?_
                    rintro e w19 ⟨rfl, ha19, hf19⟩
                    have hFq : Fr P.O wr w19 := (Fr.of HB18.out).trans hf19
                    have c19 : w19.cell? ⟨g, 0, none⟩ = some (.bool b0) := (hFq.cell (by omega) HGO.out 0).trans HC1.out
                    have HV19 := Lib.hid (HV18.out.fr hf19); have HA19 := Lib.hid ha19
                    have hBE : Below w.heap.size w w19 := hB_w5.trans ((HF15.out.trans ((HFq.out.trans hFq).mono fun k h => .inl h)).below (B := w.heap.size) (by have := hB_w5.size; omega) (fun k hk => by have h1 := hB_w4.size; have h2 := hB_w5.size; exact hk.elim (fun h => by have := (HO.out k h).1; omega) (fun h => by omega)))
                    clear ha19 hf19 hFq HS
                    have hg00 : (0 : Int) < (m : Int) := by have := HMm.out; omega
                    rcases HRC.out with ⟨e1, hL1, e2⟩ | ⟨e1, e2⟩ | ⟨e1, hL0, e2⟩
                    · subst e1; subst e2
                      have hm2 : (1 : Int) < (m : Int) := by have := HMm.out; omega
                      have HA19 : Hid (DAt w19 { P with fx := fun k => Value.ownBlock (.slice tA tn tc) = some k } im.code M 0) := HA19
                      go_wp2_with fail
                      refine (c_DTime HV19.out HA19.out).mono ?_
                      rintro e w20 ⟨rfl, hb20⟩
                      go_wp2_with fail
                      go_ret
                      exact ⟨rfl, hBE.next hb20⟩
                    · subst e1; subst e2
                      go_wp2_with fail
                      go_ret
                      exact ⟨rfl, hBE⟩
                    · subst e1; subst e2
                      have hm2 : decide ((1 : Int) < (m : Int)) = false := by have := HMm.out; simp; omega
                      go_wp2_with fail
                      go_ret
                      exact ⟨rfl, hBE⟩
theorem c_lawBreakpointBothI (A : Option Addr) (n cap : Nat) (im : Img) (M : Mach) (vm vs vc vi vo : Value) (sv : List Value) (w : World) (hC : Rd w (· < w.heap.size) 5 A n (codeCells im.code)) (hw : CodeWf im.code) (hL : MLs w (· < w.heap.size) M vm vs vc vi vo sv) (hwf : MWf M) (hl : ∀ l ∈ M.s, l.length ≤ 17592186043904) (hcl : M.calls.length ≤ 17592186043904) (hTab : TableAt w) (ki : Int) (ki0 : 0 ≤ ki) (ki1 : ki ≤ 255) (ta tb : Int) (hta : I64 ta) :
    Calls Tryd.prog 4 #[.agg #[.slice A n cap, .int .i64 im.mem, .int .i64 im.stacks], .agg (mcells M vm vs vc vi vo).toArray, .agg #[.int .u8 ki, .int .i64 ta, .int .i64 tb]] w fun e w' => e = .returned (.bool true) ∧ Below w.heap.size w w' := by
  obtain ⟨tk, rfl⟩ := Int.eq_ofNat_of_zero_le ki0
  exact c_lawBreakpointBoth A n cap im M vm vs vc vi vo sv w hC hw hL hwf hl hcl hTab tk (by omega) ta tb hta
end Go.Proofs.YteenmpjjaheggaaDoor
