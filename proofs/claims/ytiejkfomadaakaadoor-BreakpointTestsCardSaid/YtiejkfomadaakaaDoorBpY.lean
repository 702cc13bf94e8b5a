/- Several texts in one: BpD BpE BpF. -/
import Derived.Test.YtiejkfomadaakaaDoorBpX
import Derived.Laws.EntriesVeiled
set_option linter.unusedVariables false
set_option linter.unusedSimpArgs false
/- The walks of Last and Bisect of layer 34. -/
set_option maxRecDepth 100000
set_option linter.unusedVariables false
set_option linter.unusedSimpArgs false
namespace Go.Proofs.YtiejkfomadaakaaDoor
open Go.RowKit Bk
set_option maxHeartbeats 8000000 in
theorem c_Last {w : World} {P : Pl} {A : Option Addr} {n cap : Nat} {im : Img} {M : Mach} {J j : Nat} (hX : VFx w P A n cap im) (hE : VEnv im M J) (hJ : j ≤ J) (hj : j ≤ 1000000) {g : FuncId} {fs lb : Array Value} {C : Nat → Prop} {p : Mach → Bool} (eg : Enters Tryd.prog g) (hp : PredM Tryd.prog g fs lb C p w) (hC : ∀ b, C b → b < w.heap.size ∧ ¬ P.O b) (most : Int) (hmo : I64 most) (h0 : 0 ≤ most) (hmJ : j + most.toNat ≤ J) (hm9 : most ≤ 1000000) (hA : DAt w P im.code M j) :
    Calls Tryd.prog 30 #[.pointer (some ⟨P.b, 0, none⟩), .int .i64 most, .func (.func g) fs lb] w fun e w' => e = .returned (.tuple #[.int .i64 (((lastF im.code M p most.toNat j none).getD 0 : Nat) : Int), .bool (lastF im.code M p most.toNat j none).isSome]) ∧ DAt w' P im.code M j ∧ Fr P.O w w' := by
  have hmf : ∀ (fn : Fn) (first cap : Array Value) (w : World), (Instr.makeFunc fn first cap).run Tryd.prog w = .ok (.func fn first cap) w := fun _ _ _ _ => rfl; have hef := fun fn first cap w => run_eql_func fn first cap w; have hnn := fun w => run_eql_nil w
  have eg' : ∀ (args : Array Value) (w : World), (callFunc g args).run Tryd.prog w = .ok (.enter g args) w := eg
  unfold I64 at hmo
  obtain ⟨N, hNm, hlt, hst, hr⟩ := lastF_fin im.code M p most.toNat j none
  rw [hr]
  clear hr
  obtain ⟨rs, hrs⟩ : ∃ rs, (accL im.code M p j (N + 1) none).isSome = rs := ⟨_, rfl⟩
  obtain ⟨rj, hrj⟩ : ∃ rj, (accL im.code M p j (N + 1) none).getD 0 = rj := ⟨_, rfl⟩
  rw [hrs, hrj]
  have HX := Lib.hid hX; have HE := Lib.hid hE; have HA := Lib.hid hA; have HLT := Lib.hid hlt; have HST := Lib.hid hst; have HP := Lib.hid hp; have HC := Lib.hid hC
  have HRJ := Lib.hid hA.2
  have HRS := Lib.hid hrs; have HRG := Lib.hid hrj
  have n0 : ¬ most < 0 := by omega
  clear hX hE hA hlt hst hp hC hrs hrj
  go_enter Tryd.func30, Tryd.ntmps30
  go_wp2_with fail
  refine (c_DTime HX.out HA.out).mono ?_
  rintro e w1 ⟨rfl, hb1⟩
  have HX1 := Lib.hid (HX.out.next hb1); have HA1 := Lib.hid (HA.out.next hb1); have HF1 := Lib.hid ((Fr.refl P.O w).next hb1)
  clear hb1
  go_wp2_with fail
  go_loopw [1, 9, 10] (fun v1 v9 v10 wr => ∃ i : Nat, i ≤ N ∧ v1 = .int .i64 (most - (i : Int)) ∧ v9 = .int .i64 (((accL im.code M p j i none).getD 0 : Nat) : Int) ∧ v10 = .bool (accL im.code M p j i none).isSome ∧ DAt wr P im.code M (j + i) ∧ Fr P.O w wr) (fun v _ _ _ => (intOf v).toNat)
  case atStart => exact ⟨0, Nat.zero_le _, by simp, rfl, rfl, HA1.out, HF1.out⟩
  case round =>
    obtain ⟨i, hi, rfl, rfl, rfl, ha, hfr⟩ := hrel
    have HXi := Lib.hid (HX.out.fr hfr)
    have HAi := Lib.hid ha; have HFi := Lib.hid hfr
    obtain ⟨ag, hag⟩ : ∃ ag : Nat, (accL im.code M p j i none).getD 0 = ag := ⟨_, rfl⟩
    obtain ⟨ai, hai⟩ : ∃ ai, (accL im.code M p j i none).isSome = ai := ⟨_, rfl⟩
    rw [hag, hai]
    obtain ⟨pv, hpv⟩ : ∃ pv, p (tr im.code M (j + i)) = pv := ⟨_, rfl⟩
    have HPV := Lib.hid hpv
    have hacc : accL im.code M p j (i + 1) none = if pv = true then some (j + i) else accL im.code M p j i none := by
      show (if p (tr im.code M (j + i)) = true then some (j + i) else accL im.code M p j i none) = _
      rw [hpv]
    have HAG := Lib.hid hag; have HAI := Lib.hid hai; have HACC := Lib.hid hacc
    clear ha hfr hpv hag hai hacc
    go_wp2_with fail
    refine (c_DMachine HXi.out HE.out (j := j + i) (by omega) HAi.out).mono ?_
    rintro e w3 ⟨vmn, vsn, vcn, vin, von, svn, rfl, hO3, hb3⟩
    have HF3 := Lib.hid (HFi.out.next hb3)
    have HA3 := Lib.hid (HAi.out.next hb3)
    have hs := HP.out w3 (tr im.code M (j + i)) vmn vsn vcn vin von svn _ (fun b o hc => HF3.out.cell (HC.out b hc).1 (HC.out b hc).2 o) (fun b hc => by have := (HC.out b hc).1; have := HF3.out.size; omega) hO3.mls (HE.out.bd (j + i) (by omega))
    rw [HPV.out] at hs
    have HS := Lib.hid hs
    have hbx := hb3
    clear hs hO3 hb3
    go_wp2_with fail
    refine HS.out.mono ?_
    rintro e w4 ⟨rfl, hb4⟩
    have HF4 := Lib.hid (HF3.out.next hb4)
    have HA4 := Lib.hid (HA3.out.next hb4)
    have HX4 := Lib.hid (HXi.out.next (hbx.next hb4))
    clear hb4 hbx HS
    cases pv with
    | true =>
      have HA1G : Hid ((accL im.code M p j (i + 1) none).getD 0 = j + i ∧ (accL im.code M p j (i + 1) none).isSome = true) := Lib.hid (by rw [HACC.out]; exact ⟨rfl, rfl⟩)
      by_cases h1 : i < N
      · have q1 : (most - (i : Int) == 0) = false := by simp; omega
        have h0 := HLT.out i h1
        have H0 := Lib.hid h0
        clear h0
        go_wp2_with fail
        refine (c_DTime HX4.out HA4.out).mono ?_
        rintro e w5 ⟨rfl, hb5⟩
        have HX5 := Lib.hid (HX4.out.next hb5); have HA5 := Lib.hid (HA4.out.next hb5); have HF5 := Lib.hid (HF4.out.next hb5)
        clear hb5
        go_wp2_with fail
        refine (c_DStepOk HX5.out HE.out (j := j + i) (by omega) (by omega) HA5.out H0.out).mono ?_
        rintro e w6 ⟨rfl, ha6, hf6⟩
        have HF6 := Lib.hid (HF5.out.trans hf6)
        have HA6 := Lib.hid ha6
        clear ha6 hf6
        go_wp2_with fail
        exact ⟨⟨i + 1, by omega, by go_num, by rw [HA1G.out.1]; simp, by rw [HA1G.out.2], HA6.out, HF6.out⟩, by simp [intOf]; omega⟩
      · obtain rfl : i = N := by omega
        rcases HST.out with h2 | ⟨h2, h3⟩
        · have q1 : (most - (i : Int) == 0) = true := by simp; omega
          clear h2
          go_wp2_with fail
          refine (c_DTime HX4.out HA4.out).mono ?_
          rintro e w5 ⟨rfl, hb5⟩
          have HX5 := Lib.hid (HX4.out.next hb5); have HA5 := Lib.hid (HA4.out.next hb5); have HF5 := Lib.hid (HF4.out.next hb5)
          clear hb5
          go_wp2_with fail
          refine (c_SeekOk HX5.out HE.out (j := j + i) (t := j) (by omega) (by omega) (by omega) (by omega) HRJ.out HA5.out).mono ?_
          rintro e w7 ⟨rfl, ha7, hf7⟩
          have HF7 := Lib.hid (HF5.out.trans hf7)
          have HA7 := Lib.hid ha7
          clear ha7 hf7
          go_wp2_with fail
          go_ret2
          exact ⟨by rw [← HRS.out, ← HRG.out, HA1G.out.1, HA1G.out.2]; rfl, HA7.out, HF7.out⟩
        · have q1 : (most - (i : Int) == 0) = false := by simp; omega
          obtain ⟨ee, hee⟩ : ∃ ee, te im.code M (j + i) = ee := ⟨_, rfl⟩
          have hne : (ee != 0) = true := by rw [← hee]; simpa using h3
          have hse := fun (ww : World) (hV : VFx ww P A n cap im) (hA : DAt ww P im.code M (j + i)) => c_DStepErr hV HE.out (j := j + i) (by omega) hA h3
          rw [hee] at hse
          have HSE := Lib.hid hse
          clear h2 h3 hse hee
          go_wp2_with fail
          refine (c_DTime HX4.out HA4.out).mono ?_
          rintro e w5 ⟨rfl, hb5⟩
          have HX5 := Lib.hid (HX4.out.next hb5); have HA5 := Lib.hid (HA4.out.next hb5); have HF5 := Lib.hid (HF4.out.next hb5)
          clear hb5
          go_wp2_with fail
          refine (HSE.out _ HX5.out HA5.out).mono ?_
          rintro e w6 ⟨rfl, ha6, hf6⟩
          have HF6 := Lib.hid (HF5.out.trans hf6)
          have HX6 := Lib.hid (HX5.out.fr hf6)
          have HA6 := Lib.hid ha6
          clear ha6 hf6
          go_wp2_with fail
          refine (c_SeekOk HX6.out HE.out (j := j + i) (t := j) (by omega) (by omega) (by omega) (by omega) HRJ.out HA6.out).mono ?_
          rintro e w7 ⟨rfl, ha7, hf7⟩
          have HF7 := Lib.hid (HF6.out.trans hf7)
          have HA7 := Lib.hid ha7
          clear ha7 hf7
          go_wp2_with fail
          go_ret2
          exact ⟨by rw [← HRS.out, ← HRG.out, HA1G.out.1, HA1G.out.2]; rfl, HA7.out, HF7.out⟩
    | false =>
      have HA1G : Hid ((accL im.code M p j (i + 1) none).getD 0 = ag ∧ (accL im.code M p j (i + 1) none).isSome = ai) := Lib.hid (by rw [HACC.out]; exact ⟨HAG.out, HAI.out⟩)
      by_cases h1 : i < N
      · have q1 : (most - (i : Int) == 0) = false := by simp; omega
        have h0 := HLT.out i h1
        have H0 := Lib.hid h0
        clear h0
        go_wp2_with fail
        have HX5 := Lib.hid HX4.out; have HA5 := Lib.hid HA4.out; have HF5 := Lib.hid HF4.out
        clear HX4 HA4 HF4
        refine (c_DStepOk HX5.out HE.out (j := j + i) (by omega) (by omega) HA5.out H0.out).mono ?_
        rintro e w6 ⟨rfl, ha6, hf6⟩
        have HF6 := Lib.hid (HF5.out.trans hf6)
        have HA6 := Lib.hid ha6
        clear ha6 hf6
        go_wp2_with fail
        exact ⟨⟨i + 1, by omega, by go_num, by rw [HA1G.out.1], by rw [HA1G.out.2], HA6.out, HF6.out⟩, by simp [intOf]; omega⟩
      · obtain rfl : i = N := by omega
        rcases HST.out with h2 | ⟨h2, h3⟩
        · have q1 : (most - (i : Int) == 0) = true := by simp; omega
          clear h2
          go_wp2_with fail
          have HX5 := Lib.hid HX4.out; have HA5 := Lib.hid HA4.out; have HF5 := Lib.hid HF4.out
          clear HX4 HA4 HF4
          refine (c_SeekOk HX5.out HE.out (j := j + i) (t := j) (by omega) (by omega) (by omega) (by omega) HRJ.out HA5.out).mono ?_
          rintro e w7 ⟨rfl, ha7, hf7⟩
          have HF7 := Lib.hid (HF5.out.trans hf7)
          have HA7 := Lib.hid ha7
          clear ha7 hf7
          go_wp2_with fail
          go_ret2
          exact ⟨by rw [← HRS.out, ← HRG.out, HA1G.out.1, HA1G.out.2]; rfl, HA7.out, HF7.out⟩
        · have q1 : (most - (i : Int) == 0) = false := by simp; omega
          obtain ⟨ee, hee⟩ : ∃ ee, te im.code M (j + i) = ee := ⟨_, rfl⟩
          have hne : (ee != 0) = true := by rw [← hee]; simpa using h3
          have hse := fun (ww : World) (hV : VFx ww P A n cap im) (hA : DAt ww P im.code M (j + i)) => c_DStepErr hV HE.out (j := j + i) (by omega) hA h3
          rw [hee] at hse
          have HSE := Lib.hid hse
          clear h2 h3 hse hee
          go_wp2_with fail
          have HX5 := Lib.hid HX4.out; have HA5 := Lib.hid HA4.out; have HF5 := Lib.hid HF4.out
          clear HX4 HA4 HF4
          refine (HSE.out _ HX5.out HA5.out).mono ?_
          rintro e w6 ⟨rfl, ha6, hf6⟩
          have HF6 := Lib.hid (HF5.out.trans hf6)
          have HX6 := Lib.hid (HX5.out.fr hf6)
          have HA6 := Lib.hid ha6
          clear ha6 hf6
          go_wp2_with fail
          refine (c_SeekOk HX6.out HE.out (j := j + i) (t := j) (by omega) (by omega) (by omega) (by omega) HRJ.out HA6.out).mono ?_
          rintro e w7 ⟨rfl, ha7, hf7⟩
          have HF7 := Lib.hid (HF6.out.trans hf7)
          have HA7 := Lib.hid ha7
          clear ha7 hf7
          go_wp2_with fail
          go_ret2
          exact ⟨by rw [← HRS.out, ← HRG.out, HA1G.out.1, HA1G.out.2]; rfl, HA7.out, HF7.out⟩
theorem c_LastNilD (w : World) (most : Int) (v : Value) : Calls Tryd.prog 30 #[.pointer none, .int .i64 most, v] w fun e w' => e = .returned (.tuple #[.int .i64 0, .bool false]) ∧ Below w.heap.size w w' := by
  go_enter Tryd.func30, Tryd.ntmps30
  go_wp2_with fail
  go_ret2
  exact ⟨rfl, by repeat' (first | (with_reducible assumption) | (with_reducible exact Below.refl _ _) | (with_reducible refine Below.alloc ?_ ?_ _) | (with_reducible refine Bk.drewN_ ?_ _) | (with_reducible refine Below.drew ?_) | (with_reducible refine Below.setCell ?_ ?_ _) | go_size)⟩
theorem c_LastNilF (w : World) (b : Nat) (most : Int) : Calls Tryd.prog 30 #[.pointer (some ⟨b, 0, none⟩), .int .i64 most, .nilFunc] w fun e w' => e = .returned (.tuple #[.int .i64 0, .bool false]) ∧ Below w.heap.size w w' := by
  have hmf : ∀ (fn : Fn) (first cap : Array Value) (w : World), (Instr.makeFunc fn first cap).run Tryd.prog w = .ok (.func fn first cap) w := fun _ _ _ _ => rfl; have hef := fun fn first cap w => run_eql_func fn first cap w; have hnn := fun w => run_eql_nil w
  go_enter Tryd.func30, Tryd.ntmps30
  go_wp2_with fail
  go_ret2
  exact ⟨rfl, by repeat' (first | (with_reducible assumption) | (with_reducible exact Below.refl _ _) | (with_reducible refine Below.alloc ?_ ?_ _) | (with_reducible refine Bk.drewN_ ?_ _) | (with_reducible refine Below.drew ?_) | (with_reducible refine Below.setCell ?_ ?_ _) | go_size)⟩
theorem c_LastNeg (w : World) (b : Nat) (most : Int) (h : most < 0) (g : FuncId) (fs lb : Array Value) : Calls Tryd.prog 30 #[.pointer (some ⟨b, 0, none⟩), .int .i64 most, .func (.func g) fs lb] w fun e w' => e = .returned (.tuple #[.int .i64 0, .bool false]) ∧ Below w.heap.size w w' := by
  have hmf : ∀ (fn : Fn) (first cap : Array Value) (w : World), (Instr.makeFunc fn first cap).run Tryd.prog w = .ok (.func fn first cap) w := fun _ _ _ _ => rfl; have hef := fun fn first cap w => run_eql_func fn first cap w; have hnn := fun w => run_eql_nil w
  go_enter Tryd.func30, Tryd.ntmps30
  go_wp2_with fail
  go_ret2
  exact ⟨rfl, by repeat' (first | (with_reducible assumption) | (with_reducible exact Below.refl _ _) | (with_reducible refine Below.alloc ?_ ?_ _) | (with_reducible refine Bk.drewN_ ?_ _) | (with_reducible refine Below.drew ?_) | (with_reducible refine Below.setCell ?_ ?_ _) | go_size)⟩
end Go.Proofs.YtiejkfomadaakaaDoor

/- The walk of Bisect of layer 34. -/
set_option maxRecDepth 100000
set_option linter.unusedVariables false
set_option linter.unusedSimpArgs false
namespace Go.Proofs.YtiejkfomadaakaaDoor
open Go.RowKit Bk
set_option maxHeartbeats 8000000 in
theorem c_bholds {w : World} {P : Pl} {A : Option Addr} {n cap : Nat} {im : Img} {M : Mach} {J q t : Nat} (hX : VFx w P A n cap im) (hE : VEnv im M J) (hqJ : q ≤ J) (hq : q ≤ 1000000) (htJ : t ≤ J) (ht : t ≤ 1000000) {g : FuncId} {fs lb : Array Value} {C : Nat → Prop} {p : Mach → Bool} (eg : Enters Tryd.prog g) (hp : PredM Tryd.prog g fs lb C p w) (hC : ∀ b, C b → b < w.heap.size ∧ ¬ P.O b) (hr : Ran im.code M t) (hA : DAt w P im.code M q)
    {bd bt : Nat} (hbd : w.cell? ⟨bd, 0, none⟩ = some (.pointer (some ⟨P.b, 0, none⟩))) (hbt : w.cell? ⟨bt, 0, none⟩ = some (.func (.func g) fs lb)) (hd : bd < w.heap.size ∧ ¬ P.O bd) (ht' : bt < w.heap.size ∧ ¬ P.O bt) {pv : Bool} (hpv : p (tr im.code M t) = pv) :
    Calls Tryd.prog 45 #[.int .i64 (t : Int), .pointer (some ⟨bd, 0, none⟩), .pointer (some ⟨bt, 0, none⟩)] w fun e w' => e = .returned (.bool pv) ∧ DAt w' P im.code M t ∧ Fr P.O w w' := by
  have eg' : ∀ (args : Array Value) (w : World), (callFunc g args).run Tryd.prog w = .ok (.enter g args) w := eg
  have HX := Lib.hid hX; have HE := Lib.hid hE; have HA := Lib.hid hA; have HP := Lib.hid hp; have HC := Lib.hid hC; have HR := Lib.hid hr; have HPV := Lib.hid hpv
  obtain ⟨hd1, hd2⟩ := hd
  obtain ⟨ht1, ht2⟩ := ht'
  have HD2 := Lib.hid hd2; have HT2 := Lib.hid ht2; have HBT := Lib.hid hbt
  clear hX hE hA hp hC hr hpv hd2 ht2 hbt
  go_enter Tryd.func45, Tryd.ntmps45
  go_wp2_with fail
  refine (c_SeekOk HX.out HE.out (j := q) (t := t) hqJ (by omega) htJ (by omega) HR.out HA.out).mono ?_
  rintro e w2 ⟨rfl, ha2, hf2⟩
  have HX2 := Lib.hid (HX.out.fr hf2); have HA2 := Lib.hid ha2; have HF2 := Lib.hid hf2
  have cbd := (hf2.cell hd1 HD2.out 0).trans hbd
  have cbt := (hf2.cell ht1 HT2.out 0).trans HBT.out
  have hlbd : bd < w2.heap.size := by have := hf2.size; omega
  have hlbt : bt < w2.heap.size := by have := hf2.size; omega
  clear ha2 hf2 hbd
  go_upto_region 2 with fail
  refine wp_region_held_drew (S := fun W => Below w2.heap.size w2 W) (by kernel_rfl) ((Below.refl _ _).drew) (fun hH => ?_)
  refine wpAnyH_take (i := 0) (v := ?_) rfl (by kernel_rfl) (by kernel_rfl) (by kernel_rfl) (fun _ _ _ h => h) (Or.inl ⟨by rfl, ?hy⟩) hH ?_
  case hy => (intro w9_ hS9; have T9 := (hS9.cell (p := ⟨bt, 0, none⟩) hlbt).trans cbt; clear hS9; go_simp; try with_reducible rfl)
  (try simp only [List.getElem_toArray, List.getElem_cons_zero, List.getElem_cons_succ, Act.put, List.setIfInBounds_toArray, List.set_cons_zero, List.set_cons_succ])
  refine wpAnyH_take (i := 1) (v := ?_) rfl (by kernel_rfl) (by kernel_rfl) (by kernel_rfl) (fun _ _ _ h => h) (Or.inl ⟨by rfl, ?hy⟩) hH ?_
  case hy => (intro w9_ hS9; have T9 := (hS9.cell (p := ⟨bd, 0, none⟩) hlbd).trans cbd; clear hS9; go_simp; try with_reducible rfl)
  (try simp only [List.getElem_toArray, List.getElem_cons_zero, List.getElem_cons_succ, Act.put, List.setIfInBounds_toArray, List.set_cons_zero, List.set_cons_succ])
  refine wpAnyH_ready (rs := [2]) (by kernel_rfl) (by simp) ?_
  refine AllReadyH.cons rfl (fun K hK => ?_) (AllReadyH.nil)
  go_simp
  refine (c_DMachine (HX2.out.next hH) HE.out (j := t) htJ (HA2.out.next hH)).mono ?_
  rintro e w3 ⟨vmn, vsn, vcn, vin, von, svn, rfl, hO3, hb3⟩
  have hH3 := hH.next hb3
  have hs := HP.out w3 (tr im.code M t) vmn vsn vcn vin von svn _ (fun b o hc => (HF2.out.next hH3).cell (HC.out b hc).1 (HC.out b hc).2 o) (fun b hc => by have := (HC.out b hc).1; have := (HF2.out.next hH3).size; omega) hO3.mls (HE.out.bd t htJ)
  rw [HPV.out] at hs
  have HS := Lib.hid hs
  replace hH := hH3
  clear hs hO3 hb3 hH3
  refine hK.out _ _ hH (fun _ => ?_)
  clear hK
  (try simp only [List.getElem_toArray, List.getElem_cons_zero, List.getElem_cons_succ, Act.put, List.setIfInBounds_toArray, List.set_cons_zero, List.set_cons_succ])
  refine wpAnyH_ready (rs := [3]) (by kernel_rfl) (by simp) ?_
  refine AllReadyH.cons rfl (fun K hK => ?_) (AllReadyH.nil)
  go_simp
  refine HS.out.mono ?_
  rintro e w4 ⟨rfl, hb4⟩
  replace hH := hH.next hb4
  clear hb4 HS
  refine hK.out _ _ hH (fun _ => ?_)
  clear hK
  (try simp only [List.getElem_toArray, List.getElem_cons_zero, List.getElem_cons_succ, Act.put, List.setIfInBounds_toArray, List.set_cons_zero, List.set_cons_succ])
  refine wpAnyH_take (i := 4) (v := ?_) rfl (by kernel_rfl) (by kernel_rfl) (by kernel_rfl) (fun _ _ _ h => h) (Or.inl ⟨by rfl, ?hy⟩) hH ?_
  case hy => (intro w9_ hS9; clear hS9; go_simp; try with_reducible rfl)
  (try simp only [List.getElem_toArray, List.getElem_cons_zero, List.getElem_cons_succ, Act.put, List.setIfInBounds_toArray, List.set_cons_zero, List.set_cons_succ])
  refine wpAnyH_done (by kernel_rfl) ?_ _
  go_wp2_with fail
  go_ret
  exact ⟨rfl, HA2.out.next hH, HF2.out.next hH⟩
theorem c_BisectNilD (w : World) (lo hi : Int) (g : FuncId) (fs lb : Array Value) : Calls Tryd.prog 27 #[.pointer none, .int .i64 lo, .int .i64 hi, .func (.func g) fs lb] w fun e w' => e = .returned (.tuple #[.int .i64 0, .int .i64 1]) ∧ Below w.heap.size w w' := by
  go_enter Tryd.func27, Tryd.ntmps27
  go_wp2_with fail
  go_ret2
  exact ⟨rfl, by repeat' (first | (with_reducible assumption) | (with_reducible exact Below.refl _ _) | (with_reducible refine Below.alloc ?_ ?_ _) | (with_reducible refine Bk.drewN_ ?_ _) | (with_reducible refine Below.drew ?_) | (with_reducible refine Below.setCell ?_ ?_ _) | go_size)⟩
theorem c_BisectNilF (w : World) (b : Nat) (lo hi : Int) : Calls Tryd.prog 27 #[.pointer (some ⟨b, 0, none⟩), .int .i64 lo, .int .i64 hi, .nilFunc] w fun e w' => e = .returned (.tuple #[.int .i64 0, .int .i64 1]) ∧ Below w.heap.size w w' := by
  have hmf : ∀ (fn : Fn) (first cap : Array Value) (w : World), (Instr.makeFunc fn first cap).run Tryd.prog w = .ok (.func fn first cap) w := fun _ _ _ _ => rfl; have hef := fun fn first cap w => run_eql_func fn first cap w; have hnn := fun w => run_eql_nil w
  go_enter Tryd.func27, Tryd.ntmps27
  go_wp2_with fail
  go_ret2
  exact ⟨rfl, by repeat' (first | (with_reducible assumption) | (with_reducible exact Below.refl _ _) | (with_reducible refine Below.alloc ?_ ?_ _) | (with_reducible refine Bk.drewN_ ?_ _) | (with_reducible refine Below.drew ?_) | (with_reducible refine Below.setCell ?_ ?_ _) | go_size)⟩
theorem c_BisectRange (w : World) (b : Nat) (lo hi : Int) (h : lo < 0 ∨ hi ≤ lo) (g : FuncId) (fs lb : Array Value) : Calls Tryd.prog 27 #[.pointer (some ⟨b, 0, none⟩), .int .i64 lo, .int .i64 hi, .func (.func g) fs lb] w fun e w' => e = .returned (.tuple #[.int .i64 0, .int .i64 2]) ∧ Below w.heap.size w w' := by
  have hmf : ∀ (fn : Fn) (first cap : Array Value) (w : World), (Instr.makeFunc fn first cap).run Tryd.prog w = .ok (.func fn first cap) w := fun _ _ _ _ => rfl; have hef := fun fn first cap w => run_eql_func fn first cap w; have hnn := fun w => run_eql_nil w
  by_cases h1 : lo < 0
  · go_enter Tryd.func27, Tryd.ntmps27
    go_wp2_with fail
    go_ret2
    exact ⟨rfl, by repeat' (first | (with_reducible assumption) | (with_reducible exact Below.refl _ _) | (with_reducible refine Below.alloc ?_ ?_ _) | (with_reducible refine Bk.drewN_ ?_ _) | (with_reducible refine Below.drew ?_) | (with_reducible refine Below.setCell ?_ ?_ _) | go_size)⟩
  · have h2 : hi ≤ lo := h.resolve_left h1
    have h1' : 0 ≤ lo := by omega
    go_enter Tryd.func27, Tryd.ntmps27
    go_wp2_with fail
    go_ret2
    exact ⟨rfl, by repeat' (first | (with_reducible assumption) | (with_reducible exact Below.refl _ _) | (with_reducible refine Below.alloc ?_ ?_ _) | (with_reducible refine Bk.drewN_ ?_ _) | (with_reducible refine Below.drew ?_) | (with_reducible refine Below.setCell ?_ ?_ _) | go_size)⟩
end Go.Proofs.YtiejkfomadaakaaDoor

/- The walk of Bisect of layer 34: its results. -/
set_option maxRecDepth 100000
set_option linter.unusedVariables false
set_option linter.unusedSimpArgs false
namespace Go.Proofs.YtiejkfomadaakaaDoor
open Go.RowKit Bk
theorem _root_.Bk.DAt.olt {w : World} {P : Pl} {code : Prg} {M : Mach} {j : Nat} (hA : DAt w P code M j) : ∀ k, P.O k → k < w.heap.size := by
  obtain ⟨⟨_, _, _, _, _, _, h⟩, _⟩ := hA
  have c1 := h.lt; have c2 := h.gm; have c3 := h.gs
  intro k ho
  rcases ho with e | e | e <;> subst e
  · exact c1
  · exact c2
  · exact c3
set_option maxHeartbeats 8000000 in
theorem c_BisectErr {w : World} {P : Pl} {A : Option Addr} {n cap : Nat} {im : Img} {M : Mach} {J j : Nat} (hX : VFx w P A n cap im) (hE : VEnv im M J) (hJ : j ≤ J) (hj : j ≤ 1000000) {g : FuncId} {fs lb : Array Value} {C : Nat → Prop} {p : Mach → Bool} (eg : Enters Tryd.prog g) (hp : PredM Tryd.prog g fs lb C p w) (hC : ∀ b, C b → b < w.heap.size ∧ ¬ P.O b) {lo hi : Nat} (hlh : lo < hi) (hhJ : hi ≤ J) (hh : hi ≤ 1000000) {k : Nat} {ee : Int} (hkt : k < hi) (hr : Ran im.code M k) (hk : te im.code M k = ee) (he : ee ≠ 0) (hA : DAt w P im.code M j) :
    Calls Tryd.prog 27 #[.pointer (some ⟨P.b, 0, none⟩), .int .i64 (lo : Int), .int .i64 (hi : Int), .func (.func g) fs lb] w fun e w' => e = .returned (.tuple #[.int .i64 0, .int .i64 ee]) ∧ DAt w' P im.code M j ∧ Fr P.O w w' := by
  have hmf : ∀ (fn : Fn) (first cap : Array Value) (w : World), (Instr.makeFunc fn first cap).run Tryd.prog w = .ok (.func fn first cap) w := fun _ _ _ _ => rfl; have hef := fun fn first cap w => run_eql_func fn first cap w; have hnn := fun w => run_eql_nil w
  have eg' : ∀ (args : Array Value) (w : World), (callFunc g args).run Tryd.prog w = .ok (.enter g args) w := eg
  have hol := hA.olt
  have HX := Lib.hid hX; have HE := Lib.hid hE; have HA := Lib.hid hA; have HP := Lib.hid hp; have HC := Lib.hid hC; have HRJ := Lib.hid hA.2
  have e0 : (ee != 0) = true := by simpa using he
  have HR := Lib.hid hr; have HK := Lib.hid hk; have HEE := Lib.hid he
  clear hr hk he
  have l0 : ¬ (lo : Int) < 0 := by omega
  have l1 : ¬ (hi : Int) ≤ (lo : Int) := by omega
  have hn1 : ¬ P.O w.heap.size := fun h => by have := hol _ h; omega
  have hn2 : ¬ P.O (w.heap.size + 1) := fun h => by have := hol _ h; omega
  have HN1 := Lib.hid hn1; have HN2 := Lib.hid hn2
  clear hX hE hA hp hC hol hn1 hn2
  go_enter Tryd.func27, Tryd.ntmps27
  go_upto_region 1 with fail
  refine wp_nameY ?_
  intro w1 hw1
  have hB_w1 : Below w.heap.size w w1 := by rw [hw1]; exact (by repeat' (first | (with_reducible assumption) | (with_reducible exact Below.refl _ _) | (with_reducible refine Below.alloc ?_ ?_ _) | (with_reducible refine Bk.drewN_ ?_ _) | (with_reducible refine Below.drew ?_) | (with_reducible refine Below.setCell ?_ ?_ _) | go_size))
  have KD : Blk w1 w.heap.size 38 #[.pointer (some ⟨P.b, 0, none⟩)] := by rw [hw1]; exact (by repeat' (first | with_reducible assumption | (refine Blk.new' ?_ _ _; simp; done) | refine Blk.alloc ?_ _ | refine Blk.drewN ?_ _ | refine Blk.drew ?_))
  have KT : Blk w1 (w.heap.size + 1) 43 #[.func (.func g) fs lb] := by rw [hw1]; exact (by repeat' (first | with_reducible assumption | (refine Blk.new' ?_ _ _; simp; done) | refine Blk.alloc ?_ _ | refine Blk.drewN ?_ _ | refine Blk.drew ?_))
  have CD1 := Lib.hid (KD.cell 0); have CT1 := Lib.hid (KT.cell 0)
  have zz : w.heap.size + 1 < w1.heap.size := KT.lt
  have HX1 := Lib.hid (HX.out.next hB_w1); have HA1 := Lib.hid (HA.out.next hB_w1); have HF1 := Lib.hid ((Fr.refl P.O w).next hB_w1)
  clear hw1 KD KT hB_w1
  have cd := CD1.out; have ct := CT1.out
  have z1 : w.heap.size + 1 < w1.heap.size := zz
  go_wp2_with fail
  refine (c_DTime HX1.out HA1.out).mono ?_
  rintro e w2 ⟨rfl, hb2⟩
  have HX2 := Lib.hid (HX1.out.next hb2); have HA2 := Lib.hid (HA1.out.next hb2); have HF2 := Lib.hid (HF1.out.next hb2)
  have CD2 := Lib.hid ((hb2.cell (p := ⟨w.heap.size, 0, none⟩) (show w.heap.size < w1.heap.size by omega)).trans CD1.out); have CT2 := Lib.hid ((hb2.cell (p := ⟨w.heap.size + 1, 0, none⟩) (show w.heap.size + 1 < w1.heap.size by omega)).trans CT1.out)
  have z2 : w.heap.size + 1 < w2.heap.size := by have := hb2.size; omega
  clear hb2 cd ct z1
  have cd := CD2.out; have ct := CT2.out
  go_wp2_with fail
  refine (c_SeekErr HX2.out HE.out (j := j) (t := hi) (by omega) (by omega) (by omega) (by omega) hkt HR.out HK.out HEE.out HA2.out).mono ?_
  rintro e w3 ⟨rfl, ha3, hf3⟩
  have HX3 := Lib.hid (HX2.out.fr hf3); have HA3 := Lib.hid ha3; have HF3 := Lib.hid (HF2.out.trans hf3)
  have CD3 := Lib.hid ((hf3.cell (by omega) HN1.out 0).trans CD2.out); have CT3 := Lib.hid ((hf3.cell (by omega) HN2.out 0).trans CT2.out)
  have z3 : w.heap.size + 1 < w3.heap.size := by have := hf3.size; omega
  clear ha3 hf3 cd ct
  have cd := CD3.out; have ct := CT3.out
  go_wp2_with fail
  go_ret2
  exact ⟨rfl, HA3.out, HF3.out⟩
set_option maxHeartbeats 8000000 in
theorem c_BisectState {w : World} {P : Pl} {A : Option Addr} {n cap : Nat} {im : Img} {M : Mach} {J j : Nat} (hX : VFx w P A n cap im) (hE : VEnv im M J) (hJ : j ≤ J) (hj : j ≤ 1000000) {g : FuncId} {fs lb : Array Value} {C : Nat → Prop} {p : Mach → Bool} (eg : Enters Tryd.prog g) (hp : PredM Tryd.prog g fs lb C p w) (hC : ∀ b, C b → b < w.heap.size ∧ ¬ P.O b) {lo hi : Nat} (hlh : lo < hi) (hhJ : hi ≤ J) (hh : hi ≤ 1000000) (hr : Ran im.code M hi) (hs : p (tr im.code M lo) = true ∨ p (tr im.code M hi) = false) (hA : DAt w P im.code M j) :
    Calls Tryd.prog 27 #[.pointer (some ⟨P.b, 0, none⟩), .int .i64 (lo : Int), .int .i64 (hi : Int), .func (.func g) fs lb] w fun e w' => e = .returned (.tuple #[.int .i64 0, .int .i64 20]) ∧ DAt w' P im.code M j ∧ Fr P.O w w' := by
  have hmf : ∀ (fn : Fn) (first cap : Array Value) (w : World), (Instr.makeFunc fn first cap).run Tryd.prog w = .ok (.func fn first cap) w := fun _ _ _ _ => rfl; have hef := fun fn first cap w => run_eql_func fn first cap w; have hnn := fun w => run_eql_nil w
  have eg' : ∀ (args : Array Value) (w : World), (callFunc g args).run Tryd.prog w = .ok (.enter g args) w := eg
  have hol := hA.olt
  have HX := Lib.hid hX; have HE := Lib.hid hE; have HA := Lib.hid hA; have HP := Lib.hid hp; have HC := Lib.hid hC; have HRJ := Lib.hid hA.2
  have HR := Lib.hid hr; have HS := Lib.hid hs
  obtain ⟨pl, hpl⟩ : ∃ pl, p (tr im.code M lo) = pl := ⟨_, rfl⟩
  obtain ⟨ph, hph⟩ : ∃ ph, p (tr im.code M hi) = ph := ⟨_, rfl⟩
  rw [hpl, hph] at hs
  have HPL := Lib.hid hpl; have HPH := Lib.hid hph
  clear hr HS hpl hph
  have l0 : ¬ (lo : Int) < 0 := by omega
  have l1 : ¬ (hi : Int) ≤ (lo : Int) := by omega
  have hn1 : ¬ P.O w.heap.size := fun h => by have := hol _ h; omega
  have hn2 : ¬ P.O (w.heap.size + 1) := fun h => by have := hol _ h; omega
  have HN1 := Lib.hid hn1; have HN2 := Lib.hid hn2
  clear hX hE hA hp hC hol hn1 hn2
  go_enter Tryd.func27, Tryd.ntmps27
  go_upto_region 1 with fail
  refine wp_nameY ?_
  intro w1 hw1
  have hB_w1 : Below w.heap.size w w1 := by rw [hw1]; exact (by repeat' (first | (with_reducible assumption) | (with_reducible exact Below.refl _ _) | (with_reducible refine Below.alloc ?_ ?_ _) | (with_reducible refine Bk.drewN_ ?_ _) | (with_reducible refine Below.drew ?_) | (with_reducible refine Below.setCell ?_ ?_ _) | go_size))
  have KD : Blk w1 w.heap.size 38 #[.pointer (some ⟨P.b, 0, none⟩)] := by rw [hw1]; exact (by repeat' (first | with_reducible assumption | (refine Blk.new' ?_ _ _; simp; done) | refine Blk.alloc ?_ _ | refine Blk.drewN ?_ _ | refine Blk.drew ?_))
  have KT : Blk w1 (w.heap.size + 1) 43 #[.func (.func g) fs lb] := by rw [hw1]; exact (by repeat' (first | with_reducible assumption | (refine Blk.new' ?_ _ _; simp; done) | refine Blk.alloc ?_ _ | refine Blk.drewN ?_ _ | refine Blk.drew ?_))
  have CD1 := Lib.hid (KD.cell 0); have CT1 := Lib.hid (KT.cell 0)
  have zz : w.heap.size + 1 < w1.heap.size := KT.lt
  have HX1 := Lib.hid (HX.out.next hB_w1); have HA1 := Lib.hid (HA.out.next hB_w1); have HF1 := Lib.hid ((Fr.refl P.O w).next hB_w1)
  clear hw1 KD KT hB_w1
  have cd := CD1.out; have ct := CT1.out
  have z1 : w.heap.size + 1 < w1.heap.size := zz
  go_wp2_with fail
  refine (c_DTime HX1.out HA1.out).mono ?_
  rintro e w2 ⟨rfl, hb2⟩
  have HX2 := Lib.hid (HX1.out.next hb2); have HA2 := Lib.hid (HA1.out.next hb2); have HF2 := Lib.hid (HF1.out.next hb2)
  have CD2 := Lib.hid ((hb2.cell (p := ⟨w.heap.size, 0, none⟩) (show w.heap.size < w1.heap.size by omega)).trans CD1.out); have CT2 := Lib.hid ((hb2.cell (p := ⟨w.heap.size + 1, 0, none⟩) (show w.heap.size + 1 < w1.heap.size by omega)).trans CT1.out)
  have z2 : w.heap.size + 1 < w2.heap.size := by have := hb2.size; omega
  clear hb2 cd ct z1
  have cd := CD2.out; have ct := CT2.out
  go_wp2_with fail
  refine (c_SeekOk HX2.out HE.out (j := j) (t := hi) (by omega) (by omega) (by omega) (by omega) HR.out HA2.out).mono ?_
  rintro e w3 ⟨rfl, ha3, hf3⟩
  have HX3 := Lib.hid (HX2.out.fr hf3); have HA3 := Lib.hid ha3; have HF3 := Lib.hid (HF2.out.trans hf3)
  have CD3 := Lib.hid ((hf3.cell (by omega) HN1.out 0).trans CD2.out); have CT3 := Lib.hid ((hf3.cell (by omega) HN2.out 0).trans CT2.out)
  have z3 : w.heap.size + 1 < w3.heap.size := by have := hf3.size; omega
  clear ha3 hf3 cd ct
  have cd := CD3.out; have ct := CT3.out
  cases pl with
  | true =>
    go_wp2_with fail
    refine (c_bholds (q := hi) (t := lo) HX3.out HE.out (by omega) (by omega) (by omega) (by omega) eg (HP.out.fr HF3.out HC.out) (fun b hb => ⟨by have := (HC.out b hb).1; have := HF3.out.size; omega, (HC.out b hb).2⟩) (fun i hi' => HR.out i (by omega)) HA3.out CD3.out CT3.out ⟨by omega, HN1.out⟩ ⟨by omega, HN2.out⟩ HPL.out).mono ?_
    rintro e w4 ⟨rfl, ha4, hf4⟩
    have HX4 := Lib.hid (HX3.out.fr hf4); have HA4 := Lib.hid ha4; have HF4 := Lib.hid (HF3.out.trans hf4)
    have CD4 := Lib.hid ((hf4.cell (by omega) HN1.out 0).trans CD3.out); have CT4 := Lib.hid ((hf4.cell (by omega) HN2.out 0).trans CT3.out)
    have z4 : w.heap.size + 1 < w4.heap.size := by have := hf4.size; omega
    clear ha4 hf4 cd ct
    have cd := CD4.out; have ct := CT4.out
    go_wp2_with fail
    refine (c_SeekOk HX4.out HE.out (j := lo) (t := j) (by omega) (by omega) (by omega) (by omega) HRJ.out HA4.out).mono ?_
    rintro e w5 ⟨rfl, ha5, hf5⟩
    have HX5 := Lib.hid (HX4.out.fr hf5); have HA5 := Lib.hid ha5; have HF5 := Lib.hid (HF4.out.trans hf5)
    have CD5 := Lib.hid ((hf5.cell (by omega) HN1.out 0).trans CD4.out); have CT5 := Lib.hid ((hf5.cell (by omega) HN2.out 0).trans CT4.out)
    have z5 : w.heap.size + 1 < w5.heap.size := by have := hf5.size; omega
    clear ha5 hf5 cd ct
    have cd := CD5.out; have ct := CT5.out
    go_wp2_with fail
    go_ret2
    exact ⟨rfl, HA5.out, HF5.out⟩
  | false =>
    obtain rfl : ph = false := hs.resolve_left (by decide)
    go_wp2_with fail
    refine (c_bholds (q := hi) (t := lo) HX3.out HE.out (by omega) (by omega) (by omega) (by omega) eg (HP.out.fr HF3.out HC.out) (fun b hb => ⟨by have := (HC.out b hb).1; have := HF3.out.size; omega, (HC.out b hb).2⟩) (fun i hi' => HR.out i (by omega)) HA3.out CD3.out CT3.out ⟨by omega, HN1.out⟩ ⟨by omega, HN2.out⟩ HPL.out).mono ?_
    rintro e w4 ⟨rfl, ha4, hf4⟩
    have HX4 := Lib.hid (HX3.out.fr hf4); have HA4 := Lib.hid ha4; have HF4 := Lib.hid (HF3.out.trans hf4)
    have CD4 := Lib.hid ((hf4.cell (by omega) HN1.out 0).trans CD3.out); have CT4 := Lib.hid ((hf4.cell (by omega) HN2.out 0).trans CT3.out)
    have z4 : w.heap.size + 1 < w4.heap.size := by have := hf4.size; omega
    clear ha4 hf4 cd ct
    have cd := CD4.out; have ct := CT4.out
    go_wp2_with fail
    refine (c_bholds (q := lo) (t := hi) HX4.out HE.out (by omega) (by omega) (by omega) (by omega) eg (HP.out.fr HF4.out HC.out) (fun b hb => ⟨by have := (HC.out b hb).1; have := HF4.out.size; omega, (HC.out b hb).2⟩) HR.out HA4.out CD4.out CT4.out ⟨by omega, HN1.out⟩ ⟨by omega, HN2.out⟩ HPH.out).mono ?_
    rintro e w5 ⟨rfl, ha5, hf5⟩
    have HX5 := Lib.hid (HX4.out.fr hf5); have HA5 := Lib.hid ha5; have HF5 := Lib.hid (HF4.out.trans hf5)
    have CD5 := Lib.hid ((hf5.cell (by omega) HN1.out 0).trans CD4.out); have CT5 := Lib.hid ((hf5.cell (by omega) HN2.out 0).trans CT4.out)
    have z5 : w.heap.size + 1 < w5.heap.size := by have := hf5.size; omega
    clear ha5 hf5 cd ct
    have cd := CD5.out; have ct := CT5.out
    go_wp2_with fail
    refine (c_SeekOk HX5.out HE.out (j := hi) (t := j) (by omega) (by omega) (by omega) (by omega) HRJ.out HA5.out).mono ?_
    rintro e w6 ⟨rfl, ha6, hf6⟩
    have HX6 := Lib.hid (HX5.out.fr hf6); have HA6 := Lib.hid ha6; have HF6 := Lib.hid (HF5.out.trans hf6)
    have CD6 := Lib.hid ((hf6.cell (by omega) HN1.out 0).trans CD5.out); have CT6 := Lib.hid ((hf6.cell (by omega) HN2.out 0).trans CT5.out)
    have z6 : w.heap.size + 1 < w6.heap.size := by have := hf6.size; omega
    clear ha6 hf6 cd ct
    have cd := CD6.out; have ct := CT6.out
    go_wp2_with fail
    go_ret2
    exact ⟨rfl, HA6.out, HF6.out⟩
set_option maxHeartbeats 8000000 in
theorem c_BisectOk {w : World} {P : Pl} {A : Option Addr} {n cap : Nat} {im : Img} {M : Mach} {J j : Nat} (hX : VFx w P A n cap im) (hE : VEnv im M J) (hJ : j ≤ J) (hj : j ≤ 1000000) {g : FuncId} {fs lb : Array Value} {C : Nat → Prop} {p : Mach → Bool} (eg : Enters Tryd.prog g) (hp : PredM Tryd.prog g fs lb C p w) (hC : ∀ b, C b → b < w.heap.size ∧ ¬ P.O b) {lo hi : Nat} (hlh : lo < hi) (hhJ : hi ≤ J) (hh : hi ≤ 1000000) (hr : Ran im.code M hi) (hpl : p (tr im.code M lo) = false) (hph : p (tr im.code M hi) = true) (hA : DAt w P im.code M j) :
    Calls Tryd.prog 27 #[.pointer (some ⟨P.b, 0, none⟩), .int .i64 (lo : Int), .int .i64 (hi : Int), .func (.func g) fs lb] w fun e w' => e = .returned (.tuple #[.int .i64 ((bis (fun t => p (tr im.code M t)) (hi - lo) lo hi : Nat) : Int), .int .i64 0]) ∧ DAt w' P im.code M j ∧ Fr P.O w w' := by
  have hmf : ∀ (fn : Fn) (first cap : Array Value) (w : World), (Instr.makeFunc fn first cap).run Tryd.prog w = .ok (.func fn first cap) w := fun _ _ _ _ => rfl; have hef := fun fn first cap w => run_eql_func fn first cap w; have hnn := fun w => run_eql_nil w
  have eg' : ∀ (args : Array Value) (w : World), (callFunc g args).run Tryd.prog w = .ok (.enter g args) w := eg
  have hol := hA.olt
  have HX := Lib.hid hX; have HE := Lib.hid hE; have HA := Lib.hid hA; have HP := Lib.hid hp; have HC := Lib.hid hC; have HRJ := Lib.hid hA.2
  have HR := Lib.hid hr; have HPL := Lib.hid hpl; have HPH := Lib.hid hph
  obtain ⟨R, hR⟩ : ∃ R, bis (fun t => p (tr im.code M t)) (hi - lo) lo hi = R := ⟨_, rfl⟩
  rw [hR]
  have HRR := Lib.hid hR
  clear hr hpl hph hR
  have l0 : ¬ (lo : Int) < 0 := by omega
  have l1 : ¬ (hi : Int) ≤ (lo : Int) := by omega
  have hn1 : ¬ P.O w.heap.size := fun h => by have := hol _ h; omega
  have hn2 : ¬ P.O (w.heap.size + 1) := fun h => by have := hol _ h; omega
  have HN1 := Lib.hid hn1; have HN2 := Lib.hid hn2
  clear hX hE hA hp hC hol hn1 hn2
  go_enter Tryd.func27, Tryd.ntmps27
  go_upto_region 1 with fail
  refine wp_nameY ?_
  intro w1 hw1
  have hB_w1 : Below w.heap.size w w1 := by rw [hw1]; exact (by repeat' (first | (with_reducible assumption) | (with_reducible exact Below.refl _ _) | (with_reducible refine Below.alloc ?_ ?_ _) | (with_reducible refine Bk.drewN_ ?_ _) | (with_reducible refine Below.drew ?_) | (with_reducible refine Below.setCell ?_ ?_ _) | go_size))
  have KD : Blk w1 w.heap.size 38 #[.pointer (some ⟨P.b, 0, none⟩)] := by rw [hw1]; exact (by repeat' (first | with_reducible assumption | (refine Blk.new' ?_ _ _; simp; done) | refine Blk.alloc ?_ _ | refine Blk.drewN ?_ _ | refine Blk.drew ?_))
  have KT : Blk w1 (w.heap.size + 1) 43 #[.func (.func g) fs lb] := by rw [hw1]; exact (by repeat' (first | with_reducible assumption | (refine Blk.new' ?_ _ _; simp; done) | refine Blk.alloc ?_ _ | refine Blk.drewN ?_ _ | refine Blk.drew ?_))
  have CD1 := Lib.hid (KD.cell 0); have CT1 := Lib.hid (KT.cell 0)
  have zz : w.heap.size + 1 < w1.heap.size := KT.lt
  have HX1 := Lib.hid (HX.out.next hB_w1); have HA1 := Lib.hid (HA.out.next hB_w1); have HF1 := Lib.hid ((Fr.refl P.O w).next hB_w1)
  clear hw1 KD KT hB_w1
  have cd := CD1.out; have ct := CT1.out
  have z1 : w.heap.size + 1 < w1.heap.size := zz
  go_wp2_with fail
  refine (c_DTime HX1.out HA1.out).mono ?_
  rintro e w2 ⟨rfl, hb2⟩
  have HX2 := Lib.hid (HX1.out.next hb2); have HA2 := Lib.hid (HA1.out.next hb2); have HF2 := Lib.hid (HF1.out.next hb2)
  have CD2 := Lib.hid ((hb2.cell (p := ⟨w.heap.size, 0, none⟩) (show w.heap.size < w1.heap.size by omega)).trans CD1.out); have CT2 := Lib.hid ((hb2.cell (p := ⟨w.heap.size + 1, 0, none⟩) (show w.heap.size + 1 < w1.heap.size by omega)).trans CT1.out)
  have z2 : w.heap.size + 1 < w2.heap.size := by have := hb2.size; omega
  clear hb2 cd ct z1
  have cd := CD2.out; have ct := CT2.out
  go_wp2_with fail
  refine (c_SeekOk HX2.out HE.out (j := j) (t := hi) (by omega) (by omega) (by omega) (by omega) HR.out HA2.out).mono ?_
  rintro e w3 ⟨rfl, ha3, hf3⟩
  have HX3 := Lib.hid (HX2.out.fr hf3); have HA3 := Lib.hid ha3; have HF3 := Lib.hid (HF2.out.trans hf3)
  have CD3 := Lib.hid ((hf3.cell (by omega) HN1.out 0).trans CD2.out); have CT3 := Lib.hid ((hf3.cell (by omega) HN2.out 0).trans CT2.out)
  have z3 : w.heap.size + 1 < w3.heap.size := by have := hf3.size; omega
  clear ha3 hf3 cd ct
  have cd := CD3.out; have ct := CT3.out
  go_wp2_with fail
  refine (c_bholds (q := hi) (t := lo) HX3.out HE.out (by omega) (by omega) (by omega) (by omega) eg (HP.out.fr HF3.out HC.out) (fun b hb => ⟨by have := (HC.out b hb).1; have := HF3.out.size; omega, (HC.out b hb).2⟩) (fun i hi' => HR.out i (by omega)) HA3.out CD3.out CT3.out ⟨by omega, HN1.out⟩ ⟨by omega, HN2.out⟩ HPL.out).mono ?_
  rintro e w4 ⟨rfl, ha4, hf4⟩
  have HX4 := Lib.hid (HX3.out.fr hf4); have HA4 := Lib.hid ha4; have HF4 := Lib.hid (HF3.out.trans hf4)
  have CD4 := Lib.hid ((hf4.cell (by omega) HN1.out 0).trans CD3.out); have CT4 := Lib.hid ((hf4.cell (by omega) HN2.out 0).trans CT3.out)
  have z4 : w.heap.size + 1 < w4.heap.size := by have := hf4.size; omega
  clear ha4 hf4 cd ct
  have cd := CD4.out; have ct := CT4.out
  go_wp2_with fail
  refine (c_bholds (q := lo) (t := hi) HX4.out HE.out (by omega) (by omega) (by omega) (by omega) eg (HP.out.fr HF4.out HC.out) (fun b hb => ⟨by have := (HC.out b hb).1; have := HF4.out.size; omega, (HC.out b hb).2⟩) HR.out HA4.out CD4.out CT4.out ⟨by omega, HN1.out⟩ ⟨by omega, HN2.out⟩ HPH.out).mono ?_
  rintro e w5 ⟨rfl, ha5, hf5⟩
  have HX5 := Lib.hid (HX4.out.fr hf5); have HA5 := Lib.hid ha5; have HF5 := Lib.hid (HF4.out.trans hf5)
  have CD5 := Lib.hid ((hf5.cell (by omega) HN1.out 0).trans CD4.out); have CT5 := Lib.hid ((hf5.cell (by omega) HN2.out 0).trans CT4.out)
  have z5 : w.heap.size + 1 < w5.heap.size := by have := hf5.size; omega
  clear ha5 hf5 cd ct
  have cd := CD5.out; have ct := CT5.out
  go_wp2_with fail
  go_loopw [1, 2] (fun v1 v2 wr => ∃ lo' hi' q f : Nat, v1 = .int .i64 lo' ∧ v2 = .int .i64 hi' ∧ lo' < hi' ∧ hi' ≤ hi ∧ q ≤ hi ∧ hi' - lo' ≤ f + 1 ∧ bis (fun t => p (tr im.code M t)) f lo' hi' = R ∧ DAt wr P im.code M q ∧ Fr P.O w5 wr) (fun v1 v2 _ => (intOf v2 - intOf v1).toNat)
  case atStart => exact ⟨lo, hi, hi, hi - lo, rfl, rfl, hlh, Nat.le_refl _, Nat.le_refl _, by omega, HRR.out, HA5.out, Fr.refl _ _⟩
  case round =>
    obtain ⟨lo', hi', q, f, rfl, rfl, h1, h2, h3, h4, h5, ha, hfr⟩ := hrel
    have HX6 := Lib.hid (HX5.out.fr hfr); have HA6 := Lib.hid ha; have HF6 := Lib.hid (HF5.out.trans hfr); have HFL := Lib.hid hfr
    have CD6 := Lib.hid ((hfr.cell (by omega) HN1.out 0).trans CD5.out); have CT6 := Lib.hid ((hfr.cell (by omega) HN2.out 0).trans CT5.out)
    have z6 : w.heap.size + 1 < wr.heap.size := by have := hfr.size; omega
    clear ha hfr cd ct
    have cd := CD6.out; have ct := CT6.out
    by_cases h6 : hi' - lo' ≤ 1
    · have hRh : R = hi' := by
        rw [← h5]; cases f with
        | zero => rfl
        | succ f => unfold bis; rw [if_pos h6]
      have q1 : ¬ (1 : Int) < (hi' : Int) - (lo' : Int) := by omega
      have HRh := Lib.hid hRh
      clear h5 hRh
      go_wp2_with fail
      refine (c_SeekOk HX6.out HE.out (j := q) (t := j) (by omega) (by omega) (by omega) (by omega) HRJ.out HA6.out).mono ?_
      rintro e w7 ⟨rfl, ha7, hf7⟩
      have HX7 := Lib.hid (HX6.out.fr hf7); have HA7 := Lib.hid ha7; have HF7 := Lib.hid (HF6.out.trans hf7)
      have CD7 := Lib.hid ((hf7.cell (by omega) HN1.out 0).trans CD6.out); have CT7 := Lib.hid ((hf7.cell (by omega) HN2.out 0).trans CT6.out)
      have z7 : w.heap.size + 1 < w7.heap.size := by have := hf7.size; omega
      have HG7 := Lib.hid (HFL.out.trans hf7)
      clear ha7 hf7 cd ct
      have cd := CD7.out; have ct := CT7.out
      go_wp2_with fail
      go_ret2
      exact ⟨by rw [HRh.out]; rfl, HA7.out, HF7.out⟩
    · obtain ⟨f', rfl⟩ : ∃ f', f = f' + 1 := ⟨f - 1, by omega⟩
      unfold bis at h5
      rw [if_neg h6] at h5
      obtain ⟨mid, hmid⟩ : ∃ mid, lo' + (hi' - lo') / 2 = mid := ⟨_, rfl⟩
      rw [hmid] at h5
      have q1 : (1 : Int) < (hi' : Int) - (lo' : Int) := by omega
      have q2 : ((hi' : Int) - (lo' : Int)).tdiv 2 = (mid : Int) - (lo' : Int) := by rw [Int.tdiv_eq_ediv_of_nonneg (by omega)]; omega
      have m1 : lo' < mid := by omega
      have m2 : mid < hi' := by omega
      have m3 : mid - lo' ≤ f' + 1 := by omega
      have m4 : hi' - mid ≤ f' + 1 := by omega
      obtain ⟨pm, hpm⟩ : ∃ pm, p (tr im.code M mid) = pm := ⟨_, rfl⟩
      have HPM := Lib.hid hpm
      rw [hpm] at h5
      have e9 : (lo' : Int) + ((mid : Int) - (lo' : Int)) = (mid : Int) := by omega
      have hwd : IntKind.i64.wrap ((mid : Int) - (lo' : Int)) = (mid : Int) - (lo' : Int) := by
        have a1 : (0 : Int) ≤ (mid : Int) - (lo' : Int) := by omega
        have a2 : (mid : Int) - (lo' : Int) ≤ 1000000 := by omega
        simp only [IntKind.wrap, IntKind.bits, IntKind.signed]; simp; omega
      clear hpm hmid
      cases pm with
      | true =>
        rw [if_pos rfl] at h5
        have H5 := Lib.hid h5
        clear h5
        go_wp2_with fail
        refine (c_bholds (q := q) (t := mid) HX6.out HE.out (by omega) (by omega) (by omega) (by omega) eg (HP.out.fr HF6.out HC.out) (fun b hb => ⟨by have := (HC.out b hb).1; have := HF6.out.size; omega, (HC.out b hb).2⟩) (fun i hi' => HR.out i (by omega)) HA6.out CD6.out CT6.out ⟨by omega, HN1.out⟩ ⟨by omega, HN2.out⟩ HPM.out).mono ?_
        rintro e w7 ⟨rfl, ha7, hf7⟩
        have HX7 := Lib.hid (HX6.out.fr hf7); have HA7 := Lib.hid ha7; have HF7 := Lib.hid (HF6.out.trans hf7)
        have CD7 := Lib.hid ((hf7.cell (by omega) HN1.out 0).trans CD6.out); have CT7 := Lib.hid ((hf7.cell (by omega) HN2.out 0).trans CT6.out)
        have z7 : w.heap.size + 1 < w7.heap.size := by have := hf7.size; omega
        have HG7 := Lib.hid (HFL.out.trans hf7)
        clear ha7 hf7 cd ct
        have cd := CD7.out; have ct := CT7.out
        go_wp2_with fail
        exact ⟨⟨lo', mid, mid, f', rfl, rfl, m1, by omega, by omega, m3, H5.out, HA7.out, HG7.out⟩, by simp [intOf]; omega⟩
      | false =>
        rw [if_neg (by decide)] at h5
        have H5 := Lib.hid h5
        clear h5
        go_wp2_with fail
        refine (c_bholds (q := q) (t := mid) HX6.out HE.out (by omega) (by omega) (by omega) (by omega) eg (HP.out.fr HF6.out HC.out) (fun b hb => ⟨by have := (HC.out b hb).1; have := HF6.out.size; omega, (HC.out b hb).2⟩) (fun i hi' => HR.out i (by omega)) HA6.out CD6.out CT6.out ⟨by omega, HN1.out⟩ ⟨by omega, HN2.out⟩ HPM.out).mono ?_
        rintro e w7 ⟨rfl, ha7, hf7⟩
        have HX7 := Lib.hid (HX6.out.fr hf7); have HA7 := Lib.hid ha7; have HF7 := Lib.hid (HF6.out.trans hf7)
        have CD7 := Lib.hid ((hf7.cell (by omega) HN1.out 0).trans CD6.out); have CT7 := Lib.hid ((hf7.cell (by omega) HN2.out 0).trans CT6.out)
        have z7 : w.heap.size + 1 < w7.heap.size := by have := hf7.size; omega
        have HG7 := Lib.hid (HFL.out.trans hf7)
        clear ha7 hf7 cd ct
        have cd := CD7.out; have ct := CT7.out
        go_wp2_with fail
        exact ⟨⟨mid, hi', mid, f', rfl, rfl, m2, by omega, by omega, m4, H5.out, HA7.out, HG7.out⟩, by simp [intOf]; omega⟩
end Go.Proofs.YtiejkfomadaakaaDoor
