/- The reference of layer 24: Step, joined: it is the plain step. -/
import Derived.Test.YteocbllbljeajaaDoorZRcY
import Derived.Test.YteocbllbljeajaaDoorZRcYb
import Derived.Test.YteocbllbljeajaaDoorZRcZ
import Derived.Test.YteocbllbljeajaaDoorZRdA
set_option linter.unusedVariables false
set_option linter.unusedSimpArgs false
namespace Go.Proofs.YteocbllbljeajaaDoor
open Go.RowKit Bk
variable {w : World} {D : Nat → Prop} {P : Pl} {M : Mach} {vm vs vc vi vo : Value} {sv : List Value}
theorem RSt.alt {f : FuncId} {args : Array Value} {x y : Int × Mach} {w : World} (h : Calls Tryd.prog f args w (RSt w x)) (h1 : x.1 = y.1) (h2 : x.1 = 0 → x.2 = y.2) : Calls Tryd.prog f args w (RSt w y) :=
  h.mono fun e w' ⟨N, vm, vs, vc, vi, vo, sv, q1, q2, q3, q4⟩ => ⟨N, vm, vs, vc, vi, vo, sv, h1 ▸ q1, q2, q3, fun h0 => (q4 (h1.trans h0)).trans (h2 (h1.trans h0))⟩
theorem c_RStep (hL : MLs w D M vm vs vc vi vo sv) {A : Option Addr} {n : Nat} (cap : Nat) (mem st : Int) {im : Img} (hC : Rd w (· < w.heap.size) 5 A n (codeCells im.code)) (hw : CodeWf im.code) (hT : TableAt w) (hl : im.code.length ≤ 65536) (hB : MBd M) (hv : im.check.2 = 0) (hf : Fit im M) :
    Calls Tryd.prog 10 #[.agg #[.slice A n cap, .int .i64 mem, .int .i64 st], .agg (mcells M vm vs vc vi vo).toArray] w (RSt w (Bk.step im.code M)) := by
  have hp0 := hf.p0; have hp1 := hf.p1
  have all := (check_fault hv).2
  by_cases hout : nextAt M < 0 ∨ (im.code.length : Int) ≤ nextAt M
  · have e : Bk.step im.code M = (4, M) := by rw [step_eq, if_pos hout]
    rw [e]
    unfold nextAt at hout
    rcases hf.d with hd | hd
    · rw [hd] at hout; simp at hout
      exact rt_out hL cap hC hw hT hl mem st hB (.inl ⟨hd, by omega⟩) hp0 (by omega)
    · rw [hd] at hout; simp at hout
      exact rt_out hL cap hC hw hT hl mem st hB (.inr ⟨hd, by omega⟩) hp0 (by omega)
  obtain ⟨k, hk⟩ : ∃ k : Nat, nextAt M = k := ⟨(nextAt M).toNat, by omega⟩
  have hkn : k < im.code.length := by omega
  have hkd : (M.dir = 1 ∧ M.pc = k) ∨ (M.dir = -1 ∧ M.pc = (k : Int) + 1) := by
    have hk' := hk
    unfold nextAt at hk'
    rcases hf.d with e | e
    · rw [e] at hk'; simp at hk'; exact .inl ⟨e, hk'⟩
    · rw [e] at hk'; simp at hk'; exact .inr ⟨e, by omega⟩
  have hff := fault_facts (all k hkn)
  have hop0 := hw.op0' k hkn
  obtain ⟨op, a, b, c, d, hx⟩ : ∃ op a b c d, im.code.getD k default = ⟨op, a, b, c, d⟩ := ⟨_, _, _, _, _, rfl⟩
  have hval : (Ins.mk op a b c d).valid = true := by rw [← hx]; exact hff.1
  have hop35 : op < 35 := by simp only [Ins.valid, validB, Bool.and_eq_true, decide_eq_true_eq] at hval; exact hval.1.1
  rw [hx] at hop0
  dsimp only at hop0
  by_cases h34 : op = 34
  · have e : Bk.step im.code M = (4, M) := by rw [step_eq, if_neg hout, hk, Int.toNat_natCast, hx, if_pos h34]
    rw [e]
    rcases hkd with ⟨hd, hp⟩ | ⟨hd, hp⟩
    · exact rt_inF hL cap hC hw hT hl mem st hB k hkn hd hp op a b c d hx _ (.inl ⟨h34, rfl⟩)
    · exact rt_inB hL cap hC hw hT hl mem st hB k hkn hd hp op a b c d hx _ (.inl ⟨h34, rfl⟩)
  have hst := step_in k hk hkn (by rw [hx]; exact h34) hff.1
  rw [hx] at hst
  dsimp only at hst
  rw [hst]
  by_cases hcall : op = 30 ∨ op = 31
  · rw [if_pos hcall]
    obtain ⟨hp, ho⟩ := hff.2.1 (by rw [hx]; exact hcall)
    rw [hx] at hp ho
    dsimp only at hp ho
    have pin := partner_inv hp
    obtain ⟨s, hs⟩ := Int.eq_ofNat_of_zero_le pin.1
    subst hs
    simp only [Int.toNat_natCast] at ho
    have hsn : s < im.code.length := by omega
    obtain ⟨e, he, hse, hen, heo, hea, hsym, hev⟩ := start_end hp ho
    have hya : (im.code.getD s default).a = e := by
      have h5 := (partner_inv hp).2.2.2.2.1
      simp only [Int.toNat_natCast] at h5
      have : (im.code.getD s default).target.1 = (im.code.getD s default).a := by unfold Ins.target targetP; rw [if_pos (by omega)]
      rw [← this, h5, he]
    unfold enter
    rw [hx]
    dsimp only
    rw [he]
    dsimp only
    rw [if_neg (by simp)]
    by_cases hfull : 100 ≤ M.calls.length
    · rw [if_pos hfull]
      rcases hkd with ⟨hd, hpc⟩ | ⟨hd, hpc⟩
      · rcases hcall with h | h
        · exact rt_inF hL cap hC hw hT hl mem st hB k hkn hd hpc op s b c d hx _ (.inr (.inl ⟨h, hfull, rfl⟩))
        · exact rt_inF hL cap hC hw hT hl mem st hB k hkn hd hpc op s b c d hx _ (.inr (.inr (.inr (.inl ⟨h, hfull, rfl⟩))))
      · rcases hcall with h | h
        · exact rt_inB hL cap hC hw hT hl mem st hB k hkn hd hpc op s b c d hx _ (.inr (.inl ⟨h, hfull, rfl⟩))
        · exact rt_inB hL cap hC hw hT hl mem st hB k hkn hd hpc op s b c d hx _ (.inr (.inr (.inr (.inl ⟨h, hfull, rfl⟩))))
    · rw [if_neg hfull]
      rcases hkd with ⟨hd, hpc⟩ | ⟨hd, hpc⟩
      · rcases hcall with h | h
        · refine RSt.of (rt_inF hL cap hC hw hT hl mem st hB k hkn hd hpc op s b c d hx _ (.inr (.inr (.inl ⟨h, by omega, s, _, rfl, hsn, rfl, rfl⟩)))) ?_
          subst h; simp [hd]
        · refine RSt.of (rt_inF hL cap hC hw hT hl mem st hB k hkn hd hpc op s b c d hx _ (.inr (.inr (.inr (.inr (.inl ⟨h, by omega, s, _, rfl, hsn, rfl, rfl⟩)))))) ?_
          subst h; rw [hya]; simp [hd]
      · rcases hcall with h | h
        · refine RSt.of (rt_inB hL cap hC hw hT hl mem st hB k hkn hd hpc op s b c d hx _ (.inr (.inr (.inl ⟨h, by omega, s, _, rfl, hsn, rfl, rfl⟩)))) ?_
          subst h; rw [hya]; simp [hd]
        · refine RSt.of (rt_inB hL cap hC hw hT hl mem st hB k hkn hd hpc op s b c d hx _ (.inr (.inr (.inr (.inr (.inl ⟨h, by omega, s, _, rfl, hsn, rfl, rfl⟩)))))) ?_
          subst h; simp [hd]
  rw [if_neg hcall]
  by_cases hret : op = 32 ∨ op = 33
  · rw [if_pos hret]
    unfold leave
    rw [hx]
    dsimp only
    by_cases hmis : decide (op = 33) ≠ decide (M.dir > 0)
    · rw [if_pos (.inl hmis)]
      rcases hkd with ⟨hd, hpc⟩ | ⟨hd, hpc⟩
      · rw [hd] at hmis
        rcases hret with h | h
        · exact rt_inF hL cap hC hw hT hl mem st hB k hkn hd hpc op a b c d hx _ (.inr (.inr (.inr (.inr (.inr (.inl ⟨h, rfl⟩))))))
        · subst h; simp at hmis
      · rw [hd] at hmis
        rcases hret with h | h
        · subst h; simp at hmis
        · exact rt_inB hL cap hC hw hT hl mem st hB k hkn hd hpc op a b c d hx _ (.inr (.inr (.inr (.inr (.inr (.inl ⟨h, rfl⟩))))))
    have hmis := Decidable.of_not_not hmis
    obtain ⟨s, hs⟩ : ∃ s : Int, (if op = 33 then a else (k : Int)) = s := ⟨_, rfl⟩
    rw [hs]
    by_cases h0 : M.calls.length = 0
    · rw [if_pos (.inr h0)]
      rcases hkd with ⟨hd, hpc⟩ | ⟨hd, hpc⟩
      · rw [hd] at hmis
        have h : op = 33 := by simpa using hmis
        exact rt_inF hL cap hC hw hT hl mem st hB k hkn hd hpc op a b c d hx _ (.inr (.inr (.inr (.inr (.inr (.inr (.inl ⟨h, .inl h0, rfl⟩)))))))
      · rw [hd] at hmis
        have h : op = 32 := by simp at hmis; omega
        exact rt_inB hL cap hC hw hT hl mem st hB k hkn hd hpc op a b c d hx _ (.inr (.inr (.inr (.inr (.inr (.inr (.inl ⟨h, .inl h0, rfl⟩)))))))
    rw [if_neg (by rintro (g | g); exact g hmis; exact h0 g)]
    obtain ⟨⟨q', tu⟩, hlast⟩ : ∃ x, M.calls.getLastD (0, false) = x := ⟨_, rfl⟩
    have hmem : (q', tu) ∈ M.calls := by
      rw [← back_calls h0, hlast]; simp
    have hq := hf.cs _ hmem
    dsimp only at hq
    obtain ⟨q, rfl⟩ := Int.eq_ofNat_of_zero_le hq.1
    have hqn : q < im.code.length := by omega
    rw [hlast]
    dsimp only
    simp only [Int.toNat_natCast]
    have hqv := (fault_facts (all q hqn)).1
    by_cases hbad : (im.code.getD q default).a ≠ s ∨ (im.code.getD q default).op ≠ if tu then 31 else 30
    · rw [if_pos (by rintro e; rw [e] at hbad; simp at hbad)]
      have hb : ∃ (q0 : Nat) (tu0 : Bool), q0 < im.code.length ∧ M.calls.getLastD (0, false) = ((q0 : Int), tu0) ∧ ((im.code.getD q0 default).a ≠ s ∨ (im.code.getD q0 default).op ≠ if tu0 then 31 else 30) := ⟨q, tu, hqn, hlast, hbad⟩
      rcases hkd with ⟨hd, hpc⟩ | ⟨hd, hpc⟩
      · rw [hd] at hmis
        have h : op = 33 := by simpa using hmis
        rw [if_pos h] at hs
        subst hs
        exact rt_inF hL cap hC hw hT hl mem st hB k hkn hd hpc op a b c d hx _ (.inr (.inr (.inr (.inr (.inr (.inr (.inl ⟨h, .inr hb, rfl⟩)))))))
      · rw [hd] at hmis
        have h : op = 32 := by simp at hmis; omega
        rw [if_neg (by omega)] at hs
        subst hs
        exact rt_inB hL cap hC hw hT hl mem st hB k hkn hd hpc op a b c d hx _ (.inr (.inr (.inr (.inr (.inr (.inr (.inl ⟨h, .inr hb, rfl⟩)))))))
    · have ha : (im.code.getD q default).a = s := Decidable.of_not_not fun g => hbad (.inl g)
      have ho : (im.code.getD q default).op = if tu then 31 else 30 := Decidable.of_not_not fun g => hbad (.inr g)
      have hsh := call_shape hqv (by rw [ho]; cases tu <;> simp)
      rw [ha, ho] at hsh
      rw [if_neg (fun g => g hsh)]
      rcases hkd with ⟨hd, hpc⟩ | ⟨hd, hpc⟩
      · rw [hd] at hmis
        have h : op = 33 := by simpa using hmis
        rw [if_pos h] at hs
        subst hs
        cases tu with
        | false =>
          refine RSt.of (rt_inF hL cap hC hw hT hl mem st hB k hkn hd hpc op a b c d hx _ (.inr (.inr (.inr (.inr (.inr (.inr (.inr (.inl ⟨h, h0, q, hqn, hlast, ha, ho, rfl⟩))))))))) ?_
          simp [behind, hd]
        | true =>
          refine RSt.of (rt_inF hL cap hC hw hT hl mem st hB k hkn hd hpc op a b c d hx _ (.inr (.inr (.inr (.inr (.inr (.inr (.inr (.inr (.inl ⟨h, h0, q, hqn, hlast, ha, ho, rfl⟩)))))))))) ?_
          simp [behind, hd]
      · rw [hd] at hmis
        have h : op = 32 := by simp at hmis; omega
        rw [if_neg (by omega)] at hs
        subst hs
        cases tu with
        | false =>
          refine RSt.of (rt_inB hL cap hC hw hT hl mem st hB k hkn hd hpc op a b c d hx _ (.inr (.inr (.inr (.inr (.inr (.inr (.inr (.inl ⟨h, h0, q, hqn, hlast, ha, ho, rfl⟩))))))))) ?_
          simp [behind, hd]
        | true =>
          refine RSt.of (rt_inB hL cap hC hw hT hl mem st hB k hkn hd hpc op a b c d hx _ (.inr (.inr (.inr (.inr (.inr (.inr (.inr (.inr (.inl ⟨h, h0, q, hqn, hlast, ha, ho, rfl⟩)))))))))) ?_
          simp [behind, hd]
  rw [if_neg hret]
  by_cases hctl : jumpB op = true ∨ landB op = true
  · rw [if_pos hctl]
    have hc := ctl_iff.1 hctl
    have hp := hff.2.2 (by rw [hx]; exact .inr (.inr hc))
    obtain ⟨a1, a2, a3, a4, a5, a6, a7, a8, a9⟩ := partner_inv hp
    obtain ⟨t, ht⟩ := Int.eq_ofNat_of_zero_le a3
    rw [ht] at a4 a5 a7
    simp only [Int.toNat_natCast] at a5 a7
    rw [hx] at a5
    have htl : t < im.code.length := by omega
    have htg : rtgt ⟨op, a, b, c, d⟩ = t := by
      unfold Ins.target targetP at a5
      unfold rtgt
      dsimp only at a5 ⊢
      by_cases h22 : op = 22 ∨ op = 25
      · rw [if_pos h22]; rw [if_pos (by omega)] at a5; exact congrArg Prod.fst a5
      · rw [if_neg h22]; rw [if_neg (by omega), if_pos (by omega)] at a5; exact congrArg Prod.fst a5
    unfold jump
    rw [hp, ht, hx, if_neg (by simp), Int.toNat_natCast]
    dsimp only
    obtain ⟨v, hh⟩ : ∃ v, holds M ⟨op, a, b, c, d⟩ = v := ⟨_, rfl⟩
    obtain ⟨u, hu⟩ : ∃ u, holds M (im.code.getD t default) = u := ⟨_, rfl⟩
    rw [hh, hu]
    rcases hkd with ⟨hd, hpc⟩ | ⟨hd, hpc⟩
    · by_cases hj : jumpB op = true
      · have h3 := of_decide_eq_true hj
        refine rt_ctlF hL cap hC hw hT hl mem st hB k hkn hd hpc op a b c d hx _ hval v hh (.inl ⟨by omega, t, _, u, htg, htl, rfl, a7, hu, ?_, ?_, ?_⟩)
        · rintro rfl; simp [behind, hd]
        · rintro rfl rfl; simp [hj, hd]
        · rintro rfl rfl; simp [behind, hj, hd]
      · have hl' := hctl.resolve_left hj
        have h3 := of_decide_eq_true hl'
        refine rt_ctlF hL cap hC hw hT hl mem st hB k hkn hd hpc op a b c d hx _ hval v hh (.inr ⟨by omega, ?_, ?_⟩)
        · rintro rfl; simp [hj, hd]
        · rintro rfl; simp [behind, hd]
    · by_cases hj : jumpB op = true
      · have h3 := of_decide_eq_true hj
        refine rt_ctlB hL cap hC hw hT hl mem st hB k hkn hd hpc op a b c d hx _ hval v hh (.inr ⟨by omega, ?_, ?_⟩)
        · rintro rfl; simp [hj, hd]
        · rintro rfl; simp [behind, hd]; omega
      · have hl' := hctl.resolve_left hj
        have h3 := of_decide_eq_true hl'
        have hj' : jumpB op = false := by simpa using hj
        refine rt_ctlB hL cap hC hw hT hl mem st hB k hkn hd hpc op a b c d hx _ hval v hh (.inl ⟨by omega, t, _, u, htg, htl, rfl, a7, hu, ?_, ?_, ?_⟩)
        · rintro rfl; simp [behind, hd]; omega
        · rintro rfl rfl; simp [hj', hd]
        · rintro rfl rfl; simp [behind, hj', hd]
  rw [if_neg hctl]
  have hs : straightB op = true := by
    rw [ctl_iff] at hctl
    apply decide_eq_true
    omega
  have hs1 := hf.ok.s1
  rcases hkd with ⟨hd, hpc⟩ | ⟨hd, hpc⟩
  · rw [show (if M.dir < 0 then (Ins.mk op a b c d).inverse else Ins.mk op a b c d) = Ins.mk op a b c d from if_neg (by omega)]
    obtain ⟨ee, N, hex⟩ : ∃ ee N, exec M ⟨op, a, b, c, d⟩ = (ee, N) := ⟨_, _, rfl⟩
    have hkeep := exec_keeps M ⟨op, a, b, c, d⟩
    rw [hex] at hkeep ⊢
    dsimp only at hkeep ⊢
    refine RSt.alt (rt_inF hL cap hC hw hT hl mem st hB k hkn hd hpc op a b c d hx _ (.inr (.inr (.inr (.inr (.inr (.inr (.inr (.inr (.inr ⟨hs, ee, N, hval, hex, hs1, rfl⟩)))))))))) ?_ ?_
    · split
      · assumption
      · rfl
    · rintro h0
      dsimp only at h0
      rw [if_pos h0, hkeep.1, hkeep.2.1, hd, hpc]
  · rw [show (if M.dir < 0 then (Ins.mk op a b c d).inverse else Ins.mk op a b c d) = Ins.mk (inv op) a b c d from if_pos (by omega)]
    have hival : (Ins.mk (inv op) a b c d).valid = true := inv_valid' hval hop0
    obtain ⟨ee, N, hex⟩ : ∃ ee N, exec M ⟨inv op, a, b, c, d⟩ = (ee, N) := ⟨_, _, rfl⟩
    have hkeep := exec_keeps M ⟨inv op, a, b, c, d⟩
    rw [hex] at hkeep ⊢
    dsimp only at hkeep ⊢
    refine RSt.alt (rt_inB hL cap hC hw hT hl mem st hB k hkn hd hpc op a b c d hx _ (.inr (.inr (.inr (.inr (.inr (.inr (.inr (.inr (.inr ⟨hs, _, ee, N, rfl, hival, hex, hs1, rfl⟩)))))))))) ?_ ?_
    · split
      · assumption
      · rfl
    · rintro h0
      dsimp only at h0
      rw [if_pos h0, hkeep.1, hkeep.2.1, hd, hpc]
end Go.Proofs.YteocbllbljeajaaDoor
