/- Several texts in one: DbA DbB DbC DbK. -/
import Derived.Test.YteenmpjjaheggaaDoorVmG
import Derived.Test.YteenmpjjaheggaaDoorZHeld
set_option linter.unusedVariables false
set_option linter.unusedSimpArgs false
/- A debugger in memory: the image's three cells, the machine, the time. -/
set_option maxRecDepth 100000
set_option linter.unusedVariables false
namespace Bk
open Go Go.RowKit
/-- The place with another time behind the machine. -/
def DPl (P : Pl) (t : Int) : Pl := { P with post := [.int .i64 t] }
/-- A debugger stands at a place: its machine t steps behind the first one. -/
def DAt (w : World) (P : Pl) (code : Prg) (M : Mach) (t : Nat) : Prop := MAt w (DPl P t) (tr code M t) ∧ Ran code M t
theorem DAt.next {w w' : World} {P : Pl} {code : Prg} {M : Mach} {t : Nat} (h : DAt w P code M t) (hb : Below w.heap.size w w') : DAt w' P code M t := ⟨h.1.next hb, h.2⟩
theorem DAt.other {w w' : World} {P : Pl} {code : Prg} {M : Mach} {t : Nat} (h : DAt w P code M t) {O : Nat → Prop} (hf : Fr O w w') (h1 : ¬ O P.b) (h2 : ¬ O P.gm) (h3 : ¬ O P.gs) (hx : ∀ k, O k → P.fx k) : DAt w' P code M t := ⟨h.1.other hf h1 h2 h3 hx, h.2⟩
theorem DAt.foreign {w w' : World} {P : Pl} {code : Prg} {M : Mach} {t : Nat} (h : DAt w P code M t) (hb : Below w.heap.size w w') {fx : Nat → Prop} (h1 : ∀ k, fx k → P.fx k ∨ w.heap.size ≤ k) (h2 : ∀ k, fx k → k < w'.heap.size) : DAt w' { P with fx := fx } code M t := ⟨h.1.foreign hb h1 h2, h.2⟩
/-- The number of successful steps out of at most s steps, from j on. -/
def fwd (code : Prg) (M : Mach) : Nat → Nat → Nat
  | 0, _ => 0
  | s + 1, j => if te code M j ≠ 0 then 0 else fwd code M s (j + 1) + 1
theorem fwd_le (code : Prg) (M : Mach) : ∀ s j, fwd code M s j ≤ s
  | 0, _ => Nat.le_refl _
  | s + 1, j => by
    unfold fwd
    split
    · exact Nat.zero_le _
    · have := fwd_le code M s (j + 1); omega
theorem fwd_lt {code : Prg} {M : Mach} : ∀ s j i, i < fwd code M s j → te code M (j + i) = 0
  | 0, _, i, h => absurd h (Nat.not_lt_zero _)
  | s + 1, j, i, h => by
    unfold fwd at h
    split at h
    · exact absurd h (Nat.not_lt_zero _)
    · rename_i hn
      rcases i with _ | i
      · exact Decidable.byContradiction hn
      · have := fwd_lt (code := code) (M := M) s (j + 1) i (by omega)
        rwa [show j + 1 + i = j + (i + 1) by omega] at this
theorem fwd_stop {code : Prg} {M : Mach} : ∀ s j, fwd code M s j = s ∨ te code M (j + fwd code M s j) ≠ 0
  | 0, _ => .inl rfl
  | s + 1, j => by
    unfold fwd
    split
    · rename_i hn; exact .inr hn
    · have := fwd_stop (code := code) (M := M) s (j + 1)
      rw [show j + (fwd code M s (j + 1) + 1) = j + 1 + fwd code M s (j + 1) by omega]
      rcases this with h | h
      · exact .inl (by omega)
      · exact .inr h
theorem fwd_full {code : Prg} {M : Mach} {s j : Nat} (h : ∀ i, i < s → te code M (j + i) = 0) : fwd code M s j = s := by
  rcases fwd_stop (code := code) (M := M) s j with e | e
  · exact e
  · rcases Nat.lt_or_ge (fwd code M s j) s with hl | hg
    · exact absurd (h _ hl) e
    · exact Nat.le_antisymm (fwd_le _ _ _ _) hg
end Bk

/- The walks of the debugger's Step, Back, Time, Machine, Next. -/
set_option maxRecDepth 100000
set_option maxHeartbeats 8000000
set_option maxRecDepth 100000
set_option linter.unusedVariables false
set_option linter.unusedSimpArgs false
namespace Go.Proofs.YteenmpjjaheggaaDoor
open Go.RowKit Bk
theorem info_ins5 : (Tryd.prog.info? 68).map (fun i => i.size) = some 5 := by kernel_rfl
theorem Env.dpl {w : World} {P : Pl} {A : Option Addr} {n : Nat} {code : Prg} (h : Env w P A n code) (t : Int) : Env w (DPl P t) A n code := ⟨h.hC, h.hw, h.hT, h.hG, h.hl⟩
theorem c_DStepNil (w : World) : Calls Tryd.prog 42 #[.pointer none] w fun e w' => e = .returned (.int .i64 1) ∧ Below w.heap.size w w' := by
  go_enter Tryd.func42, Tryd.ntmps42
  go_wp2_with fail
  go_ret
  exact ⟨rfl, by go_grown⟩
theorem c_DBackNil (w : World) : Calls Tryd.prog 47 #[.pointer none] w fun e w' => e = .returned (.int .i64 1) ∧ Below w.heap.size w w' := by
  go_enter Tryd.func47, Tryd.ntmps47
  go_wp2_with fail
  go_ret
  exact ⟨rfl, by go_grown⟩
theorem c_DTimeNil (w : World) : Calls Tryd.prog 16 #[.pointer none] w fun e w' => e = .returned (.int .i64 0) ∧ Below w.heap.size w w' := by
  go_enter Tryd.func16, Tryd.ntmps16
  go_wp2_with fail
  go_ret
  exact ⟨rfl, by go_grown⟩
theorem c_DSeekNil (w : World) (x : Int) : Calls Tryd.prog 19 #[.pointer none, .int .i64 x] w fun e w' => e = .returned (.int .i64 1) ∧ Below w.heap.size w w' := by
  go_enter Tryd.func19, Tryd.ntmps19
  go_wp2_with fail
  go_ret
  exact ⟨rfl, by go_grown⟩
theorem c_DTime {w : World} {P : Pl} {A : Option Addr} {n cap : Nat} {im : Img} {M : Mach} {j : Nat} (hX : VFx w P A n cap im) (hA : DAt w P im.code M j) :
    Calls Tryd.prog 16 #[.pointer (some ⟨P.b, 0, none⟩)] w fun e w' => e = .returned (.int .i64 j) ∧ Below w.heap.size w w' := by
  have hE := True.intro
  have HX := Lib.hid hX; have HE := Lib.hid hE; obtain ⟨⟨vm, vs, vc, vi, vo, sv, h⟩, hr⟩ := hA; obtain ⟨b, tt, pre, post, off, gm, gs, fx⟩ := P; obtain ⟨hpre, hoff, hv⟩ := hX; dsimp only at hpre hoff; subst hpre hoff; have HM := Lib.hid h; have HR := Lib.hid hr
  have e28 : w.cell? ⟨b, 28, none⟩ = some (.int .i64 j) := h.cpost 0
  clear h hr hv hE HE
  go_enter Tryd.func16, Tryd.ntmps16
  go_wp2_with fail
  go_ret
  exact ⟨rfl, by go_grown⟩
theorem c_DBack0 {w : World} {P : Pl} {A : Option Addr} {n cap : Nat} {im : Img} {M : Mach} (hX : VFx w P A n cap im) (hA : DAt w P im.code M 0) :
    Calls Tryd.prog 47 #[.pointer (some ⟨P.b, 0, none⟩)] w fun e w' => e = .returned (.int .i64 4) ∧ Below w.heap.size w w' := by
  have hE := True.intro
  have HX := Lib.hid hX; have HE := Lib.hid hE; obtain ⟨⟨vm, vs, vc, vi, vo, sv, h⟩, hr⟩ := hA; obtain ⟨b, tt, pre, post, off, gm, gs, fx⟩ := P; obtain ⟨hpre, hoff, hv⟩ := hX; dsimp only at hpre hoff; subst hpre hoff; have HM := Lib.hid h; have HR := Lib.hid hr
  have e28 : w.cell? ⟨b, 28, none⟩ = some (.int .i64 0) := h.cpost 0
  clear h hr hv hE HE
  go_enter Tryd.func47, Tryd.ntmps47
  go_wp2_with fail
  go_ret
  exact ⟨rfl, by go_grown⟩
theorem c_DStepOk {w : World} {P : Pl} {A : Option Addr} {n cap : Nat} {im : Img} {M : Mach} {J j : Nat} (hX : VFx w P A n cap im) (hE : VEnv im M J) (hJ : j ≤ J) (hj : j ≤ 4000000000000) (hA : DAt w P im.code M j) (h0 : te im.code M j = 0) :
    Calls Tryd.prog 42 #[.pointer (some ⟨P.b, 0, none⟩)] w fun e w' => e = .returned (.int .i64 0) ∧ DAt w' P im.code M (j + 1) ∧ Fr P.O w w' := by
  have HX := Lib.hid hX; have HE := Lib.hid hE; obtain ⟨⟨vm, vs, vc, vi, vo, sv, h⟩, hr⟩ := hA; obtain ⟨b, tt, pre, post, off, gm, gs, fx⟩ := P; obtain ⟨hpre, hoff, hv⟩ := hX; dsimp only at hpre hoff; subst hpre hoff; have HM := Lib.hid h; have HR := Lib.hid hr
  have e0 : w.cell? ⟨b, 0, none⟩ = some (.slice A n cap) := h.cpre 0 (by simp [DPl]); have e1 : w.cell? ⟨b, 1, none⟩ = some (.int .i64 im.mem) := h.cpre 1 (by simp [DPl]); have e2 : w.cell? ⟨b, 2, none⟩ = some (.int .i64 im.stacks) := h.cpre 2 (by simp [DPl])
  obtain ⟨T, hT⟩ : ∃ T : Int, T = (j : Int) := ⟨_, rfl⟩
  have t1 : 0 ≤ T := by omega
  have t2 : T ≤ 4000000000000 := by omega
  have HT := Lib.hid hT; have H0 := Lib.hid h0
  clear h hr hv hE h0 hT
  go_enter Tryd.func42, Tryd.ntmps42
  go_wp2_with fail
  go_still_tail 7, (by kernel_rfl)
  change wpList _ _ _ _ _ w.drew
  go_wp2_with fail
  have hs := c_Step (HM.out.heap (w' := w.drew) rfl) cap im ((HX.out.env.dpl _).next (by go_grown)) HE.out.ck (HE.out.fit j) (HE.out.bd j hJ)
  refine (OnM.of hs (te_ok H0.out).symm).mono ?_
  rintro e w3 ⟨rfl, hm3, hf3⟩
  obtain ⟨vm', vs', vc', vi', vo', sv', h3⟩ := hm3
  have z3 : b < w3.heap.size := h3.lt
  have g28 : w3.cell? ⟨b, 28, none⟩ = some (.int .i64 T) := HT.out ▸ h3.cpost 0
  have fr : ∀ o, w3.frozen? ⟨b, o, none⟩ = false := fun o => h3.frozen o
  have H3 := Lib.hid h3
  have HF3 : Hid (Fr (Pl.O ⟨b, tt, [.slice A n cap, .int .i64 im.mem, .int .i64 im.stacks], post, 3, gm, gs, fx⟩) w w3) := Lib.hid ((Fr.of (by go_grown)).trans hf3)
  clear h3 hf3 hs e0 e1 e2
  go_wp2_with fail
  go_ret
  refine ⟨rfl, ⟨⟨vm', vs', vc', vi', vo', sv', ?_⟩, HR.out.succ H0.out⟩, ?_⟩
  · have h4 := H3.out.setPost 0 (.int .i64 (T + 1)) (o := 28) rfl
    have q2 : T + 1 = ((j + 1 : Nat) : Int) := by have := HT.out; omega
    rw [q2] at h4
    rw [q2]
    exact h4
  · have HF3 := HF3.out
    repeat' (first | with_reducible (first | assumption | apply Fr.refl | apply Fr.drew | apply Fr.drewN | apply Fr.alloc | apply Fr.set) | exact .inl rfl | exact .inr (.inl rfl) | exact .inr (.inr rfl) | (apply Fr.of; assumption))
theorem c_DStepErr {w : World} {P : Pl} {A : Option Addr} {n cap : Nat} {im : Img} {M : Mach} {J j : Nat} (hX : VFx w P A n cap im) (hE : VEnv im M J) (hJ : j ≤ J) (hA : DAt w P im.code M j) (h0 : te im.code M j ≠ 0) :
    Calls Tryd.prog 42 #[.pointer (some ⟨P.b, 0, none⟩)] w fun e w' => e = .returned (.int .i64 (te im.code M j)) ∧ DAt w' P im.code M j ∧ Fr P.O w w' := by
  have HX := Lib.hid hX; have HE := Lib.hid hE; obtain ⟨⟨vm, vs, vc, vi, vo, sv, h⟩, hr⟩ := hA; obtain ⟨b, tt, pre, post, off, gm, gs, fx⟩ := P; obtain ⟨hpre, hoff, hv⟩ := hX; dsimp only at hpre hoff; subst hpre hoff; have HM := Lib.hid h; have HR := Lib.hid hr
  have e0 : w.cell? ⟨b, 0, none⟩ = some (.slice A n cap) := h.cpre 0 (by simp [DPl]); have e1 : w.cell? ⟨b, 1, none⟩ = some (.int .i64 im.mem) := h.cpre 1 (by simp [DPl]); have e2 : w.cell? ⟨b, 2, none⟩ = some (.int .i64 im.stacks) := h.cpre 2 (by simp [DPl])
  obtain ⟨ee, hee⟩ : ∃ ee, te im.code M j = ee := ⟨_, rfl⟩
  have hst := te_err h0
  rw [hee] at h0 hst ⊢
  have e3 : (ee != 0) = true := by simpa using h0
  have HST := Lib.hid hst
  clear h hr hv hE hee hst
  go_enter Tryd.func42, Tryd.ntmps42
  go_wp2_with fail
  go_still_tail 7, (by kernel_rfl)
  change wpList _ _ _ _ _ w.drew
  go_wp2_with fail
  have hs := c_Step (HM.out.heap (w' := w.drew) rfl) cap im ((HX.out.env.dpl _).next (by go_grown)) HE.out.ck (HE.out.fit j) (HE.out.bd j hJ)
  refine (OnM.of hs HST.out.symm).mono ?_
  rintro e w3 ⟨rfl, hm3, hf3⟩
  have HF3 : Hid (Fr (Pl.O ⟨b, tt, [.slice A n cap, .int .i64 im.mem, .int .i64 im.stacks], post, 3, gm, gs, fx⟩) w w3) := Lib.hid ((Fr.of (by go_grown)).trans hf3)
  have H3 := Lib.hid hm3
  clear hm3 hf3 hs e0 e1 e2
  go_wp2_with fail
  go_ret
  exact ⟨rfl, ⟨H3.out, HR.out⟩, HF3.out⟩
theorem c_DBackOk {w : World} {P : Pl} {A : Option Addr} {n cap : Nat} {im : Img} {M : Mach} {J j : Nat} (hX : VFx w P A n cap im) (hE : VEnv im M J) (hJ : j ≤ J) (hj : j ≤ 4000000000000) (hJ1 : j + 1 ≤ J) (hA : DAt w P im.code M (j + 1)) :
    Calls Tryd.prog 47 #[.pointer (some ⟨P.b, 0, none⟩)] w fun e w' => e = .returned (.int .i64 0) ∧ DAt w' P im.code M j ∧ Fr P.O w w' := by
  have HX := Lib.hid hX; have HE := Lib.hid hE; obtain ⟨⟨vm, vs, vc, vi, vo, sv, h⟩, hr⟩ := hA; obtain ⟨b, tt, pre, post, off, gm, gs, fx⟩ := P; obtain ⟨hpre, hoff, hv⟩ := hX; dsimp only at hpre hoff; subst hpre hoff; have HM := Lib.hid h; have HR := Lib.hid hr
  have e0 : w.cell? ⟨b, 0, none⟩ = some (.slice A n cap) := h.cpre 0 (by simp [DPl]); have e1 : w.cell? ⟨b, 1, none⟩ = some (.int .i64 im.mem) := h.cpre 1 (by simp [DPl]); have e2 : w.cell? ⟨b, 2, none⟩ = some (.int .i64 im.stacks) := h.cpre 2 (by simp [DPl])
  obtain ⟨T, hT⟩ : ∃ T : Int, T = ((j + 1 : Nat) : Int) := ⟨_, rfl⟩
  have e28 : w.cell? ⟨b, 28, none⟩ = some (.int .i64 T) := hT ▸ h.cpost 0
  have t1 : 0 < T := by omega
  have t2 : T ≤ 4000000000001 := by omega
  have t3 : (T == 0) = false := by simp; omega
  have h0 : te im.code M j = 0 := hr j (by omega)
  have HT := Lib.hid hT; have H0 := Lib.hid h0
  clear h hr hv hE h0 hT
  go_enter Tryd.func47, Tryd.ntmps47
  go_wp2_with fail
  go_still_tail 7, (by kernel_rfl)
  change wpList _ _ _ _ _ w.drew
  go_wp2_with fail
  have hs := c_Back (HM.out.heap (w' := w.drew) rfl) cap im ((HX.out.env.dpl _).next (by go_grown)) HE.out.ck (HE.out.fit (j + 1)) (HE.out.bd (j + 1) hJ1)
  refine (OnM.of hs (HE.out.back H0.out).symm).mono ?_
  rintro e w3 ⟨rfl, hm3, hf3⟩
  obtain ⟨vm', vs', vc', vi', vo', sv', h3⟩ := hm3
  have z3 : b < w3.heap.size := h3.lt
  have g28 : w3.cell? ⟨b, 28, none⟩ = some (.int .i64 T) := HT.out ▸ h3.cpost 0
  have fr : ∀ o, w3.frozen? ⟨b, o, none⟩ = false := fun o => h3.frozen o
  have H3 := Lib.hid h3
  have HF3 : Hid (Fr (Pl.O ⟨b, tt, [.slice A n cap, .int .i64 im.mem, .int .i64 im.stacks], post, 3, gm, gs, fx⟩) w w3) := Lib.hid ((Fr.of (by go_grown)).trans hf3)
  clear h3 hf3 hs e0 e1 e2 e28
  go_wp2_with fail
  go_ret
  refine ⟨rfl, ⟨⟨vm', vs', vc', vi', vo', sv', ?_⟩, HR.out.le (by omega)⟩, ?_⟩
  · have h4 := H3.out.setPost 0 (.int .i64 (T - 1)) (o := 28) rfl
    have q2 : T - 1 = (j : Int) := by have := HT.out; omega
    rw [q2] at h4
    rw [q2]
    exact h4
  · have HF3 := HF3.out
    repeat' (first | with_reducible (first | assumption | apply Fr.refl | apply Fr.drew | apply Fr.drewN | apply Fr.alloc | apply Fr.set) | exact .inl rfl | exact .inr (.inl rfl) | exact .inr (.inr rfl) | (apply Fr.of; assumption))
theorem c_DMachine {w : World} {P : Pl} {A : Option Addr} {n cap : Nat} {im : Img} {M : Mach} {J j : Nat} (hX : VFx w P A n cap im) (hE : VEnv im M J) (hJ : j ≤ J) (hA : DAt w P im.code M j) :
    Calls Tryd.prog 21 #[.pointer (some ⟨P.b, 0, none⟩)] w fun e w' => ∃ vm vs vc vi vo sv, e = .returned (.agg (mcells (tr im.code M j) vm vs vc vi vo).toArray) ∧ MOwn w' w.heap.size (tr im.code M j) vm vs vc vi vo sv ∧ Below w.heap.size w w' := by
  have HX := Lib.hid hX; have HE := Lib.hid hE; obtain ⟨⟨vm, vs, vc, vi, vo, sv, h⟩, hr⟩ := hA; obtain ⟨b, tt, pre, post, off, gm, gs, fx⟩ := P; obtain ⟨hpre, hoff, hv⟩ := hX; dsimp only at hpre hoff; subst hpre hoff; have HM := Lib.hid h; have HR := Lib.hid hr
  have hlt : b < w.heap.size := h.lt
  clear h hr hv hE
  go_enter Tryd.func21, Tryd.ntmps21
  go_wp2_with fail
  refine calls_nameY ?_
  intro w1 hw1
  have hB_w1 : Below w.heap.size w w1 := by rw [hw1]; exact (by go_grown)
  have K1 : Blk w1 w.heap.size 27 #[.int .i64 0, .int .i64 0, .int .i64 0, .int .i64 0, .int .i64 0, .int .i64 0, .int .i64 0, .int .i64 0, .int .i64 0, .int .i64 0, .int .i64 0, .int .i64 0, .int .i64 0, .int .i64 0, .int .i64 0, .int .i64 0, .int .i64 0, .int .i64 0, .slice none 0 0, .slice none 0 0, .slice none 0 0, .int .i64 0, .int .i64 0, .slice none 0 0, .slice none 0 0] := by rw [hw1]; exact (by repeat' (first | assumption | exact Blk.new' (by simp) _ _ | apply Blk.alloc | apply Blk.drew))
  have z1 : w1.heap.size = w.heap.size + 1 := by rw [hw1]; simp
  have HK1 := Lib.hid K1
  clear hw1 K1
  refine (c_Clone (HM.out.next hB_w1).rd (HE.out.bd j hJ)).mono ?_
  rintro e w2 ⟨bx, gm', gs', rfl, r1, r2, r3, ⟨vm', vs', vc', vi', vo', sv', hcl⟩, hb2⟩
  have hB_w2 := hB_w1.next hb2
  have HK2 := Lib.hid (HK1.out.next hb2)
  have HO := Lib.hid (hcl.own r2 r3)
  have HRD := Lib.hid hcl.rd
  have hbx : bx < w2.heap.size := hcl.lt
  have hlen := mc_len (tr im.code M j) vm' vs' vc' vi' vo' hcl.rl
  have hone : ∀ v ∈ mcells (tr im.code M j) vm' vs' vc' vi' vo', v.oneCell' = true := by
    obtain ⟨_, _, rfl, _⟩ := hcl.rd.m; obtain ⟨_, _, rfl, _⟩ := hcl.rd.s; obtain ⟨_, _, rfl, _⟩ := hcl.l.2.1; obtain ⟨_, _, rfl, _⟩ := hcl.l.2.2.1; obtain ⟨_, _, rfl, _⟩ := hcl.l.2.2.2
    exact mc_one rfl rfl rfl rfl rfl
  have HONE := Lib.hid hone; have HLEN := Lib.hid hlen
  clear hcl hb2 hone hlen
  go_wp2_with (first | (refine wpList_loadG 27 rfl rfl rfl (load_mach HRD.out) ?_; simp only [Act.put, Bk.PU]) | (refine wpList_store_row rfl 27 (.tmp 2) (.tmp 11) rfl w.heap.size (mcells (tr im.code M j) vm' vs' vc' vi' vo').toArray rfl rfl 27 #[.int .i64 0, .int .i64 0, .int .i64 0, .int .i64 0, .int .i64 0, .int .i64 0, .int .i64 0, .int .i64 0, .int .i64 0, .int .i64 0, .int .i64 0, .int .i64 0, .int .i64 0, .int .i64 0, .int .i64 0, .int .i64 0, .int .i64 0, .int .i64 0, .slice none 0 0, .slice none 0 0, .slice none 0 0, .int .i64 0, .int .i64 0, .slice none 0 0, .slice none 0 0] HK2.out (by rw [info_mach25]; simp [HLEN.out]) (by simp [HLEN.out]) (all_oneCell_toArray HONE.out) ?_; simp only [Act.put, Bk.PU]))
  generalize hw9 : World.setRow _ _ _ = w9
  have hf9 : Fr (· = w.heap.size) w2 w9 := by rw [← hw9]; exact (Fr.setRow _ _ _).mono (fun k hk => hk)
  have hB9 : Below w.heap.size w w9 := ((Fr.of hB_w2).trans (hf9.mono (O' := (· = w.heap.size)) (fun k hk => hk))).below (Nat.le_refl _) (fun k hk => by omega)
  have HKF : Hid (Blk w9 w.heap.size 27 (mcells (tr im.code M j) vm' vs' vc' vi' vo').toArray) := by rw [← hw9]; exact Lib.hid (setRow_heap _ _ _ _ _ _ HK2.out)
  have HO9 : Hid (MOwn w9 w.heap.size (tr im.code M j) vm' vs' vc' vi' vo' sv') := Lib.hid ((HO.out.fr hf9 (fun k hk e => by omega)).mono (by omega))
  clear hw9 HK2 HK1 hf9
  (try simp only [Exit.inBlock, Exit.then])
  refine bodyPost_ret_by (results_cell_row rfl _ _ w.heap.size _ _ _ _ rfl HKF.out Tryd.underlying27 rfl (by rw [info_mach25]; simp [HLEN.out])) rfl ?_
  exact ⟨_, _, _, _, _, _, rfl, HO9.out, hB9⟩
theorem c_DMachineNil (w : World) :
    Calls Tryd.prog 21 #[.pointer none] w fun e w' => e = .returned (.agg #[.int .i64 0, .int .i64 0, .int .i64 0, .int .i64 0, .int .i64 0, .int .i64 0, .int .i64 0, .int .i64 0, .int .i64 0, .int .i64 0, .int .i64 0, .int .i64 0, .int .i64 0, .int .i64 0, .int .i64 0, .int .i64 0, .int .i64 0, .int .i64 0, .slice none 0 0, .slice none 0 0, .slice none 0 0, .int .i64 0, .int .i64 0, .slice none 0 0, .slice none 0 0]) ∧ Below w.heap.size w w' := by
  go_enter Tryd.func21, Tryd.ntmps21
  go_wp2_with (refine wpList_store_row rfl 27 (.tmp 2) (.tmp 5) rfl w.heap.size #[.int .i64 0, .int .i64 0, .int .i64 0, .int .i64 0, .int .i64 0, .int .i64 0, .int .i64 0, .int .i64 0, .int .i64 0, .int .i64 0, .int .i64 0, .int .i64 0, .int .i64 0, .int .i64 0, .int .i64 0, .int .i64 0, .int .i64 0, .int .i64 0, .slice none 0 0, .slice none 0 0, .slice none 0 0, .int .i64 0, .int .i64 0, .slice none 0 0, .slice none 0 0] rfl rfl 27 #[.int .i64 0, .int .i64 0, .int .i64 0, .int .i64 0, .int .i64 0, .int .i64 0, .int .i64 0, .int .i64 0, .int .i64 0, .int .i64 0, .int .i64 0, .int .i64 0, .int .i64 0, .int .i64 0, .int .i64 0, .int .i64 0, .int .i64 0, .int .i64 0, .slice none 0 0, .slice none 0 0, .slice none 0 0, .int .i64 0, .int .i64 0, .slice none 0 0, .slice none 0 0] (heap_alloc_new w _) (by rw [info_mach25]; rfl) rfl (by simp [Value.oneCell']) ?_; simp only [Act.put, Bk.PU])
  generalize hw9 : World.setRow _ _ _ = w9
  have hB9 : Below w.heap.size w w9 := by rw [← hw9]; exact ((Fr.of (by go_grown)).trans ((Fr.setRow _ _ _).mono (O' := (· = w.heap.size)) (fun k hk => hk))).below (Nat.le_refl _) (fun k hk => by omega)
  have HKF : Hid (Blk w9 w.heap.size 27 #[.int .i64 0, .int .i64 0, .int .i64 0, .int .i64 0, .int .i64 0, .int .i64 0, .int .i64 0, .int .i64 0, .int .i64 0, .int .i64 0, .int .i64 0, .int .i64 0, .int .i64 0, .int .i64 0, .int .i64 0, .int .i64 0, .int .i64 0, .int .i64 0, .slice none 0 0, .slice none 0 0, .slice none 0 0, .int .i64 0, .int .i64 0, .slice none 0 0, .slice none 0 0]) := by rw [← hw9]; exact Lib.hid (setRow_heap _ _ _ _ _ _ (heap_alloc_new w _))
  clear hw9
  (try simp only [Exit.inBlock, Exit.then])
  refine bodyPost_ret_by (results_cell_row rfl _ _ w.heap.size _ _ _ _ rfl HKF.out Tryd.underlying27 rfl (by rw [info_mach25]; rfl)) rfl ?_
  exact ⟨rfl, hB9⟩
end Go.Proofs.YteenmpjjaheggaaDoor

/- The walks of the debugger's move, Seek. -/
set_option maxRecDepth 100000
set_option maxHeartbeats 8000000
set_option maxRecDepth 100000
set_option linter.unusedVariables false
set_option linter.unusedSimpArgs false
namespace Bk
/-- Either so many steps succeed, or an earlier one is the first that fails. -/
theorem reach (code : Prg) (M : Mach) : ∀ t, Ran code M t ∨ ∃ k, k < t ∧ Ran code M k ∧ te code M k ≠ 0
  | 0 => .inl (Ran.zero _ _)
  | t + 1 => by
    rcases reach code M t with h | ⟨k, h1, h2, h3⟩
    · by_cases h0 : te code M t = 0
      · exact .inl (h.succ h0)
      · exact .inr ⟨t, Nat.lt_succ_self _, h, h0⟩
    · exact .inr ⟨k, by omega, h2, h3⟩
end Bk
namespace Go.Proofs.YteenmpjjaheggaaDoor
open Go.RowKit Bk
theorem _root_.Bk.DAt.time {w : World} {P : Pl} {A : Option Addr} {n cap : Nat} {im : Img} {M : Mach} {j : Nat} (hX : VFx w P A n cap im) (hA : DAt w P im.code M j) : w.cell? ⟨P.b, 28, none⟩ = some (.int .i64 j) := by
  obtain ⟨⟨vm, vs, vc, vi, vo, sv, h⟩, hr⟩ := hA
  obtain ⟨b, tt, pre, post, off, gm, gs, fx⟩ := P
  obtain ⟨hpre, hoff, hv⟩ := hX
  dsimp only at hpre hoff; subst hpre hoff
  exact h.cpost 0
theorem _root_.Bk.DAt.lt {w : World} {P : Pl} {code : Prg} {M : Mach} {j : Nat} (hA : DAt w P code M j) : P.b < w.heap.size := by
  obtain ⟨⟨vm, vs, vc, vi, vo, sv, h⟩, hr⟩ := hA
  exact h.lt
theorem c_moveFwd {w : World} {P : Pl} {A : Option Addr} {n cap : Nat} {im : Img} {M : Mach} {J j : Nat} (hX : VFx w P A n cap im) (hE : VEnv im M J) (hJ : j ≤ J) (hj : j ≤ 1000000000) {t N : Nat} {ee : Int} (htJ : t ≤ J) (ht : t ≤ 1000000000) (hjt : j + N ≤ t) (hlt : ∀ i, i < N → te im.code M (j + i) = 0) (hst : (j + N = t ∧ ee = 0) ∨ (j + N < t ∧ te im.code M (j + N) = ee ∧ ee ≠ 0)) (hA : DAt w P im.code M j) :
    Calls Tryd.prog 46 #[.pointer (some ⟨P.b, 0, none⟩), .int .i64 (t : Int)] w fun e w' => e = .returned (.int .i64 ee) ∧ DAt w' P im.code M (j + N) ∧ Fr P.O w w' := by
  have hmf : ∀ (fn : Fn) (first cap : Array Value) (w : World), (Instr.makeFunc fn first cap).run Tryd.prog w = .ok (.func fn first cap) w := fun _ _ _ _ => rfl
  have HX := Lib.hid hX; have HE := Lib.hid hE; have HA := Lib.hid hA; have HLT := Lib.hid hlt; have HST := Lib.hid hst
  have e28 := DAt.time hX hA
  have hlb := hA.lt
  have t0 : ¬ (t : Int) < (j : Int) := by omega
  clear hX hE hA hlt hst
  go_enter Tryd.func46, Tryd.ntmps46
  go_wp2_with fail
  clear e28
  go_loopg [] (N + 1) (fun k wr => ∃ i : Nat, i + k = N + 1 ∧ i ≤ N ∧ DAt wr P im.code M (j + i) ∧ Fr P.O w wr)
  case atStart => exact ⟨0, by omega, Nat.zero_le _, HA.out, Fr.refl _ _⟩
  case round =>
    obtain ⟨i, hk, hi, ha, hfr⟩ := hrel
    have HXi := Lib.hid (HX.out.fr hfr)
    have e28 := DAt.time HXi.out ha
    have hlb2 := ha.lt
    have HAi := Lib.hid ha; have HFi := Lib.hid hfr
    clear ha hfr
    obtain ⟨q, hq⟩ : ∃ q, q = j + i := ⟨_, rfl⟩
    rw [← hq] at e28
    by_cases h1 : i < N
    · have q1 : ((q : Int) != (t : Int)) = true := by simp; omega
      have HQ := Lib.hid hq
      have HK := Lib.hid hk
      have h0 := HLT.out i h1
      have H0 := Lib.hid h0
      clear hq h0 hk
      go_wp2_with fail
      refine (c_DStepOk HXi.out HE.out (j := j + i) (by omega) (by omega) HAi.out H0.out).mono ?_
      rintro e w3 ⟨rfl, ha3, hf3⟩
      have HF3 := Lib.hid (HFi.out.trans hf3)
      have HA3 := Lib.hid ha3
      clear ha3 hf3 e28
      go_wp2_with fail
      go_roundg (N - i)
      case measure => have := HK.out; omega
      case rel => exact ⟨i + 1, by have := HK.out; omega, by omega, HA3.out, HF3.out⟩
    · obtain rfl : i = N := by omega
      rcases HST.out with ⟨h2, h3⟩ | ⟨h2, h3, h4⟩
      · have hqt : q = t := by omega
        subst h3
        subst hqt
        clear hq h2
        go_wp2_with fail
        go_ret
        exact ⟨rfl, HAi.out, HFi.out⟩
      · have q1 : ((q : Int) != (t : Int)) = true := by simp; omega
        have h5 : (ee != 0) = true := by simpa using h4
        have H3 := Lib.hid h3; have H4 := Lib.hid h4
        clear hq h3 h4
        go_wp2_with fail
        have hs := c_DStepErr HXi.out HE.out (j := j + i) (by omega) HAi.out (by rw [H3.out]; exact H4.out)
        rw [H3.out] at hs
        refine hs.mono ?_
        rintro e w3 ⟨rfl, ha3, hf3⟩
        have HF3 := Lib.hid (HFi.out.trans hf3)
        have HA3 := Lib.hid ha3
        clear ha3 hf3 e28 hs
        go_wp2_with fail
        go_ret
        exact ⟨rfl, HA3.out, HF3.out⟩
theorem c_moveBack {w : World} {P : Pl} {A : Option Addr} {n cap : Nat} {im : Img} {M : Mach} {J j : Nat} (hX : VFx w P A n cap im) (hE : VEnv im M J) (hJ : j ≤ J) (hj : j ≤ 1000000000) {t : Nat} (htj : t < j) (hA : DAt w P im.code M j) :
    Calls Tryd.prog 46 #[.pointer (some ⟨P.b, 0, none⟩), .int .i64 (t : Int)] w fun e w' => e = .returned (.int .i64 0) ∧ DAt w' P im.code M t ∧ Fr P.O w w' := by
  have hmf : ∀ (fn : Fn) (first cap : Array Value) (w : World), (Instr.makeFunc fn first cap).run Tryd.prog w = .ok (.func fn first cap) w := fun _ _ _ _ => rfl
  have HX := Lib.hid hX; have HE := Lib.hid hE; have HA := Lib.hid hA
  have e28 := DAt.time hX hA
  have hlb := hA.lt
  have t0 : (t : Int) < (j : Int) := by omega
  clear hX hE hA
  go_enter Tryd.func46, Tryd.ntmps46
  go_wp2_with fail
  clear e28
  go_loopg [] (j + 1) (fun k wr => ∃ q : Nat, q + 1 = k ∧ t ≤ q ∧ q ≤ j ∧ DAt wr P im.code M q ∧ Fr P.O w wr)
  case atStart => exact ⟨j, rfl, by omega, Nat.le_refl _, HA.out, Fr.refl _ _⟩
  case round =>
    obtain ⟨q, hk, hi, hqj, ha, hfr⟩ := hrel
    have HXi := Lib.hid (HX.out.fr hfr)
    have e28 := DAt.time HXi.out ha
    have hlb2 := ha.lt
    have HAi := Lib.hid ha; have HFi := Lib.hid hfr
    clear ha hfr
    by_cases h1 : t < q
    · obtain ⟨p, rfl⟩ : ∃ p, q = p + 1 := ⟨q - 1, by omega⟩
      have q1 : (((p + 1 : Nat) : Int) != (t : Int)) = true := by simp; omega
      have HK := Lib.hid hk
      clear hk
      generalize hz : ((p + 1 : Nat) : Int) = z at *
      have HZ := Lib.hid hz
      clear hz
      go_wp2_with fail
      refine (c_DBackOk HXi.out HE.out (j := p) (by omega) (by omega) (by omega) HAi.out).mono ?_
      rintro e w3 ⟨rfl, ha3, hf3⟩
      have HF3 := Lib.hid (HFi.out.trans hf3)
      have HA3 := Lib.hid ha3
      clear ha3 hf3 e28
      go_wp2_with fail
      go_roundg (p + 1)
      case measure => have := HK.out; omega
      case rel => exact ⟨p, by omega, by omega, by omega, HA3.out, HF3.out⟩
    · obtain rfl : q = t := by omega
      clear hk
      go_wp2_with fail
      go_ret
      exact ⟨rfl, HAi.out, HFi.out⟩
theorem c_moveOk {w : World} {P : Pl} {A : Option Addr} {n cap : Nat} {im : Img} {M : Mach} {J j : Nat} (hX : VFx w P A n cap im) (hE : VEnv im M J) (hJ : j ≤ J) (hj : j ≤ 1000000000) {t : Nat} (htJ : t ≤ J) (ht : t ≤ 1000000000) (hr : Ran im.code M t) (hA : DAt w P im.code M j) :
    Calls Tryd.prog 46 #[.pointer (some ⟨P.b, 0, none⟩), .int .i64 (t : Int)] w fun e w' => e = .returned (.int .i64 0) ∧ DAt w' P im.code M t ∧ Fr P.O w w' := by
  rcases Nat.lt_or_ge t j with h | h
  · exact c_moveBack hX hE hJ hj h hA
  · have hs := c_moveFwd hX hE hJ hj (t := t) (N := t - j) (ee := 0) htJ ht (by omega) (fun i hi => hr _ (by omega)) (.inl ⟨by omega, rfl⟩) hA
    rw [show j + (t - j) = t by omega] at hs
    exact hs
theorem c_moveErr {w : World} {P : Pl} {A : Option Addr} {n cap : Nat} {im : Img} {M : Mach} {J j : Nat} (hX : VFx w P A n cap im) (hE : VEnv im M J) (hJ : j ≤ J) (hj : j ≤ 1000000000) {t k : Nat} {ee : Int} (htJ : t ≤ J) (ht : t ≤ 1000000000) (hkt : k < t) (hr : Ran im.code M k) (hk : te im.code M k = ee) (he : ee ≠ 0) (hA : DAt w P im.code M j) :
    Calls Tryd.prog 46 #[.pointer (some ⟨P.b, 0, none⟩), .int .i64 (t : Int)] w fun e w' => e = .returned (.int .i64 ee) ∧ DAt w' P im.code M k ∧ Fr P.O w w' := by
  have hjk : j ≤ k := by
    rcases Nat.lt_or_ge k j with h | h
    · exact absurd (hA.2 k h) (by rw [hk]; exact he)
    · exact h
  have hs := c_moveFwd hX hE hJ hj (t := t) (N := k - j) (ee := ee) htJ ht (by omega) (fun i hi => hr _ (by omega)) (.inr ⟨by omega, by rw [show j + (k - j) = k by omega]; exact hk, he⟩) hA
  rw [show j + (k - j) = k by omega] at hs
  exact hs
theorem c_SeekNeg {w : World} {b : Nat} (t : Int) (ht : t < 0) :
    Calls Tryd.prog 19 #[.pointer (some ⟨b, 0, none⟩), .int .i64 t] w fun e w' => e = .returned (.int .i64 2) ∧ Below w.heap.size w w' := by
  go_enter Tryd.func19, Tryd.ntmps19
  go_wp2_with fail
  go_ret
  exact ⟨rfl, by go_grown⟩
theorem c_SeekOk {w : World} {P : Pl} {A : Option Addr} {n cap : Nat} {im : Img} {M : Mach} {J j : Nat} (hX : VFx w P A n cap im) (hE : VEnv im M J) (hJ : j ≤ J) (hj : j ≤ 1000000000) {t : Nat} (htJ : t ≤ J) (ht : t ≤ 1000000000) (hr : Ran im.code M t) (hA : DAt w P im.code M j) :
    Calls Tryd.prog 19 #[.pointer (some ⟨P.b, 0, none⟩), .int .i64 (t : Int)] w fun e w' => e = .returned (.int .i64 0) ∧ DAt w' P im.code M t ∧ Fr P.O w w' := by
  have HX := Lib.hid hX; have HE := Lib.hid hE; have HA := Lib.hid hA; have HR := Lib.hid hr
  have e28 := DAt.time hX hA
  have hlb := hA.lt
  have t0 : ¬ (t : Int) < 0 := by omega
  clear hX hE hA hr
  go_enter Tryd.func19, Tryd.ntmps19
  go_wp2_with fail
  refine (c_moveOk HX.out HE.out hJ hj htJ ht HR.out HA.out).mono ?_
  rintro e w2 ⟨rfl, hA2, hf2⟩
  have HA2 := Lib.hid hA2; have HF2 := Lib.hid hf2
  clear hA2 hf2 e28
  go_wp2_with fail
  go_ret
  exact ⟨rfl, HA2.out, HF2.out⟩
theorem c_SeekErr {w : World} {P : Pl} {A : Option Addr} {n cap : Nat} {im : Img} {M : Mach} {J j : Nat} (hX : VFx w P A n cap im) (hE : VEnv im M J) (hJ : j ≤ J) (hj : j ≤ 1000000000) {t k : Nat} {ee : Int} (htJ : t ≤ J) (ht : t ≤ 1000000000) (hkt : k < t) (hr : Ran im.code M k) (hk : te im.code M k = ee) (he : ee ≠ 0) (hA : DAt w P im.code M j) :
    Calls Tryd.prog 19 #[.pointer (some ⟨P.b, 0, none⟩), .int .i64 (t : Int)] w fun e w' => e = .returned (.int .i64 ee) ∧ DAt w' P im.code M j ∧ Fr P.O w w' := by
  have HX := Lib.hid hX; have HE := Lib.hid hE; have HA := Lib.hid hA; have HR := Lib.hid hr; have HK := Lib.hid hk
  have e28 := DAt.time hX hA
  have HRJ := Lib.hid hA.2
  have hlb := hA.lt
  have t0 : ¬ (t : Int) < 0 := by omega
  have e0 : (ee != 0) = true := by simpa using he
  have HEE := Lib.hid he
  clear hX hE hA hr hk he
  go_enter Tryd.func19, Tryd.ntmps19
  go_wp2_with fail
  refine (c_moveErr HX.out HE.out hJ hj htJ ht hkt HR.out HK.out HEE.out HA.out).mono ?_
  rintro e w2 ⟨rfl, hA2, hf2⟩
  have HA2 := Lib.hid hA2; have HF2 := Lib.hid hf2
  clear hA2 hf2 e28
  go_wp2_with fail
  refine (c_moveOk (HX.out.fr HF2.out) HE.out (j := k) (t := j) (by omega) (by omega) (by omega) (by omega) HRJ.out HA2.out).mono ?_
  rintro e w3 ⟨rfl, hA3, hf3⟩
  have HA3 := Lib.hid hA3; have HF3 := Lib.hid (HF2.out.trans hf3)
  clear hA3 hf3
  go_wp2_with fail
  go_ret
  exact ⟨rfl, HA3.out, HF3.out⟩
end Go.Proofs.YteenmpjjaheggaaDoor

/- Seek, whatever comes. -/
set_option maxRecDepth 100000
set_option linter.unusedVariables false
namespace Go.Proofs.YteenmpjjaheggaaDoor
open Go.RowKit Bk
theorem c_SeekAny {w : World} {P : Pl} {A : Option Addr} {n cap : Nat} {im : Img} {M : Mach} {J j : Nat} (hX : VFx w P A n cap im) (hE : VEnv im M J) (hJ : j ≤ J) (hj : j ≤ 1000000000) {t : Nat} (htJ : t ≤ J) (ht : t ≤ 1000000000) (hA : DAt w P im.code M j) :
    Calls Tryd.prog 19 #[.pointer (some ⟨P.b, 0, none⟩), .int .i64 (t : Int)] w fun e w' => ∃ ee j', e = .returned (.int .i64 ee) ∧ ((ee = 0 ∧ j' = t) ∨ (ee ≠ 0 ∧ j' = j)) ∧ DAt w' P im.code M j' ∧ Fr P.O w w' := by
  rcases reach im.code M t with h | ⟨k, h1, h2, h3⟩
  · exact (c_SeekOk hX hE hJ hj htJ ht h hA).mono fun e w' h => ⟨0, t, h.1, .inl ⟨rfl, rfl⟩, h.2⟩
  · exact (c_SeekErr hX hE hJ hj htJ ht h1 h2 rfl h3 hA).mono fun e w' h => ⟨_, j, h.1, .inr ⟨h3, rfl⟩, h.2⟩
end Go.Proofs.YteenmpjjaheggaaDoor
