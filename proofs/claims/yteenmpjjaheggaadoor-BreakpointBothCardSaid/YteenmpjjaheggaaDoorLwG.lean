/- Several texts in one: LwEa LwE LwF. -/
import Derived.Test.YteenmpjjaheggaaDoorZCpuNew
import Derived.Test.YteenmpjjaheggaaDoorCpX
import Derived.Test.YteenmpjjaheggaaDoorMh
import Derived.Test.YteenmpjjaheggaaDoorZLwD
set_option linter.unusedVariables false
set_option linter.unusedSimpArgs false
/- Machines by value in new memory; cpu.New of a valid image. -/
set_option maxRecDepth 100000
set_option linter.unusedVariables false
set_option linter.unusedSimpArgs false
namespace Bk
open Go Go.RowKit
/-- A machine in new memory (blocks from B on), as it is read. -/
theorem MAt.new {w : World} {B b gm gs : Nat} {t : TypeId} {pre post : List Value} {off : Nat} {M : Mach} (h : MAt w ⟨b, t, pre, post, off, gm, gs, (· < B)⟩ M) (h2 : B ≤ gm) (h3 : B ≤ gs) :
    ∃ vm vs vc vi vo sv, MRd w (fun k => B ≤ k ∧ k < w.heap.size) b off M vm vs vc vi vo sv := by
  obtain ⟨vm, vs, vc, vi, vo, sv, h⟩ := h
  refine ⟨vm, vs, vc, vi, vo, sv, h.rd'.mono (fun k hk => ⟨?_, hk.1⟩) fun k hk => hk.2⟩
  rcases hk.2 with e | e | e
  · dsimp only at e; omega
  · dsimp only at e; omega
  · rcases Nat.lt_or_ge k B with hlt | hge
    · exact absurd (.inr (.inr (.inr hlt))) e.2
    · exact hge
theorem Rd.new {w : World} {g n size : Nat} {cs : Array Value} {t : TypeId} (hg : g = w.heap.size) (h : cs.size = n * size) : Rd (w.alloc (.cells cs t)) (· < (w.alloc (.cells cs t)).heap.size) size (some ⟨g, 0, none⟩) n cs.toList := by
  subst hg
  refine ⟨by simpa using h, fun _ => ⟨_, _, rfl, by simp, fun j u hu => ?_⟩⟩
  have h := (Blk.new w t cs).cell j
  rw [Nat.zero_add, h]
  simpa using hu
theorem Rd.blk_ {w : World} {g n size : Nat} {cs : Array Value} {t : TypeId} {D : Nat → Prop} (hk : Blk w g t cs) (hD : D g) (h : cs.size = n * size) : Rd w D size (some ⟨g, 0, none⟩) n cs.toList :=
  ⟨by simpa using h, fun _ => ⟨_, _, rfl, hD, fun j u hu => by rw [Nat.zero_add, hk.cell]; simpa using hu⟩⟩
end Bk
namespace Go.Proofs.YteenmpjjaheggaaDoor
open Go.RowKit Bk
theorem mc_one {M : Mach} {vm vs vc vi vo : Value} (h1 : vm.oneCell' = true) (h2 : vs.oneCell' = true) (h3 : vc.oneCell' = true) (h4 : vi.oneCell' = true) (h5 : vo.oneCell' = true) : ∀ v ∈ mcells M vm vs vc vi vo, v.oneCell' = true := by
  intro v hv
  simp only [mcells, List.mem_cons, List.mem_append, List.not_mem_nil, or_false] at hv
  rcases hv with rfl | rfl | hv | rfl | rfl | rfl | rfl | rfl | rfl | rfl <;> first | rfl | assumption | exact oneInt _ _ hv
theorem c_NewI {w : World} {A : Option Addr} {n cap : Nat} {im : Img} (hv : im.check.2 = 0) (hC : Rd w (· < w.heap.size) 5 A n (codeCells im.code)) (hw : CodeWf im.code) (hTab : TableAt w)
    {D : Nat → Prop} {v : Value} {l : List Int} (hI : Sl w D 1 v l.length (intCells l)) (hD : ∀ k, D k → k < w.heap.size) (hl : l.length ≤ 4096) :
    Calls Tryd.prog 30 #[.agg #[.slice A n cap, .int .i64 im.mem, .int .i64 im.stacks], v] w fun e w' => ∃ vm vs vi sv, e = .returned (.tuple #[.agg (mcells (newM im.mem.toNat im.stacks.toNat l) vm vs (.slice none 0 0) vi (.slice none 0 0)).toArray, .int .i64 0]) ∧ MOwn w' w.heap.size (newM im.mem.toNat im.stacks.toNat l) vm vs (.slice none 0 0) vi (.slice none 0 0) sv ∧ Below w.heap.size w w' := by
  have hz := (check_fault hv).1
  unfold Img.sized at hz
  simp only [Bool.and_eq_true, decide_eq_true_eq] at hz
  have hva : im.valid = true := by unfold Img.valid; rw [hv]; rfl
  obtain ⟨code, mem, st⟩ := im
  dsimp only at *
  obtain ⟨mm, rfl⟩ : ∃ k : Nat, mem = (k : Int) := ⟨mem.toNat, by omega⟩
  obtain ⟨ss, rfl⟩ : ∃ k : Nat, st = (k : Int) := ⟨st.toNat, by omega⟩
  rw [Int.toNat_natCast, Int.toNat_natCast]
  exact c_NewG hva (by omega) (by omega) hC hw hTab hI hD hl
end Go.Proofs.YteenmpjjaheggaaDoor

/- Clones that lie apart; the walk of awake of layer 24. -/
set_option maxRecDepth 100000
set_option maxHeartbeats 8000000
set_option maxRecDepth 100000
set_option linter.unusedVariables false
namespace Bk
open Go Go.RowKit
/-- The example's machine after so many steps. -/
def awM : Nat → Mach
  | 0 => newM 1 1 []
  | 1 => ⟨1, 1, [0, 5, 0, 0, 0, 0, 0, 0, 0, 0, 0, 0, 0, 0, 0, 0], [0], [[]], [], 0, 0, [], []⟩
  | 2 => ⟨4, 1, [0, 5, 0, 0, 0, 0, 0, 0, 0, 0, 0, 0, 0, 0, 0, 0], [0], [[]], [(1, false)], 0, 0, [], []⟩
  | 3 => ⟨5, 1, [0, -5, 0, 0, 0, 0, 0, 0, 0, 0, 0, 0, 0, 0, 0, 0], [0], [[]], [(1, false)], 0, 0, [], []⟩
  | _ => ⟨2, 1, [0, -5, 0, 0, 0, 0, 0, 0, 0, 0, 0, 0, 0, 0, 0, 0], [0], [[]], [], 0, 0, [], []⟩
def awCode : Prg := [⟨4, 1, 5, 0, 0⟩, ⟨30, 3, 0, 0, 0⟩, ⟨34, 0, 0, 0, 0⟩, ⟨32, 5, 0, 0, 0⟩, ⟨8, 1, 0, 0, 0⟩, ⟨33, 3, 0, 0, 0⟩]
def awImg : Img := ⟨awCode, 1, 1⟩
theorem aw_check : awImg.check.2 = 0 := by decide +kernel
theorem aw_valid : awImg.valid = true := by decide +kernel
theorem aw_step : ∀ j, j < 4 → Bk.step awCode (awM j) = (0, awM (j + 1)) := by
  intro j hj
  match j, hj with
  | 0, _ => decide +kernel
  | 1, _ => decide +kernel
  | 2, _ => decide +kernel
  | 3, _ => decide +kernel
theorem aw_back : ∀ j, j < 4 → ((Bk.step awCode (awM (4 - j)).turn).1, (Bk.step awCode (awM (4 - j)).turn).2.turn) = (0, awM (4 - (j + 1))) := by
  intro j hj
  match j, hj with
  | 0, _ => decide +kernel
  | 1, _ => decide +kernel
  | 2, _ => decide +kernel
  | 3, _ => decide +kernel
theorem aw_end : Bk.step awCode (awM 4) = (4, awM 4) := by decide +kernel
theorem aw_wf : ∀ j, j ≤ 4 → MWf (awM j) := by
  intro j hj
  have key : ∀ M : Mach, (decide (M.r.length = 16) && M.r.all (fun x => decide (-9223372036854775808 ≤ x ∧ x ≤ 9223372036854775807)) && M.m.all (fun x => decide (-9223372036854775808 ≤ x ∧ x ≤ 9223372036854775807)) && decide (M.s = [[]]) && decide (M.inp = []) && decide (M.out = [])) = true → MWf M := by
    intro M h
    simp only [Bool.and_eq_true, decide_eq_true_eq, List.all_eq_true] at h
    obtain ⟨⟨⟨⟨⟨h1, h2⟩, h3⟩, h4⟩, h5⟩, h6⟩ := h
    exact ⟨h1, h2, h3, by rw [h4]; intro l hl; simp at hl; subst hl; simp, by rw [h5]; simp, by rw [h6]; simp⟩
  match j, hj with
  | 0, _ => exact key _ (by decide +kernel)
  | 1, _ => exact key _ (by decide +kernel)
  | 2, _ => exact key _ (by decide +kernel)
  | 3, _ => exact key _ (by decide +kernel)
  | 4, _ => exact key _ (by decide +kernel)
theorem aw_fits : ∀ j, j ≤ 4 → fitsB awImg (awM j) = true := by
  intro j hj
  match j, hj with
  | 0, _ => decide +kernel
  | 1, _ => decide +kernel
  | 2, _ => decide +kernel
  | 3, _ => decide +kernel
  | 4, _ => decide +kernel
theorem aw_s : ∀ j, (awM j).s = [[]]
  | 0 => rfl
  | 1 => rfl
  | 2 => rfl
  | 3 => rfl
  | _ + 4 => rfl
theorem aw_fit {j : Nat} (h : j ≤ 4) : Fit awImg (awM j) := Fit.of (aw_wf j h) (aw_fits j h)
theorem aw_bd {j : Nat} (h : j ≤ 4) : MBd (awM j) := MBd.of aw_check (aw_fit h) (K := 0) (fun l hl => by rw [aw_s] at hl; simp at hl; simp [hl]) (by omega)
theorem aw_codeWf : CodeWf awCode := by
  intro k hk
  match k, hk with
  | 0, _ => exact ⟨by decide, by decide, by decide, by decide, by decide, by decide, by decide, by decide, by decide, by decide⟩
  | 1, _ => exact ⟨by decide, by decide, by decide, by decide, by decide, by decide, by decide, by decide, by decide, by decide⟩
  | 2, _ => exact ⟨by decide, by decide, by decide, by decide, by decide, by decide, by decide, by decide, by decide, by decide⟩
  | 3, _ => exact ⟨by decide, by decide, by decide, by decide, by decide, by decide, by decide, by decide, by decide, by decide⟩
  | 4, _ => exact ⟨by decide, by decide, by decide, by decide, by decide, by decide, by decide, by decide, by decide, by decide⟩
  | 5, _ => exact ⟨by decide, by decide, by decide, by decide, by decide, by decide, by decide, by decide, by decide, by decide⟩
end Bk
namespace Go.Proofs.YteenmpjjaheggaaDoor
open Go.RowKit Bk
theorem c_awake24 (w : World) (hTab : TableAt w) :
    Calls Tryd.prog 6 #[] w fun e w' => e = .returned (.bool true) ∧ Below w.heap.size w w' := by
  have HT := Lib.hid hTab; clear hTab
  go_enter Tryd.func6, Tryd.ntmps6
  go_wp2_with fail
  refine calls_nameY ?_
  intro w1 hw1
  have hB_w1 : Below w.heap.size w w1 := by rw [hw1]; exact (by go_grown)
  have K_0 : Blk w1 w.heap.size 68 (codeCells awCode).toArray := by rw [hw1]; exact (by repeat' (first | assumption | exact Blk.new' (by simp) _ _ | apply Blk.alloc | apply Blk.drew))
  have K_1 : Blk w1 (w.heap.size + 1) 32 #[.slice (some ⟨w.heap.size, 0, none⟩) 6 6, .int .i64 1, .int .i64 1] := by rw [hw1]; exact (by repeat' (first | assumption | exact Blk.new' (by simp) _ _ | apply Blk.alloc | apply Blk.drew))
  have zz : w1.heap.size = w.heap.size + 2 := by rw [hw1]; simp
  clear hw1
  have HK0 := Lib.hid K_0; have HK1 := Lib.hid K_1
  refine (c_NewI (im := awImg) aw_check (Rd.blk_ (cs := (codeCells awCode).toArray) K_0 (by omega) rfl) aw_codeWf (HT.out.next hB_w1) (l := []) Sl.nil (D := fun _ => False) (fun k hk => hk.elim) (by simp)).mono ?_
  rintro e w2 ⟨vm, vs, vi, sv, rfl, hO, hb2⟩
  have hB_w2 := hB_w1.next hb2
  have hO' := hO.mls
  obtain ⟨Am, cm, rfl, _⟩ := hO'.m; obtain ⟨Av, cv, rfl, _⟩ := hO'.s; obtain ⟨Ai, ci, rfl, _⟩ := hO'.l.2.2.1
  clear hO' K_0 K_1
  have HO := Lib.hid hO
  have HL := Lib.hid (mc_len (newM awImg.mem.toNat awImg.stacks.toNat []) (.slice Am (newM awImg.mem.toNat awImg.stacks.toNat []).m.length cm) (.slice Av (newM awImg.mem.toNat awImg.stacks.toNat []).s.length cv) (.slice none 0 0) (.slice Ai (newM awImg.mem.toNat awImg.stacks.toNat []).inp.length ci) (.slice none 0 0) hO.1)
  have hb2' := hb2.size
  have HK0 := Lib.hid (HK0.out.next hb2); have HK1 := Lib.hid (HK1.out.next hb2)
  clear hO hb2
  go_wp2_with (refine wpList_store_row rfl 27 (.tmp 2) (.tmp 16) rfl w2.heap.size _ rfl rfl 27 #[.int .i64 0, .int .i64 0, .int .i64 0, .int .i64 0, .int .i64 0, .int .i64 0, .int .i64 0, .int .i64 0, .int .i64 0, .int .i64 0, .int .i64 0, .int .i64 0, .int .i64 0, .int .i64 0, .int .i64 0, .int .i64 0, .int .i64 0, .int .i64 0, .slice none 0 0, .slice none 0 0, .slice none 0 0, .int .i64 0, .int .i64 0, .slice none 0 0, .slice none 0 0] (heap_alloc_new w2 _) (by rw [info_mach25]; simp [HL.out]) (by simp [HL.out]) (all_oneCell_toArray (mc_one rfl rfl rfl rfl rfl)) ?_; simp only [Act.put, Bk.PU])
  refine calls_nameY ?_
  intro w3 hw3
  rw [World.setRow_alloc_new] at hw3
  have hb3 : Below w2.heap.size w2 w3 := by rw [hw3]; exact (by go_grown)
  have KM : Blk w3 w2.heap.size 27 (mcells (newM awImg.mem.toNat awImg.stacks.toNat []) (.slice Am (newM awImg.mem.toNat awImg.stacks.toNat []).m.length cm) (.slice Av (newM awImg.mem.toNat awImg.stacks.toNat []).s.length cv) (.slice none 0 0) (.slice Ai (newM awImg.mem.toNat awImg.stacks.toNat []).inp.length ci) (.slice none 0 0)).toArray := by rw [hw3]; exact Blk.new _ _ _
  have hB_w3 := hB_w2.next hb3
  obtain ⟨gm, gs, q1, q2, q3, q4, hm3⟩ := HO.out.on w3 hb3 KM (.inr (Nat.le_refl _))
  obtain ⟨P, hP⟩ : ∃ P, P = (⟨w2.heap.size, 27, [], [], 0, gm, gs, (· < w1.heap.size)⟩ : Pl) := ⟨_, rfl⟩
  rw [← hP] at hm3
  have hPO : ∀ k, k < w1.heap.size → ¬ P.O k := fun k hk ho => by rw [hP] at ho; rcases ho with e | e | e <;> dsimp only at e <;> omega
  have hPW : ∀ k, P.O k → k < w3.heap.size := fun k ho => by have := hb3.size; have := KM.lt; rw [hP] at ho; rcases ho with e | e | e <;> dsimp only at e <;> omega
  have HM3 := Lib.hid hm3; have HPO := Lib.hid hPO; have HPW := Lib.hid hPW
  have HK0 := Lib.hid (HK0.out.next hb3); have HK1 := Lib.hid (HK1.out.next hb3)
  have hpb : P.b = w2.heap.size := by rw [hP]
  have hpo : P.off = 0 := by rw [hP]
  have z3 := KM.lt
  clear hw3 KM hm3 hPO hPW HO HL q1 q2 q3 q4
  have hC3 := HM3.out.rd; rw [hpb, hpo] at hC3
  refine (c_Clone hC3 (aw_bd (j := 0) (by omega))).mono ?_
  rintro e w4 ⟨b', gm', gs', rfl, r1, r2, r3, hcl, hb4⟩
  have hB_w4 := hB_w3.next hb4
  obtain ⟨vm1, vs1, vc1, vi1, vo1, sv1, hF⟩ := MAt.new hcl r2 r3
  have HF := Lib.hid hF
  have HM4 := Lib.hid (HM3.out.next hb4)
  have HK0 := Lib.hid (HK0.out.next hb4); have HK1 := Lib.hid (HK1.out.next hb4)
  have HE : Hid (Env w4 P (some ⟨w.heap.size, 0, none⟩) 6 awCode) := Lib.hid ⟨Rd.blk_ (cs := (codeCells awCode).toArray) HK0.out ⟨HK0.out.lt, HPO.out _ (by omega)⟩ rfl, aw_codeWf, HT.out.next hB_w4, HPO.out _ (by have := HT.out.lt; have := hB_w1.size; omega), by decide⟩
  have z4 := hb4.size
  clear hcl hF hC3 hb4
  go_wp2_with fail
  go_loopw [25] (fun v25 wr => ∃ j : Nat, j ≤ 4 ∧ v25 = .int .i64 j ∧ MAt wr P (awM j) ∧ Fr P.O w4 wr) (fun v _ => 4 - (intOf v).toNat)
  case atStart => exact ⟨0, by omega, rfl, HM4.out.mat, Fr.refl _ _⟩
  case round =>
    obtain ⟨j, hj, rfl, hm, hf⟩ := hrel
    have HFr := Lib.hid hf
    have K_1 : Blk wr (w.heap.size + 1) 32 #[.slice (some ⟨w.heap.size, 0, none⟩) 6 6, .int .i64 1, .int .i64 1] := hf.blk HK1.out (HPO.out _ (by omega))
    obtain ⟨z_1, T_1, F_1⟩ := K_1.open_
    have H_1 := Lib.hid K_1
    obtain ⟨vm2, vs2, vc2, vi2, vo2, sv2, hm⟩ := hm
    have HM := Lib.hid hm
    have HE2 := Lib.hid (HE.out.fr hf)
    clear K_1 hf hm
    by_cases hlt : j < 4
    · have j1 : (j : Int) < 4 := by omega
      go_wp2_with fail
      have hs := c_Step HM.out 6 awImg HE2.out aw_check (aw_fit hj) (aw_bd hj)
      rw [hpb, hpo] at hs
      refine (OnM.of hs (aw_step j hlt).symm).mono ?_
      rintro e w6 ⟨rfl, hm6, hf6⟩
      go_wp2_with fail
      exact ⟨⟨j + 1, by omega, by go_num, hm6, HFr.out.trans hf6⟩, by simp [intOf]; omega⟩
    · obtain rfl : j = 4 := by omega
      have e0 : wr.cell? ⟨w2.heap.size, 0, none⟩ = some (.int .i64 2) := by have := HM.out.c0; rw [hpb, hpo] at this; exact this
      have e3 : wr.cell? ⟨w2.heap.size, 3, none⟩ = some (.int .i64 (-5)) := by have := HM.out.cr 1 (by decide); rw [hpb, hpo] at this; exact this
      obtain ⟨Ac, cc, hvc, _⟩ := HM.out.l.2.1
      have e20 : wr.cell? ⟨w2.heap.size, 20, none⟩ = some (.slice Ac 0 cc) := by have := HM.out.c20; rw [hpb, hpo, hvc] at this; exact this
      go_wp2_with fail
      have hs := c_Step HM.out 6 awImg HE2.out aw_check (aw_fit hj) (aw_bd hj)
      rw [hpb, hpo] at hs
      refine (OnM.of hs aw_end.symm).mono ?_
      rintro e w6 ⟨rfl, hm6, hf6⟩
      have HF6 := Lib.hid (HFr.out.trans hf6)
      have HM6 := Lib.hid hm6
      clear e0 e3 e20 z_1 T_1 F_1 H_1 hs hm6 hf6 HE2 HM HFr
      have z6 := HF6.out.size
      go_wp2_with fail
      go_loopw [51] (fun v51 wr => ∃ j : Nat, j ≤ 4 ∧ v51 = .int .i64 j ∧ MAt wr P (awM (4 - j)) ∧ Fr P.O w4 wr) (fun v _ => 4 - (intOf v).toNat)
      case atStart => exact ⟨0, by omega, rfl, HM6.out, HF6.out⟩
      case round =>
        obtain ⟨j, hj, rfl, hm, hf⟩ := hrel
        have HFr := Lib.hid hf
        have K_1 : Blk wr (w.heap.size + 1) 32 #[.slice (some ⟨w.heap.size, 0, none⟩) 6 6, .int .i64 1, .int .i64 1] := hf.blk HK1.out (HPO.out _ (by omega))
        obtain ⟨z_1, T_1, F_1⟩ := K_1.open_
        have H_1 := Lib.hid K_1
        obtain ⟨vm2, vs2, vc2, vi2, vo2, sv2, hm⟩ := hm
        have HM := Lib.hid hm
        have HE2 := Lib.hid (HE.out.fr hf)
        clear K_1 hf hm
        by_cases hlt : j < 4
        · have j1 : (j : Int) < 4 := by omega
          go_wp2_with fail
          have hs := c_Back HM.out 6 awImg HE2.out aw_check (aw_fit (by omega)) (aw_bd (by omega))
          rw [hpb, hpo] at hs
          refine (OnM.of hs (aw_back j hlt).symm).mono ?_
          rintro e w7 ⟨rfl, hm7, hf7⟩
          go_wp2_with fail
          exact ⟨⟨j + 1, by omega, by go_num, hm7, HFr.out.trans hf7⟩, by simp [intOf]; omega⟩
        · obtain rfl : j = 4 := by omega
          go_wp2_with fail
          have hr := HM.out.rd; rw [hpb, hpo] at hr
          refine (c_EqualT hr (HF.out.fr HFr.out (fun ho => by have := HPW.out _ ho; omega) (fun k hk ho => by have := HPW.out _ ho; have := hk.1; omega)) (aw_bd (j := 0) (by omega))).mono ?_
          rintro e w8 ⟨rfl, hb8⟩
          have hB4 : Below w.heap.size w wr := hB_w4.trans (HFr.out.below (B := w.heap.size) (by have := hB_w4.size; omega) (fun k ho => by
            rcases Nat.lt_or_ge k w.heap.size with hk | hk
            · exact absurd ho (HPO.out k (by omega))
            · exact hk))
          have hB8 : Below w.heap.size w w8 := hB4.next hb8
          go_wp2_with fail
          go_ret
          exact ⟨rfl, hB8⟩
end Go.Proofs.YteenmpjjaheggaaDoor

/- Common facts of the laws of layer 24. -/
set_option maxRecDepth 100000
set_option linter.unusedVariables false
set_option linter.unusedSimpArgs false
namespace Go.Proofs.YteenmpjjaheggaaDoor
open Go.RowKit Bk
theorem ErrB_step {code : Prg} {M : Mach} (h0 : (Bk.step code M).1 ≠ 0) : (Bk.step code M).2 = M := by
  rw [step_eq] at h0 ⊢
  have en : ∀ k, ErrB M (enter code M k) := fun k => by unfold enter; exact ErrB.ite (ErrB.self _ _) (ErrB.ite (ErrB.self _ _) (ErrB.ok _ _))
  have le : ∀ k, ErrB M (leave code M k) := fun k => by unfold leave; exact ErrB.ite (ErrB.self _ _) (ErrB.ite (ErrB.self _ _) (ErrB.ok _ _))
  have ju : ∀ k, ErrB M (jump code M k) := fun k => by unfold jump; exact ErrB.ite (ErrB.self _ _) (ErrB.ite (ErrB.ok _ _) (ErrB.ite (ErrB.ok _ _) (ErrB.self _ _)))
  exact ErrB.ite (ErrB.self _ _) (ErrB.ite (ErrB.self _ _) (ErrB.ite (ErrB.self _ _) (ErrB.ite (en _) (ErrB.ite (le _) (ErrB.ite (ju _) (ErrB.ite (ErrB.ok _ _) (ErrB.self _ _))))))) h0
theorem Fit_step {im : Img} (hv : im.check.2 = 0) (hw : CodeWf im.code) {M : Mach} (hf : Fit im M) : Fit im (Bk.step im.code M).2 := by
  by_cases h0 : (Bk.step im.code M).1 = 0
  · exact (step_undo hv hw hf (Prod.ext h0 rfl)).1
  · rw [ErrB_step h0]; exact hf
theorem le_sumLen {s : List (List Int)} {l : List Int} (h : l ∈ s) : l.length ≤ sumLen s := by
  unfold sumLen
  induction s with
  | nil => cases h
  | cons a s ih =>
    rw [List.map_cons, List.sum_cons]
    rcases List.mem_cons.1 h with rfl | h
    · omega
    · have := ih h; omega
theorem ok_facts {im : Img} {M : Mach} (hwf : MWf M) (h : okB im M = true) : im.check.2 = 0 ∧ Fit im M ∧ SB 5000 M ∧ im.code.length ≤ 100 := by
  unfold okB at h
  simp only [Bool.and_eq_true, Bool.not_eq_true'] at h
  obtain ⟨h1, h2, h3⟩ := h
  unfold greatB at h1
  rw [decide_eq_false_iff_not] at h1
  refine ⟨by unfold Img.valid at h2; exact of_decide_eq_true h2, Fit.of hwf h3, fun l hl => ?_, by omega⟩
  have hle := le_sumLen hl
  omega
/-- What surrounds a machine in new memory. -/
theorem Env.old {w w' : World} {P : Pl} {A : Option Addr} {n : Nat} {code : Prg} (hC : Rd w (· < w.heap.size) 5 A n (codeCells code)) (hw : CodeWf code) (hT : TableAt w) (hl : code.length ≤ 65536) (hB : Below w.heap.size w w') (hO : ∀ k, k < w.heap.size → ¬ P.O k) : Env w' P A n code :=
  ⟨(hC.keep fun b o hd => hB.cell (p := ⟨b, o, none⟩) hd).mono fun k hk => ⟨Nat.lt_of_lt_of_le hk hB.size, hO k hk⟩, hw, hT.next hB, hO _ hT.lt, hl⟩
theorem MAt.rd {w : World} {P : Pl} {M : Mach} (h : MAt w P M) : ∃ vm vs vc vi vo sv, MRd w (· < w.heap.size) P.b P.off M vm vs vc vi vo sv := by
  obtain ⟨vm, vs, vc, vi, vo, sv, h⟩ := h; exact ⟨_, _, _, _, _, _, h.rd⟩
end Go.Proofs.YteenmpjjaheggaaDoor
