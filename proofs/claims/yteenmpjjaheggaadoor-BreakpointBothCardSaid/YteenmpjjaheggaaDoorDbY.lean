/- The walk of debugger.New. -/
import Derived.Test.YteenmpjjaheggaaDoorDbX
import Derived.Test.YteenmpjjaheggaaDoorZHeld
import Derived.Test.YteenmpjjaheggaaDoorZCloneC
import Derived.Test.YteenmpjjaheggaaDoorCpV
set_option linter.unusedVariables false
set_option linter.unusedSimpArgs false
set_option maxRecDepth 100000
set_option maxHeartbeats 8000000
set_option maxRecDepth 100000
namespace Go.Proofs.YteenmpjjaheggaaDoor
open Go.RowKit Bk
theorem built_db {M : Mach} {vm vs vc vi vo a0 a1 a2 : Value} (hr : M.r.length = 16) (h0 : vm.oneCell' = true) (h1 : vs.oneCell' = true) (h2 : vc.oneCell' = true) (h3 : vi.oneCell' = true) (h4 : vo.oneCell' = true)  :
    Tryd.prog.built 83 [(0, .agg #[a0, a1, a2]), (1, .agg (mcells M vm vs vc vi vo).toArray)] = some (([a0, a1, a2] : List Value) ++ mcells M vm vs vc vi vo ++ ([.int .i64 0] : List Value)).toArray := by
  obtain ⟨pc, dir, r, m, s, calls, fp, sb, inp, out⟩ := M
  obtain ⟨r0, r1, r2, r3, r4, r5, r6, r7, r8, r9, r10, r11, r12, r13, r14, r15, e⟩ := list16 hr
  dsimp only at e
  subst e
  kernel_rfl
theorem c_DNewBad (A : Option Addr) (n cap : Nat) (im : Img) (M : Mach) (vm vs vc vi vo : Value) (sv : List Value) (w : World) (hC : Rd w (· < w.heap.size) 5 A n (codeCells im.code)) (hw : CodeWf im.code) (hL : MLs w (· < w.heap.size) M vm vs vc vi vo sv) (hms : M.s.length ≤ 1000000) (hcl : M.calls.length ≤ 20000000000000) (hTab : TableAt w) {e : Int} (hck : im.check.2 = e) (he : e ≠ 0) :
    Calls Tryd.prog 15 #[.agg #[.slice A n cap, .int .i64 im.mem, .int .i64 im.stacks], .agg (mcells M vm vs vc vi vo).toArray] w fun e' w' => e' = .returned (.tuple #[.pointer none, .int .i64 e]) ∧ Below w.heap.size w w' := by
  have HC := Lib.hid hC; have HT := Lib.hid hTab
  obtain ⟨i, hi⟩ : ∃ i, im.check.1 = i := ⟨_, rfl⟩
  have HCK := Lib.hid (Prod.ext hi hck : im.check = (i, e))
  have e1 : (e != 0) = true := by simpa using he
  clear hC hL hTab hi hck
  go_enter Tryd.func15, Tryd.ntmps15
  go_wp2_with fail
  refine (c_Check' A n cap im HCK.out _ (HC.out.next (by go_grown)) hw (HT.out.next (by go_grown))).mono ?_
  rintro e' w2 ⟨rfl, hb2⟩
  have hB_w2 : Below w.heap.size w w2 := Below.next (by go_grown) hb2
  clear hb2
  go_wp2_with fail
  go_ret2
  exact ⟨rfl, hB_w2⟩
theorem c_DNewMis (A : Option Addr) (n cap : Nat) (im : Img) (M : Mach) (vm vs vc vi vo : Value) (sv : List Value) (w : World) (hC : Rd w (· < w.heap.size) 5 A n (codeCells im.code)) (hw : CodeWf im.code) (hL : MLs w (· < w.heap.size) M vm vs vc vi vo sv) (hms : M.s.length ≤ 1000000) (hcl : M.calls.length ≤ 20000000000000) (hTab : TableAt w) (hck : im.check.2 = 0) (hf : fitsB im M = false) :
    Calls Tryd.prog 15 #[.agg #[.slice A n cap, .int .i64 im.mem, .int .i64 im.stacks], .agg (mcells M vm vs vc vi vo).toArray] w fun e' w' => e' = .returned (.tuple #[.pointer none, .int .i64 20]) ∧ Below w.heap.size w w' := by
  have hnn : n = im.code.length := by have := hC.1; rw [codeCells_length] at this; omega
  have hz := (check_fault hck).1
  unfold Img.sized at hz
  simp only [Bool.and_eq_true, decide_eq_true_eq] at hz
  have hn6 : n ≤ 65536 := by omega
  have HC := Lib.hid hC; have HT := Lib.hid hTab; have HL := Lib.hid hL
  have HNN := Lib.hid hnn
  obtain ⟨i, hi⟩ : ∃ i, im.check.1 = i := ⟨_, rfl⟩
  have HCK := Lib.hid (Prod.ext hi hck : im.check = (i, 0))
  have HFV : Hid ((im.valid && fitsB im M) = false) := Lib.hid (by rw [hf, Bool.and_false])
  clear hC hL hTab hi hck hf hz hnn
  go_enter Tryd.func15, Tryd.ntmps15
  go_wp2_with fail
  refine calls_nameY ?_
  intro w1 hw1
  have hB_w1 : Below w.heap.size w w1 := by rw [hw1]; exact (by go_grown)
  have K_1 : Blk w1 w.heap.size 32 #[.slice A n cap, .int .i64 im.mem, .int .i64 im.stacks] := by rw [hw1]; exact (by repeat' (first | assumption | exact Blk.new' (by simp) _ _ | apply Blk.alloc | apply Blk.drew))
  have KM : Blk w1 (w.heap.size + 1) 27 (mcells M vm vs vc vi vo).toArray := by rw [hw1]; exact (by repeat' (first | assumption | exact Blk.new' (by simp) _ _ | apply Blk.alloc | apply Blk.drew))
  have HM := Lib.hid ((HL.out.next hB_w1).at_ KM)
  clear hw1 KM
  obtain ⟨z_1, T_1, F_1⟩ := K_1.open_; have H_1 := Lib.hid K_1; clear K_1
  refine (c_Check' A n cap im HCK.out _ (HC.out.next hB_w1) hw (HT.out.next hB_w1)).mono ?_
  rintro e' w2 ⟨rfl, hb2⟩
  have hB_w2 := hB_w1.next hb2
  replace HM := Lib.hid (HM.out.next hb2)
  have K_1 := H_1.out.next hb2; (try clear H_1); (try clear T_1); (try clear z_1); (try clear F_1); obtain ⟨z_1, T_1, F_1⟩ := K_1.open_; have H_1 := Lib.hid K_1; clear K_1
  clear hb2
  go_wp2_with fail
  refine (c_FitsG HM.out A n cap im HNN.out hn6 hms hcl (HC.out.next hB_w2) hw (HT.out.next hB_w2) HFV.out).mono ?_
  rintro e' w3 ⟨rfl, hb3⟩
  have hB_w3 := hB_w2.next hb3
  clear hb3
  go_wp2_with fail
  go_ret2
  exact ⟨rfl, hB_w3⟩
/-- A new debugger in new memory. -/
def NewDb (w : World) (im : Img) (M : Mach) (e : Ending) (w' : World) : Prop :=
  ∃ P A n cap, e = .returned (.tuple #[.pointer (some ⟨P.b, 0, none⟩), .int .i64 0]) ∧ VFx w' P A n cap im ∧ DAt w' P im.code M 0 ∧ (∀ k, P.O k → w.heap.size ≤ k ∧ k < w'.heap.size) ∧ P.fx = (· < w.heap.size) ∧ Rd w' (fun k => w.heap.size ≤ k ∧ k < w'.heap.size ∧ ¬ P.O k) 5 A n (codeCells im.code) ∧ Below w.heap.size w w'
theorem c_DNewOk (A : Option Addr) (n cap : Nat) (im : Img) (M : Mach) (vm vs vc vi vo : Value) (sv : List Value) (w : World) (hC : Rd w (· < w.heap.size) 5 A n (codeCells im.code)) (hw : CodeWf im.code) (hL : MLs w (· < w.heap.size) M vm vs vc vi vo sv) (hms : M.s.length ≤ 1000000) (hcl : M.calls.length ≤ 20000000000000) (hTab : TableAt w) (hck : im.check.2 = 0) (hf : Fit im M) (hbd : MBd M) :
    Calls Tryd.prog 15 #[.agg #[.slice A n cap, .int .i64 im.mem, .int .i64 im.stacks], .agg (mcells M vm vs vc vi vo).toArray] w (NewDb w im M) := by
  have hnn : n = im.code.length := by have := hC.1; rw [codeCells_length] at this; omega
  have hz := (check_fault hck).1
  unfold Img.sized at hz
  simp only [Bool.and_eq_true, decide_eq_true_eq] at hz
  have hn6 : n ≤ 65536 := by omega
  have HC := Lib.hid hC; have HT := Lib.hid hTab; have HL := Lib.hid hL; have HBD := Lib.hid hbd
  have HNN := Lib.hid hnn
  obtain ⟨i, hi⟩ : ∃ i, im.check.1 = i := ⟨_, rfl⟩
  have HCK := Lib.hid (Prod.ext hi hck : im.check = (i, 0))
  have HFV : Hid ((im.valid && fitsB im M) = true) := Lib.hid (by rw [fitsB_of hf, Bool.and_true]; unfold Img.valid; rw [hck]; rfl)
  clear hC hL hTab hi hck hf hz hnn hbd
  go_enter Tryd.func15, Tryd.ntmps15
  go_wp2_with fail
  refine calls_nameY ?_
  intro w1 hw1
  have hB_w1 : Below w.heap.size w w1 := by rw [hw1]; exact (by go_grown)
  have K_1 : Blk w1 w.heap.size 32 #[.slice A n cap, .int .i64 im.mem, .int .i64 im.stacks] := by rw [hw1]; exact (by repeat' (first | assumption | exact Blk.new' (by simp) _ _ | apply Blk.alloc | apply Blk.drew))
  have KM : Blk w1 (w.heap.size + 1) 27 (mcells M vm vs vc vi vo).toArray := by rw [hw1]; exact (by repeat' (first | assumption | exact Blk.new' (by simp) _ _ | apply Blk.alloc | apply Blk.drew))
  have HM := Lib.hid ((HL.out.next hB_w1).at_ KM)
  have zz1 : w1.heap.size = w.heap.size + 2 := by rw [hw1]; simp
  clear hw1 KM
  obtain ⟨z_1, T_1, F_1⟩ := K_1.open_; have H_1 := Lib.hid K_1; clear K_1
  refine (c_Check' A n cap im HCK.out _ (HC.out.next hB_w1) hw (HT.out.next hB_w1)).mono ?_
  rintro e' w2 ⟨rfl, hb2⟩
  have hB_w2 := hB_w1.next hb2
  replace HM := Lib.hid (HM.out.next hb2)
  have K_1 := H_1.out.next hb2; (try clear H_1); (try clear T_1); (try clear z_1); (try clear F_1); obtain ⟨z_1, T_1, F_1⟩ := K_1.open_; have H_1 := Lib.hid K_1; clear K_1
  have zz2 := hb2.size
  clear hb2
  go_wp2_with fail
  refine (c_FitsG HM.out A n cap im HNN.out hn6 hms hcl (HC.out.next hB_w2) hw (HT.out.next hB_w2) HFV.out).mono ?_
  rintro e' w3 ⟨rfl, hb3⟩
  have hB_w3 := hB_w2.next hb3
  replace HM := Lib.hid (HM.out.next hb3)
  have K_1 := H_1.out.next hb3; (try clear H_1); (try clear T_1); (try clear z_1); (try clear F_1); obtain ⟨z_1, T_1, F_1⟩ := K_1.open_; have H_1 := Lib.hid K_1; clear K_1
  have zz3 := hb3.size
  clear hb3
  go_wp2_with fail
  refine (c_CloneC A n cap im.code _ hn6 (HC.out.next hB_w3)).mono ?_
  rintro e' w4 ⟨v4, rfl, ho4, hb4⟩
  have hB_w4 := hB_w3.next hb4
  replace HM := Lib.hid (HM.out.next hb4)
  have K_1 := H_1.out.next hb4; (try clear H_1); (try clear T_1); (try clear z_1); (try clear F_1); obtain ⟨z_1, T_1, F_1⟩ := K_1.open_; have H_1 := Lib.hid K_1; clear K_1
  obtain ⟨A4, cap4, rfl, hn4, hA4, hR4⟩ := Sl.of_own ho4
  have HR4 := Lib.hid hR4
  have z34 := hb4.size
  clear hb4 ho4 hR4
  go_wp2_with fail
  refine wp_nameY ?_
  intro w5 hw5
  have hf5 : Fr (· = w.heap.size) w4 w5 := by rw [hw5]; exact Fr.set (O := (· = w.heap.size)) (p := ⟨w.heap.size, 0, none⟩) (Fr.refl _ _) rfl _
  have z5 : w5.heap.size = w4.heap.size := by rw [hw5]; simp [World.setCell]
  have K_5 : Blk w5 w.heap.size 32 #[.slice A4 n cap4, .int .i64 im.mem, .int .i64 im.stacks] := by
    rw [hw5]; exact H_1.out.set_ 0 (.slice A4 n cap4)
  have HM5 := Lib.hid (HM.out.fr hf5 (by omega) (fun k hk e => by omega))
  have hB_w5 : Below w.heap.size w w5 := ((Fr.of hB_w4).trans (hf5.mono (O' := (· = w.heap.size)) (fun k hk => hk))).below (Nat.le_refl _) (fun k hk => by omega)
  have HR5 : Hid (Rd w5 (fun b => w3.heap.size ≤ b ∧ b < w4.heap.size) 5 A4 n (codeCells im.code)) := Lib.hid (HR4.out.keep (fun b o hd => hf5.cell hd.2 (by have := hd.1; omega) o))
  clear hw5 hf5 z_1 T_1 F_1 H_1 HM HR4
  have T5 := K_5.cell
  have HK5 := Lib.hid K_5
  clear K_5
  refine wp_region_held_drew (S := fun W => Below w5.heap.size w5 W) (by kernel_rfl) ((Below.refl _ _).drew) (fun hH => ?_)
  refine wpAnyH_take (i := 0) (v := .agg #[.slice A4 n cap4, .int .i64 im.mem, .int .i64 im.stacks]) rfl (by kernel_rfl) (by kernel_rfl) (by kernel_rfl) (fun _ _ _ h => h) (Or.inl ⟨by rfl, ?hy⟩) (by assumption) ?_
  case hy => (intro w9 hS9; have T9 := (HK5.out.next hS9).cell; clear hS9; go_simp; try with_reducible rfl)
  (try simp only [Bk.PU, Act.put])
  refine wpAnyH_ready (rs := [1]) (by kernel_rfl) (by simp) ?_
  refine AllReadyH.cons rfl (fun K hK => ?_) (AllReadyH.nil)
  go_simp
  refine (c_Clone (HM5.out.next hH) HBD.out).mono ?_
  rintro e' w6 ⟨bx, gm', gs', rfl, r1, r2, r3, ⟨vm', vs', vc', vi', vo', sv', hcl⟩, hb6⟩
  have hH6 := hH.next hb6
  have HO := Lib.hid (hcl.own r2 r3)
  have HRD := Lib.hid hcl.rd
  have hbx : bx < w6.heap.size := hcl.lt
  obtain ⟨f1, f2, f3, f4, f5⟩ : vm'.oneCell' = true ∧ vs'.oneCell' = true ∧ vc'.oneCell' = true ∧ vi'.oneCell' = true ∧ vo'.oneCell' = true := by
    obtain ⟨_, _, rfl, _⟩ := hcl.rd.m; obtain ⟨_, _, rfl, _⟩ := hcl.rd.s; obtain ⟨_, _, rfl, _⟩ := hcl.l.2.1; obtain ⟨_, _, rfl, _⟩ := hcl.l.2.2.1; obtain ⟨_, _, rfl, _⟩ := hcl.l.2.2.2
    exact ⟨rfl, rfl, rfl, rfl, rfl⟩
  have hbv := built_db (a0 := .slice A4 n cap4) (a1 := .int .i64 im.mem) (a2 := .int .i64 im.stacks) hcl.rl f1 f2 f3 f4 f5
  have HBV := Lib.hid hbv
  clear hcl hb6 f1 f2 f3 f4 f5 hbv
  refine hK.out _ _ hH6 (fun _ => ?_)
  clear hK hH
  (try simp only [Bk.PU, Act.put])
  refine wpAnyH_ready (rs := [2]) (by kernel_rfl) (by simp) ?_
  refine AllReadyH.cons rfl (fun K hK => ?_) (AllReadyH.nil)
  go_simp
  refine hK.out _ _ hH6 (fun _ => ?_)
  clear hK
  (try simp only [Bk.PU, Act.put])
  refine wpAnyH_ready (rs := [3]) (by kernel_rfl) (by simp) ?_
  refine AllReadyH.cons rfl (fun K hK => ?_) (AllReadyH.nil)
  rw [if_pos (by rfl)]
  refine wp_loadR 27 rfl rfl (load_mach HRD.out) ?_
  refine hK.out _ _ hH6 (fun _ => ?_)
  clear hK
  (try simp only [Bk.PU, Act.put])
  refine wpAnyH_ready (rs := [4]) (by kernel_rfl) (by simp) ?_
  refine AllReadyH.cons rfl (fun K hK => ?_) (AllReadyH.nil)
  rw [if_pos (by rfl)]
  refine wp_buildR 83 rfl rfl HBV.out ?_
  refine hK.out _ _ hH6 (fun _ => ?_)
  clear hK
  (try simp only [Bk.PU, Act.put])
  obtain ⟨cells, hcells⟩ : ∃ cells, cells = (([.slice A4 n cap4, .int .i64 im.mem, .int .i64 im.stacks] : List Value) ++ mcells M vm' vs' vc' vi' vo' ++ ([.int .i64 0] : List Value)).toArray := ⟨_, rfl⟩
  rw [← hcells]
  refine wpAnyH_ready (rs := [5]) (by kernel_rfl) (by simp) ?_
  refine AllReadyH.cons rfl (fun K hK => ?_) (AllReadyH.nil)
  go_simp
  refine hK.out _ _ (hH6.alloc hH6.size _) (fun _ => ?_)
  clear hK
  (try simp only [Bk.PU, Act.put])
  refine wpAnyH_at ?_
  intro w7 hw7
  replace hw7 : w7 = w6.alloc (.cells cells 83) := by rw [hw7, hcells]; rfl
  have b67 : Below w6.heap.size w6 w7 := by rw [hw7]; exact (Below.refl _ _).alloc (Nat.le_refl _) _
  have K7 : Blk w7 w6.heap.size 83 cells := by rw [hw7]; exact Blk.new _ _ _
  have z7 : w7.heap.size = w6.heap.size + 1 := by rw [hw7]; simp
  have hH7 := hH6.next b67
  clear hw7
  refine wpAnyH_ready (rs := [6]) (by kernel_rfl) (by simp) ?_
  refine AllReadyH.cons rfl (fun K hK => ?_) (AllReadyH.nil)
  go_simp
  refine hK.out _ _ hH7 (fun _ => ?_)
  clear hK
  (try simp only [Bk.PU, Act.put])
  refine wpAnyH_ready (rs := [7]) (by kernel_rfl) (by simp) ?_
  refine AllReadyH.cons rfl (fun K hK => ?_) (AllReadyH.nil)
  go_simp
  refine hK.out _ _ hH7 (fun _ => ?_)
  clear hK
  (try simp only [Bk.PU, Act.put])
  refine wpAnyH_done (by kernel_rfl) ?_ _
  subst hcells
  obtain ⟨gm, gs, q1, q2, q3, q4, hon⟩ := HO.out.onP w7 b67 K7 (.inr (Nat.le_refl _))
  have hd5 : w5.drew.heap.size = w5.heap.size := rfl
  have hB_w7 : Below w.heap.size w w7 := hB_w5.next hH7
  obtain ⟨P, hP⟩ : ∃ P : Pl, P = ⟨w6.heap.size, 83, [.slice A4 n cap4, .int .i64 im.mem, .int .i64 im.stacks], [.int .i64 0], 3, gm, gs, (· < w.heap.size)⟩ := ⟨_, rfl⟩
  have hz5 := hB_w5.size
  have hz6 := hH6.size
  have hPO : ∀ k, P.O k → w5.heap.size ≤ k ∧ k < w7.heap.size := fun k ho => by rw [hP] at ho; rcases ho with e | e | e <;> dsimp only at e <;> omega
  have hfx : P.fx = (· < w.heap.size) := by rw [hP]
  have hpb : P.b = w6.heap.size := by rw [hP]
  have hV : VFx w7 P A4 n cap4 im := ⟨by rw [hP], by rw [hP], ⟨(HR5.out.keep (fun b o hd => hH7.cell (p := ⟨b, o, none⟩) (by have := hd.2; show b < w5.heap.size; omega))).mono (fun k hk => ⟨by have := hH7.size; have := hk.2; omega, fun ho => by have := (hPO k ho).1; have := hk.2; omega⟩), hw, HT.out.next hB_w7, fun ho => by have := (hPO _ ho).1; have := HT.out.lt; omega, by have := HNN.out; omega⟩⟩
  have hVA : DAt w7 P im.code M 0 := by
    have hon2 := hon.foreign (fx := (· < w.heap.size)) (Below.refl _ _) (fun k hk => .inl (by dsimp only at hk ⊢; omega)) (fun k hk => by omega)
    refine ⟨⟨vm', vs', vc', vi', vo', sv', ?_⟩, Ran.zero _ _⟩
    rw [hP]
    exact hon2
  have hR7 : Rd w7 (fun k => w.heap.size ≤ k ∧ k < w7.heap.size ∧ ¬ P.O k) 5 A4 n (codeCells im.code) := (HR5.out.keep (fun b o hd => hH7.cell (p := ⟨b, o, none⟩) (by have := hd.2; show b < w5.heap.size; omega))).mono (fun k hk => ⟨by have := hk.1; omega, by have := hH7.size; have := hk.2; omega, fun ho => by have := (hPO k ho).1; have := hk.2; omega⟩)
  have HR7 := Lib.hid hR7
  have HV := Lib.hid hV; have HVA := Lib.hid hVA
  clear hR7 hon hV hVA hP HO HRD HBV K7 b67 hH6 hH7
  go_wp2_with fail
  go_ret2
  exact ⟨P, A4, n, cap4, by rw [hpb]; rfl, HV.out, HVA.out, fun k hk => ⟨by have := (hPO k hk).1; omega, (hPO k hk).2⟩, hfx, HR7.out, hB_w7⟩
end Go.Proofs.YteenmpjjaheggaaDoor
