/- Several texts in one: DbD DbF DbG DbH. -/
import Derived.Test.YtfpcblgkcbfdoaaDoorDbX
import Derived.Test.YtfpcblgkcbfdoaaDoorVmW
import Derived.Test.YtfpcblgkcbfdoaaDoorCpV
set_option linter.unusedVariables false
set_option linter.unusedSimpArgs false
/- The walk of debugger.New. -/
set_option maxRecDepth 100000
set_option linter.unusedVariables false
set_option linter.unusedSimpArgs false
namespace Go.Proofs.YtfpcblgkcbfdoaaDoor
open Go.RowKit Bk
theorem built_db {M : Mach} {vm vs vc vi vo a0 a1 a2 : Value} (hr : M.r.length = 16) (h0 : vm.oneCell' = true) (h1 : vs.oneCell' = true) (h2 : vc.oneCell' = true) (h3 : vi.oneCell' = true) (h4 : vo.oneCell' = true)  :
    Tryd.prog.built 69 [(0, .agg #[a0, a1, a2]), (1, .agg (mcells M vm vs vc vi vo).toArray)] = some (([a0, a1, a2] : List Value) ++ mcells M vm vs vc vi vo ++ ([.int .i64 0] : List Value)).toArray := by
  obtain ⟨pc, dir, r, m, s, calls, fp, sb, inp, out⟩ := M
  obtain ⟨r0, r1, r2, r3, r4, r5, r6, r7, r8, r9, r10, r11, r12, r13, r14, r15, e⟩ := list16 hr
  dsimp only at e
  subst e
  kernel_rfl
set_option maxHeartbeats 4000000 in
theorem c_DNewBad (A : Option Addr) (n cap : Nat) (im : Img) (M : Mach) (vm vs vc vi vo : Value) (sv : List Value) (w : World) (hC : Rd w (· < w.heap.size) 5 A n (codeCells im.code)) (hw : CodeWf im.code) (hL : MLs w (· < w.heap.size) M vm vs vc vi vo sv) (hms : M.s.length ≤ 1000000) (hcl : M.calls.length ≤ 17592186044400) (hTab : TableAt w) {e : Int} (hck : im.check.2 = e) (he : e ≠ 0) :
    Calls Tryd.prog 18 #[.agg #[.slice A n cap, .int .i64 im.mem, .int .i64 im.stacks], .agg (mcells M vm vs vc vi vo).toArray] w fun e' w' => e' = .returned (.tuple #[.pointer none, .int .i64 e]) ∧ Below w.heap.size w w' := by
  have HC := Lib.hid hC; have HT := Lib.hid hTab
  obtain ⟨i, hi⟩ : ∃ i, im.check.1 = i := ⟨_, rfl⟩
  have HCK := Lib.hid (Prod.ext hi hck : im.check = (i, e))
  have e1 : (e != 0) = true := by simpa using he
  clear hC hL hTab hi hck
  go_enter Tryd.func18, Tryd.ntmps18
  go_wp2_with fail
  refine (c_Check' A n cap im HCK.out _ (HC.out.next (by repeat' (first | (with_reducible assumption) | (with_reducible exact Below.refl _ _) | (with_reducible refine Below.alloc ?_ ?_ _) | (with_reducible refine Bk.drewN_ ?_ _) | (with_reducible refine Below.drew ?_) | (with_reducible refine Below.setCell ?_ ?_ _) | go_size))) hw (HT.out.next (by repeat' (first | (with_reducible assumption) | (with_reducible exact Below.refl _ _) | (with_reducible refine Below.alloc ?_ ?_ _) | (with_reducible refine Bk.drewN_ ?_ _) | (with_reducible refine Below.drew ?_) | (with_reducible refine Below.setCell ?_ ?_ _) | go_size)))).mono ?_
  rintro e' w2 ⟨rfl, hb2⟩
  have hB_w2 : Below w.heap.size w w2 := Below.next (by repeat' (first | (with_reducible assumption) | (with_reducible exact Below.refl _ _) | (with_reducible refine Below.alloc ?_ ?_ _) | (with_reducible refine Bk.drewN_ ?_ _) | (with_reducible refine Below.drew ?_) | (with_reducible refine Below.setCell ?_ ?_ _) | go_size)) hb2
  clear hb2
  go_wp2_with fail
  go_ret2
  exact ⟨rfl, hB_w2⟩
set_option maxHeartbeats 4000000 in
theorem c_DNewMis (A : Option Addr) (n cap : Nat) (im : Img) (M : Mach) (vm vs vc vi vo : Value) (sv : List Value) (w : World) (hC : Rd w (· < w.heap.size) 5 A n (codeCells im.code)) (hw : CodeWf im.code) (hL : MLs w (· < w.heap.size) M vm vs vc vi vo sv) (hms : M.s.length ≤ 1000000) (hcl : M.calls.length ≤ 17592186044400) (hTab : TableAt w) (hck : im.check.2 = 0) (hf : fitsB im M = false) :
    Calls Tryd.prog 18 #[.agg #[.slice A n cap, .int .i64 im.mem, .int .i64 im.stacks], .agg (mcells M vm vs vc vi vo).toArray] w fun e' w' => e' = .returned (.tuple #[.pointer none, .int .i64 20]) ∧ Below w.heap.size w w' := by
  have hnn : n = im.code.length := by have := hC.1; rw [codeCells_length] at this; omega
  have hz := (check_fault hck).1
  unfold Img.sized at hz
  simp only [Bool.and_eq_true, decide_eq_true_eq] at hz
  have hn6 : n ≤ 65536 := by omega
  have HC := Lib.hid hC; have HT := Lib.hid hTab; have HL := Lib.hid hL
  have HNN := Lib.hid hnn
  obtain ⟨i, hi⟩ : ∃ i, im.check.1 = i := ⟨_, rfl⟩
  have HCK := Lib.hid (Prod.ext hi hck : im.check = (i, 0))
  have HFV : Hid ((im.valid && fitsB im M) = false) := Lib.hid (by rw [hf, Bool.and_false])
  clear hC hL hTab hi hck hf hz hnn
  go_enter Tryd.func18, Tryd.ntmps18
  go_wp2_with fail
  refine calls_nameY ?_
  intro w1 hw1
  have hB_w1 : Below w.heap.size w w1 := by rw [hw1]; exact (by repeat' (first | (with_reducible assumption) | (with_reducible exact Below.refl _ _) | (with_reducible refine Below.alloc ?_ ?_ _) | (with_reducible refine Bk.drewN_ ?_ _) | (with_reducible refine Below.drew ?_) | (with_reducible refine Below.setCell ?_ ?_ _) | go_size))
  have K_1 : Blk w1 w.heap.size 24 #[.slice A n cap, .int .i64 im.mem, .int .i64 im.stacks] := by rw [hw1]; exact (by repeat' (first | with_reducible assumption | (refine Blk.new' ?_ _ _; simp; done) | refine Blk.alloc ?_ _ | refine Blk.drewN ?_ _ | refine Blk.drew ?_))
  have KM : Blk w1 (w.heap.size + 1) 30 (mcells M vm vs vc vi vo).toArray := by rw [hw1]; exact (by repeat' (first | with_reducible assumption | (refine Blk.new' ?_ _ _; simp; done) | refine Blk.alloc ?_ _ | refine Blk.drewN ?_ _ | refine Blk.drew ?_))
  have HM := Lib.hid ((HL.out.next hB_w1).at_ KM)
  clear hw1 KM
  obtain ⟨z_1, T_1, F_1⟩ := K_1.open_; have H_1 := Lib.hid K_1; clear K_1
  refine (c_Check' A n cap im HCK.out _ (HC.out.next hB_w1) hw (HT.out.next hB_w1)).mono ?_
  rintro e' w2 ⟨rfl, hb2⟩
  have hB_w2 := hB_w1.next hb2
  replace HM := Lib.hid (HM.out.next hb2)
  have K_1 : Blk w2 (w.heap.size) 24 #[.slice A n cap, .int .i64 im.mem, .int .i64 im.stacks] := Blk.next (by repeat' (first | with_reducible exact H_1.out | with_reducible exact K0_1 | (refine Blk.new' ?_ _ _; simp; done) | with_reducible refine Blk.alloc ?_ _ | with_reducible refine Blk.drewN ?_ _ | with_reducible refine Blk.drew ?_)) hb2; (try clear H_1); (try clear T_1); (try clear z_1); (try clear F_1); obtain ⟨z_1, T_1, F_1⟩ := K_1.open_; have H_1 := Lib.hid K_1; clear K_1
  clear hb2
  go_wp2_with fail
  refine (c_FitsG HM.out A n cap im HNN.out hn6 hms hcl (HC.out.next hB_w2) hw (HT.out.next hB_w2) HFV.out).mono ?_
  rintro e' w3 ⟨rfl, hb3⟩
  have hB_w3 := hB_w2.next hb3
  clear hb3
  go_wp2_with fail
  go_ret2
  exact ⟨rfl, hB_w3⟩
/-- A new debugger in new memory. -/
def NewDb (w : World) (im : Img) (M : Mach) (e : Ending) (w' : World) : Prop :=
  ∃ P A n cap, e = .returned (.tuple #[.pointer (some ⟨P.b, 0, none⟩), .int .i64 0]) ∧ VFx w' P A n cap im ∧ DAt w' P im.code M 0 ∧ (∀ k, P.O k → w.heap.size ≤ k ∧ k < w'.heap.size) ∧ P.fx = (· < w.heap.size) ∧ Rd w' (fun k => w.heap.size ≤ k ∧ k < w'.heap.size ∧ ¬ P.O k) 5 A n (codeCells im.code) ∧ Below w.heap.size w w'
set_option maxHeartbeats 8000000 in
theorem c_DNewOk (A : Option Addr) (n cap : Nat) (im : Img) (M : Mach) (vm vs vc vi vo : Value) (sv : List Value) (w : World) (hC : Rd w (· < w.heap.size) 5 A n (codeCells im.code)) (hw : CodeWf im.code) (hL : MLs w (· < w.heap.size) M vm vs vc vi vo sv) (hms : M.s.length ≤ 1000000) (hcl : M.calls.length ≤ 17592186044400) (hTab : TableAt w) (hck : im.check.2 = 0) (hf : Fit im M) (hbd : MBd M) :
    Calls Tryd.prog 18 #[.agg #[.slice A n cap, .int .i64 im.mem, .int .i64 im.stacks], .agg (mcells M vm vs vc vi vo).toArray] w (NewDb w im M) := by
  have hnn : n = im.code.length := by have := hC.1; rw [codeCells_length] at this; omega
  have hz := (check_fault hck).1
  unfold Img.sized at hz
  simp only [Bool.and_eq_true, decide_eq_true_eq] at hz
  have hn6 : n ≤ 65536 := by omega
  have HC := Lib.hid hC; have HT := Lib.hid hTab; have HL := Lib.hid hL; have HBD := Lib.hid hbd
  have HNN := Lib.hid hnn
  obtain ⟨i, hi⟩ : ∃ i, im.check.1 = i := ⟨_, rfl⟩
  have HCK := Lib.hid (Prod.ext hi hck : im.check = (i, 0))
  have HFV : Hid ((im.valid && fitsB im M) = true) := Lib.hid (by rw [fitsB_of hf, Bool.and_true]; unfold Img.valid; rw [hck]; rfl)
  clear hC hL hTab hi hck hf hz hnn hbd
  go_enter Tryd.func18, Tryd.ntmps18
  go_wp2_with fail
  refine calls_nameY ?_
  intro w1 hw1
  have hB_w1 : Below w.heap.size w w1 := by rw [hw1]; exact (by repeat' (first | (with_reducible assumption) | (with_reducible exact Below.refl _ _) | (with_reducible refine Below.alloc ?_ ?_ _) | (with_reducible refine Bk.drewN_ ?_ _) | (with_reducible refine Below.drew ?_) | (with_reducible refine Below.setCell ?_ ?_ _) | go_size))
  have K_1 : Blk w1 w.heap.size 24 #[.slice A n cap, .int .i64 im.mem, .int .i64 im.stacks] := by rw [hw1]; exact (by repeat' (first | with_reducible assumption | (refine Blk.new' ?_ _ _; simp; done) | refine Blk.alloc ?_ _ | refine Blk.drewN ?_ _ | refine Blk.drew ?_))
  have KM : Blk w1 (w.heap.size + 1) 30 (mcells M vm vs vc vi vo).toArray := by rw [hw1]; exact (by repeat' (first | with_reducible assumption | (refine Blk.new' ?_ _ _; simp; done) | refine Blk.alloc ?_ _ | refine Blk.drewN ?_ _ | refine Blk.drew ?_))
  have HM := Lib.hid ((HL.out.next hB_w1).at_ KM)
  have zz1 : w1.heap.size = w.heap.size + 2 := by rw [hw1]; simp
  clear hw1 KM
  obtain ⟨z_1, T_1, F_1⟩ := K_1.open_; have H_1 := Lib.hid K_1; clear K_1
  refine (c_Check' A n cap im HCK.out _ (HC.out.next hB_w1) hw (HT.out.next hB_w1)).mono ?_
  rintro e' w2 ⟨rfl, hb2⟩
  have hB_w2 := hB_w1.next hb2
  replace HM := Lib.hid (HM.out.next hb2)
  have K_1 : Blk w2 (w.heap.size) 24 #[.slice A n cap, .int .i64 im.mem, .int .i64 im.stacks] := Blk.next (by repeat' (first | with_reducible exact H_1.out | with_reducible exact K0_1 | (refine Blk.new' ?_ _ _; simp; done) | with_reducible refine Blk.alloc ?_ _ | with_reducible refine Blk.drewN ?_ _ | with_reducible refine Blk.drew ?_)) hb2; (try clear H_1); (try clear T_1); (try clear z_1); (try clear F_1); obtain ⟨z_1, T_1, F_1⟩ := K_1.open_; have H_1 := Lib.hid K_1; clear K_1
  have zz2 := hb2.size
  clear hb2
  go_wp2_with fail
  refine (c_FitsG HM.out A n cap im HNN.out hn6 hms hcl (HC.out.next hB_w2) hw (HT.out.next hB_w2) HFV.out).mono ?_
  rintro e' w3 ⟨rfl, hb3⟩
  have hB_w3 := hB_w2.next hb3
  replace HM := Lib.hid (HM.out.next hb3)
  have K_1 : Blk w3 (w.heap.size) 24 #[.slice A n cap, .int .i64 im.mem, .int .i64 im.stacks] := Blk.next (by repeat' (first | with_reducible exact H_1.out | with_reducible exact K0_1 | (refine Blk.new' ?_ _ _; simp; done) | with_reducible refine Blk.alloc ?_ _ | with_reducible refine Blk.drewN ?_ _ | with_reducible refine Blk.drew ?_)) hb3; (try clear H_1); (try clear T_1); (try clear z_1); (try clear F_1); obtain ⟨z_1, T_1, F_1⟩ := K_1.open_; have H_1 := Lib.hid K_1; clear K_1
  have zz3 := hb3.size
  clear hb3
  go_wp2_with fail
  refine (c_CloneC A n cap im.code _ hn6 (HC.out.next hB_w3)).mono ?_
  rintro e' w4 ⟨v4, rfl, ho4, hb4⟩
  have hB_w4 := hB_w3.next hb4
  replace HM := Lib.hid (HM.out.next hb4)
  have K_1 : Blk w4 (w.heap.size) 24 #[.slice A n cap, .int .i64 im.mem, .int .i64 im.stacks] := Blk.next (by repeat' (first | with_reducible exact H_1.out | with_reducible exact K0_1 | (refine Blk.new' ?_ _ _; simp; done) | with_reducible refine Blk.alloc ?_ _ | with_reducible refine Blk.drewN ?_ _ | with_reducible refine Blk.drew ?_)) hb4; (try clear H_1); (try clear T_1); (try clear z_1); (try clear F_1); obtain ⟨z_1, T_1, F_1⟩ := K_1.open_; have H_1 := Lib.hid K_1; clear K_1
  obtain ⟨A4, cap4, rfl, hn4, hA4, hR4⟩ := Sl.of_own ho4
  have HR4 := Lib.hid hR4
  have z34 := hb4.size
  clear hb4 ho4 hR4
  go_wp2_with fail
  refine wp_nameY ?_
  intro w5 hw5
  have hf5 : Fr (· = w.heap.size) w4 w5 := by rw [hw5]; exact Fr.set (O := (· = w.heap.size)) (p := ⟨w.heap.size, 0, none⟩) (Fr.refl _ _) rfl _
  have z5 : w5.heap.size = w4.heap.size := by rw [hw5]; simp [World.setCell]
  have K_5 : Blk w5 w.heap.size 24 #[.slice A4 n cap4, .int .i64 im.mem, .int .i64 im.stacks] := by
    rw [hw5]; exact H_1.out.set_ 0 (.slice A4 n cap4)
  have HM5 := Lib.hid (HM.out.fr hf5 (by omega) (fun k hk e => by omega))
  have hB_w5 : Below w.heap.size w w5 := ((Fr.of hB_w4).trans (hf5.mono (O' := (· = w.heap.size)) (fun k hk => hk))).below (Nat.le_refl _) (fun k hk => by omega)
  have HR5 : Hid (Rd w5 (fun b => w3.heap.size ≤ b ∧ b < w4.heap.size) 5 A4 n (codeCells im.code)) := Lib.hid (HR4.out.keep (fun b o hd => hf5.cell hd.2 (by have := hd.1; omega) o))
  clear hw5 hf5 z_1 T_1 F_1 H_1 HM HR4
  have T5 := K_5.cell
  have HK5 := Lib.hid K_5
  clear K_5
  refine wp_region_held_drew (S := fun W => Below w5.heap.size w5 W) (by kernel_rfl) ((Below.refl _ _).drew) (fun hH => ?_)
  refine wpAnyH_take (i := 0) (v := .agg #[.slice A4 n cap4, .int .i64 im.mem, .int .i64 im.stacks]) rfl (by kernel_rfl) (by kernel_rfl) (by kernel_rfl) (fun _ _ _ h => h) (Or.inl ⟨by rfl, ?hy⟩) (by assumption) ?_
  case hy => (intro w9 hS9; have T9 := (HK5.out.next hS9).cell; clear hS9; go_simp; try with_reducible rfl)
  (try simp only [List.getElem_toArray, List.getElem_cons_zero, List.getElem_cons_succ, Act.put, List.setIfInBounds_toArray, List.set_cons_zero, List.set_cons_succ])
  refine wpAnyH_ready (rs := [1]) (by kernel_rfl) (by simp) ?_
  refine AllReadyH.cons rfl (fun K hK => ?_) (AllReadyH.nil)
  go_simp
  refine (c_Clone (HM5.out.next hH) HBD.out).mono ?_
  rintro e' w6 ⟨bx, gm', gs', rfl, r1, r2, r3, ⟨vm', vs', vc', vi', vo', sv', hcl⟩, hb6⟩
  have hH6 := hH.next hb6
  have HO := Lib.hid (hcl.own r2 r3)
  have HRD := Lib.hid hcl.rd
  have hbx : bx < w6.heap.size := hcl.lt
  obtain ⟨f1, f2, f3, f4, f5⟩ : vm'.oneCell' = true ∧ vs'.oneCell' = true ∧ vc'.oneCell' = true ∧ vi'.oneCell' = true ∧ vo'.oneCell' = true := by
    obtain ⟨_, _, rfl, _⟩ := hcl.rd.m; obtain ⟨_, _, rfl, _⟩ := hcl.rd.s; obtain ⟨_, _, rfl, _⟩ := hcl.l.2.1; obtain ⟨_, _, rfl, _⟩ := hcl.l.2.2.1; obtain ⟨_, _, rfl, _⟩ := hcl.l.2.2.2
    exact ⟨rfl, rfl, rfl, rfl, rfl⟩
  have hbv := built_db (a0 := .slice A4 n cap4) (a1 := .int .i64 im.mem) (a2 := .int .i64 im.stacks) hcl.rl f1 f2 f3 f4 f5
  have HBV := Lib.hid hbv
  clear hcl hb6 f1 f2 f3 f4 f5 hbv
  refine hK.out _ _ hH6 (fun _ => ?_)
  clear hK hH
  (try simp only [List.getElem_toArray, List.getElem_cons_zero, List.getElem_cons_succ, Act.put, List.setIfInBounds_toArray, List.set_cons_zero, List.set_cons_succ])
  refine wpAnyH_ready (rs := [2]) (by kernel_rfl) (by simp) ?_
  refine AllReadyH.cons rfl (fun K hK => ?_) (AllReadyH.nil)
  go_simp
  refine hK.out _ _ hH6 (fun _ => ?_)
  clear hK
  (try simp only [List.getElem_toArray, List.getElem_cons_zero, List.getElem_cons_succ, Act.put, List.setIfInBounds_toArray, List.set_cons_zero, List.set_cons_succ])
  refine wpAnyH_ready (rs := [3]) (by kernel_rfl) (by simp) ?_
  refine AllReadyH.cons rfl (fun K hK => ?_) (AllReadyH.nil)
  rw [if_pos (by rfl)]
  refine wp_loadR 30 rfl rfl (load_mach HRD.out) ?_
  refine hK.out _ _ hH6 (fun _ => ?_)
  clear hK
  (try simp only [List.getElem_toArray, List.getElem_cons_zero, List.getElem_cons_succ, Act.put, List.setIfInBounds_toArray, List.set_cons_zero, List.set_cons_succ])
  refine wpAnyH_ready (rs := [4]) (by kernel_rfl) (by simp) ?_
  refine AllReadyH.cons rfl (fun K hK => ?_) (AllReadyH.nil)
  rw [if_pos (by rfl)]
  refine wp_buildR 69 rfl rfl HBV.out ?_
  refine hK.out _ _ hH6 (fun _ => ?_)
  clear hK
  (try simp only [List.getElem_toArray, List.getElem_cons_zero, List.getElem_cons_succ, Act.put, List.setIfInBounds_toArray, List.set_cons_zero, List.set_cons_succ])
  obtain ⟨cells, hcells⟩ : ∃ cells, cells = (([.slice A4 n cap4, .int .i64 im.mem, .int .i64 im.stacks] : List Value) ++ mcells M vm' vs' vc' vi' vo' ++ ([.int .i64 0] : List Value)).toArray := ⟨_, rfl⟩
  rw [← hcells]
  refine wpAnyH_ready (rs := [5]) (by kernel_rfl) (by simp) ?_
  refine AllReadyH.cons rfl (fun K hK => ?_) (AllReadyH.nil)
  go_simp
  refine hK.out _ _ (hH6.alloc hH6.size _) (fun _ => ?_)
  clear hK
  (try simp only [List.getElem_toArray, List.getElem_cons_zero, List.getElem_cons_succ, Act.put, List.setIfInBounds_toArray, List.set_cons_zero, List.set_cons_succ])
  refine wpAnyH_at ?_
  intro w7 hw7
  replace hw7 : w7 = w6.alloc (.cells cells 69) := by rw [hw7, hcells]; rfl
  have b67 : Below w6.heap.size w6 w7 := by rw [hw7]; exact (Below.refl _ _).alloc (Nat.le_refl _) _
  have K7 : Blk w7 w6.heap.size 69 cells := by rw [hw7]; exact Blk.new _ _ _
  have z7 : w7.heap.size = w6.heap.size + 1 := by rw [hw7]; simp
  have hH7 := hH6.next b67
  clear hw7
  refine wpAnyH_ready (rs := [6]) (by kernel_rfl) (by simp) ?_
  refine AllReadyH.cons rfl (fun K hK => ?_) (AllReadyH.nil)
  go_simp
  refine hK.out _ _ hH7 (fun _ => ?_)
  clear hK
  (try simp only [List.getElem_toArray, List.getElem_cons_zero, List.getElem_cons_succ, Act.put, List.setIfInBounds_toArray, List.set_cons_zero, List.set_cons_succ])
  refine wpAnyH_ready (rs := [7]) (by kernel_rfl) (by simp) ?_
  refine AllReadyH.cons rfl (fun K hK => ?_) (AllReadyH.nil)
  go_simp
  refine hK.out _ _ hH7 (fun _ => ?_)
  clear hK
  (try simp only [List.getElem_toArray, List.getElem_cons_zero, List.getElem_cons_succ, Act.put, List.setIfInBounds_toArray, List.set_cons_zero, List.set_cons_succ])
  refine wpAnyH_done (by kernel_rfl) ?_ _
  subst hcells
  obtain ⟨gm, gs, q1, q2, q3, q4, hon⟩ := HO.out.onP w7 b67 K7 (.inr (Nat.le_refl _))
  have hd5 : w5.drew.heap.size = w5.heap.size := rfl
  have hB_w7 : Below w.heap.size w w7 := hB_w5.next hH7
  obtain ⟨P, hP⟩ : ∃ P : Pl, P = ⟨w6.heap.size, 69, [.slice A4 n cap4, .int .i64 im.mem, .int .i64 im.stacks], [.int .i64 0], 3, gm, gs, (· < w.heap.size)⟩ := ⟨_, rfl⟩
  have hz5 := hB_w5.size
  have hz6 := hH6.size
  have hPO : ∀ k, P.O k → w5.heap.size ≤ k ∧ k < w7.heap.size := fun k ho => by rw [hP] at ho; rcases ho with e | e | e <;> dsimp only at e <;> omega
  have hfx : P.fx = (· < w.heap.size) := by rw [hP]
  have hpb : P.b = w6.heap.size := by rw [hP]
  have hV : VFx w7 P A4 n cap4 im := ⟨by rw [hP], by rw [hP], ⟨(HR5.out.keep (fun b o hd => hH7.cell (p := ⟨b, o, none⟩) (by have := hd.2; show b < w5.heap.size; omega))).mono (fun k hk => ⟨by have := hH7.size; have := hk.2; omega, fun ho => by have := (hPO k ho).1; have := hk.2; omega⟩), hw, HT.out.next hB_w7, fun ho => by have := (hPO _ ho).1; have := HT.out.lt; omega, by have := HNN.out; omega⟩⟩
  have hVA : DAt w7 P im.code M 0 := by
    have hon2 := hon.foreign (fx := (· < w.heap.size)) (Below.refl _ _) (fun k hk => .inl (by dsimp only at hk ⊢; omega)) (fun k hk => by omega)
    refine ⟨⟨vm', vs', vc', vi', vo', sv', ?_⟩, Ran.zero _ _⟩
    rw [hP]
    exact hon2
  have hR7 : Rd w7 (fun k => w.heap.size ≤ k ∧ k < w7.heap.size ∧ ¬ P.O k) 5 A4 n (codeCells im.code) := (HR5.out.keep (fun b o hd => hH7.cell (p := ⟨b, o, none⟩) (by have := hd.2; show b < w5.heap.size; omega))).mono (fun k hk => ⟨by have := hk.1; omega, by have := hH7.size; have := hk.2; omega, fun ho => by have := (hPO k ho).1; have := hk.2; omega⟩)
  have HR7 := Lib.hid hR7
  have HV := Lib.hid hV; have HVA := Lib.hid hVA
  clear hR7 hon hV hVA hP HO HRD HBV K7 b67 hH6 hH7
  go_wp2_with fail
  go_ret2
  exact ⟨P, A4, n, cap4, by rw [hpb]; rfl, HV.out, HVA.out, fun k hk => ⟨by have := (hPO k hk).1; omega, (hPO k hk).2⟩, hfx, HR7.out, hB_w7⟩
end Go.Proofs.YtfpcblgkcbfdoaaDoor

/- backsteplaw33: same, Made. -/
set_option maxRecDepth 100000
set_option linter.unusedVariables false
set_option linter.unusedSimpArgs false
namespace Bk
/-- The arguments are of a debugger that the laws consider. -/
def okD (im : Img) (M : Mach) : Bool := !great25 im M && (decide (im.check.2 = 0) && fitsB im M)
theorem okD.facts {im : Img} {M : Mach} (h : okD im M = true) : great25 im M = false ∧ im.check.2 = 0 ∧ fitsB im M = true := by
  unfold okD at h
  simp only [Bool.and_eq_true, Bool.not_eq_true', decide_eq_true_eq] at h
  exact h
end Bk
namespace Go.Proofs.YtfpcblgkcbfdoaaDoor
open Go.RowKit Bk
set_option maxHeartbeats 4000000 in
theorem c_same33 {w : World} {D D' : Nat → Prop} {M : Mach} {vm vs vc vi vo vm' vs' vc' vi' vo' : Value} {sv sv' : List Value} (h : MLs w D M vm vs vc vi vo sv) (h' : MLs w D' M vm' vs' vc' vi' vo' sv') (hB : MBd M) :
    Calls Tryd.prog 22 #[.agg (mcells M vm vs vc vi vo).toArray, .agg (mcells M vm' vs' vc' vi' vo').toArray] w fun e w' => e = .returned (.bool true) ∧ Below w.heap.size w w' := by
  have HL := Lib.hid h; have HL' := Lib.hid h'; have HB := Lib.hid hB
  clear h h' hB
  go_enter Tryd.func22, Tryd.ntmps22
  go_wp2_with fail
  refine calls_nameY ?_
  intro w1 hw1
  have hB_w1 : Below w.heap.size w w1 := by rw [hw1]; exact (by repeat' (first | (with_reducible assumption) | (with_reducible exact Below.refl _ _) | (with_reducible refine Below.alloc ?_ ?_ _) | (with_reducible refine Bk.drewN_ ?_ _) | (with_reducible refine Below.drew ?_) | (with_reducible refine Below.setCell ?_ ?_ _) | go_size))
  have K1 : Blk w1 w.heap.size 30 (mcells M vm vs vc vi vo).toArray := by rw [hw1]; exact (by repeat' (first | with_reducible assumption | (refine Blk.new' ?_ _ _; simp; done) | refine Blk.alloc ?_ _ | refine Blk.drewN ?_ _ | refine Blk.drew ?_))
  have K2 : Blk w1 (w.heap.size + 1) 30 (mcells M vm' vs' vc' vi' vo').toArray := by rw [hw1]; exact (by repeat' (first | with_reducible assumption | (refine Blk.new' ?_ _ _; simp; done) | refine Blk.alloc ?_ _ | refine Blk.drewN ?_ _ | refine Blk.drew ?_))
  clear hw1
  refine (c_EqualT ((HL.out.next hB_w1).at_ K1) ((HL'.out.next hB_w1).at_ K2) HB.out).mono ?_
  rintro e w2 ⟨rfl, hb2⟩
  have hB_w2 := hB_w1.next hb2
  clear hb2
  go_wp2_with fail
  go_ret
  exact ⟨rfl, hB_w2⟩
set_option maxHeartbeats 4000000 in
theorem c_MadeGreat (A : Option Addr) (n cap : Nat) (im : Img) (M : Mach) (vm vs vc vi vo : Value) (sv : List Value) (w : World) (hC : Rd w (· < w.heap.size) 5 A n (codeCells im.code)) (hw : CodeWf im.code) (hL : MLs w (· < w.heap.size) M vm vs vc vi vo sv) (hwf : MWf M) (hl : ∀ l ∈ M.s, l.length ≤ 17592186043904) (hTab : TableAt w) (hg : great25 im M = true) :
    Calls Tryd.prog 12 #[.agg #[.slice A n cap, .int .i64 im.mem, .int .i64 im.stacks], .agg (mcells M vm vs vc vi vo).toArray] w fun e w' => e = .returned (.pointer none) ∧ Below w.heap.size w w' := by
  have hnn : n = im.code.length := by have := hC.1; rw [codeCells_length] at this; omega
  have HL := Lib.hid hL; have HLL := Lib.hid hl; have HN := Lib.hid hnn; have HG := Lib.hid hg
  clear hC hL hl hnn hg hwf hTab
  go_enter Tryd.func12, Tryd.ntmps12
  go_upto_region 1 with fail; refine wp_nameY ?_; intro w1 hw1; have hB_w1 : Below w.heap.size w w1 := (by rw [hw1]; exact (by repeat' (first | (with_reducible assumption) | (with_reducible exact Below.refl _ _) | (with_reducible refine Below.alloc ?_ ?_ _) | (with_reducible refine Bk.drewN_ ?_ _) | (with_reducible refine Below.drew ?_) | (with_reducible refine Below.setCell ?_ ?_ _) | go_size))); have K_1 : Blk w1 w.heap.size 24 #[.slice A n cap, .int .i64 im.mem, .int .i64 im.stacks] := (by rw [hw1]; exact (by repeat' (first | with_reducible assumption | (refine Blk.new' ?_ _ _; simp; done) | refine Blk.alloc ?_ _ | refine Blk.drewN ?_ _ | refine Blk.drew ?_))); have KM : Blk w1 (w.heap.size + 1) 30 (mcells M vm vs vc vi vo).toArray := (by rw [hw1]; exact (by repeat' (first | with_reducible assumption | (refine Blk.new' ?_ _ _; simp; done) | refine Blk.alloc ?_ _ | refine Blk.drewN ?_ _ | refine Blk.drew ?_))); have HM := Lib.hid ((HL.out.next hB_w1).at_ KM); clear hw1 KM; obtain ⟨z_1, T_1, F_1⟩ := K_1.open_; have H_1 := Lib.hid K_1; clear K_1
  go_wp2_with (refine wpList_loadG 30 rfl rfl rfl (load_mach HM.out) ?_; simp only [Act.put, List.setIfInBounds_toArray, List.set_cons_succ, List.set_cons_zero])
  refine (c_Great25T (HL.out.next hB_w1) A n cap im HN.out HLL.out HG.out).mono ?_
  rintro e w2 ⟨rfl, hb2⟩
  have hB_w2 := hB_w1.next hb2
  clear hb2
  go_wp2_with fail
  go_ret
  exact ⟨rfl, hB_w2⟩
set_option maxHeartbeats 4000000 in
theorem Made_none (A : Option Addr) (n cap : Nat) (im : Img) (M : Mach) (vm vs vc vi vo : Value) (sv : List Value) (w : World) (hC : Rd w (· < w.heap.size) 5 A n (codeCells im.code)) (hw : CodeWf im.code) (hL : MLs w (· < w.heap.size) M vm vs vc vi vo sv) (hwf : MWf M) (hl : ∀ l ∈ M.s, l.length ≤ 17592186043904) (hTab : TableAt w) (hg : great25 im M = false) (k : Int) (hN : ∀ w', Below w.heap.size w w' → Calls Tryd.prog 18 #[.agg #[.slice A n cap, .int .i64 im.mem, .int .i64 im.stacks], .agg (mcells M vm vs vc vi vo).toArray] w' fun e w'' => e = .returned (.tuple #[.pointer none, .int .i64 k]) ∧ Below w'.heap.size w' w'') :
    Calls Tryd.prog 12 #[.agg #[.slice A n cap, .int .i64 im.mem, .int .i64 im.stacks], .agg (mcells M vm vs vc vi vo).toArray] w fun e w' => e = .returned (.pointer none) ∧ Below w.heap.size w w' := by
  have hnn : n = im.code.length := by have := hC.1; rw [codeCells_length] at this; omega
  have HL := Lib.hid hL; have HLL := Lib.hid hl; have HN := Lib.hid hnn; have HG := Lib.hid hg; have HNN := Lib.hid hN
  clear hC hL hl hnn hg hwf hTab hN
  go_enter Tryd.func12, Tryd.ntmps12
  go_upto_region 1 with fail; refine wp_nameY ?_; intro w1 hw1; have hB_w1 : Below w.heap.size w w1 := (by rw [hw1]; exact (by repeat' (first | (with_reducible assumption) | (with_reducible exact Below.refl _ _) | (with_reducible refine Below.alloc ?_ ?_ _) | (with_reducible refine Bk.drewN_ ?_ _) | (with_reducible refine Below.drew ?_) | (with_reducible refine Below.setCell ?_ ?_ _) | go_size))); have K_1 : Blk w1 w.heap.size 24 #[.slice A n cap, .int .i64 im.mem, .int .i64 im.stacks] := (by rw [hw1]; exact (by repeat' (first | with_reducible assumption | (refine Blk.new' ?_ _ _; simp; done) | refine Blk.alloc ?_ _ | refine Blk.drewN ?_ _ | refine Blk.drew ?_))); have KM : Blk w1 (w.heap.size + 1) 30 (mcells M vm vs vc vi vo).toArray := (by rw [hw1]; exact (by repeat' (first | with_reducible assumption | (refine Blk.new' ?_ _ _; simp; done) | refine Blk.alloc ?_ _ | refine Blk.drewN ?_ _ | refine Blk.drew ?_))); have HM := Lib.hid ((HL.out.next hB_w1).at_ KM); clear hw1 KM; obtain ⟨z_1, T_1, F_1⟩ := K_1.open_; have H_1 := Lib.hid K_1; clear K_1; go_wp2_with (refine wpList_loadG 30 rfl rfl rfl (load_mach HM.out) ?_; simp only [Act.put, List.setIfInBounds_toArray, List.set_cons_succ, List.set_cons_zero]); refine (c_Great25F (HL.out.next hB_w1) A n cap im HN.out HLL.out HG.out).mono ?_; rintro e w2 ⟨rfl, hb2⟩; have hB_w2 := hB_w1.next hb2; replace HM := Lib.hid (HM.out.next hb2); have K_1 : Blk w2 (w.heap.size) 24 #[.slice A n cap, .int .i64 im.mem, .int .i64 im.stacks] := Blk.next (by repeat' (first | with_reducible exact H_1.out | with_reducible exact K0_1 | (refine Blk.new' ?_ _ _; simp; done) | with_reducible refine Blk.alloc ?_ _ | with_reducible refine Blk.drewN ?_ _ | with_reducible refine Blk.drew ?_)) hb2; (try clear H_1); (try clear T_1); (try clear z_1); (try clear F_1); obtain ⟨z_1, T_1, F_1⟩ := K_1.open_; have H_1 := Lib.hid K_1; clear K_1; clear hb2; go_wp2_with (refine wpList_loadG 30 rfl rfl rfl (load_mach HM.out) ?_; simp only [Act.put, List.setIfInBounds_toArray, List.set_cons_succ, List.set_cons_zero])
  refine (HNN.out _ hB_w2).mono ?_
  rintro e w3 ⟨rfl, hb3⟩
  have hB_w3 := hB_w2.next hb3
  clear hb3
  go_wp2_with fail
  go_ret
  exact ⟨rfl, hB_w3⟩
theorem c_MadeNone (A : Option Addr) (n cap : Nat) (im : Img) (M : Mach) (vm vs vc vi vo : Value) (sv : List Value) (w : World) (hC : Rd w (· < w.heap.size) 5 A n (codeCells im.code)) (hw : CodeWf im.code) (hL : MLs w (· < w.heap.size) M vm vs vc vi vo sv) (hwf : MWf M) (hl : ∀ l ∈ M.s, l.length ≤ 17592186043904) (hTab : TableAt w) (h : okD im M = false) :
    Calls Tryd.prog 12 #[.agg #[.slice A n cap, .int .i64 im.mem, .int .i64 im.stacks], .agg (mcells M vm vs vc vi vo).toArray] w fun e w' => e = .returned (.pointer none) ∧ Below w.heap.size w w' := by
  cases hg : great25 im M with
  | true => exact c_MadeGreat A n cap im M vm vs vc vi vo sv w hC hw hL hwf hl hTab hg
  | false =>
    have hs := Sm25.of hg
    have hms : M.s.length ≤ 1000000 := by have := hs.s; omega
    have hcl : M.calls.length ≤ 17592186044400 := by have := hs.k; omega
    by_cases hck : im.check.2 = 0
    · cases hf : fitsB im M with
      | false => exact Made_none A n cap im M vm vs vc vi vo sv w hC hw hL hwf hl hTab hg 20 fun w' hb => c_DNewMis A n cap im M vm vs vc vi vo sv w' (Rd.upL hC hb) hw (MLs.up hL hb) hms hcl (hTab.next hb) hck hf
      | true =>
        unfold okD at h
        rw [hg, decide_eq_true hck, hf] at h
        cases h
    · exact Made_none A n cap im M vm vs vc vi vo sv w hC hw hL hwf hl hTab hg im.check.2 fun w' hb => c_DNewBad A n cap im M vm vs vc vi vo sv w' (Rd.upL hC hb) hw (MLs.up hL hb) hms hcl (hTab.next hb) rfl hck
/-- A debugger in new memory, as Made hands it back. -/
def MadeDb (w : World) (im : Img) (M : Mach) (e : Ending) (w' : World) : Prop :=
  ∃ P A n cap, e = .returned (.pointer (some ⟨P.b, 0, none⟩)) ∧ VFx w' P A n cap im ∧ DAt w' P im.code M 0 ∧ (∀ k, P.O k → w.heap.size ≤ k ∧ k < w'.heap.size) ∧ P.fx = (· < w.heap.size) ∧ Rd w' (fun k => w.heap.size ≤ k ∧ k < w'.heap.size ∧ ¬ P.O k) 5 A n (codeCells im.code) ∧ Below w.heap.size w w'
set_option maxHeartbeats 4000000 in
theorem c_MadeOk (A : Option Addr) (n cap : Nat) (im : Img) (M : Mach) (vm vs vc vi vo : Value) (sv : List Value) (w : World) (hC : Rd w (· < w.heap.size) 5 A n (codeCells im.code)) (hw : CodeWf im.code) (hL : MLs w (· < w.heap.size) M vm vs vc vi vo sv) (hwf : MWf M) (hl : ∀ l ∈ M.s, l.length ≤ 17592186043904) (hTab : TableAt w) (h : okD im M = true) :
    Calls Tryd.prog 12 #[.agg #[.slice A n cap, .int .i64 im.mem, .int .i64 im.stacks], .agg (mcells M vm vs vc vi vo).toArray] w (MadeDb w im M) := by
  have hnn : n = im.code.length := by have := hC.1; rw [codeCells_length] at this; omega
  obtain ⟨hg, hck, hf⟩ := okD.facts h
  have hs := Sm25.of hg
  have hms : M.s.length ≤ 1000000 := by have := hs.s; omega
  have hcl : M.calls.length ≤ 17592186044400 := by have := hs.k; omega
  have hfit := Fit.of hwf hf
  have HNN := Lib.hid (fun (w' : World) (hb : Below w.heap.size w w') => c_DNewOk A n cap im M vm vs vc vi vo sv w' (Rd.upL hC hb) hw (MLs.up hL hb) hms hcl (hTab.next hb) hck hfit (MBd.of hck hfit hs.sb (by omega)))
  have HL := Lib.hid hL; have HLL := Lib.hid hl; have HN := Lib.hid hnn; have HG := Lib.hid hg
  clear hC hL hl hnn hg hwf hTab h hck hf hs hms hcl hfit
  go_enter Tryd.func12, Tryd.ntmps12
  go_upto_region 1 with fail; refine wp_nameY ?_; intro w1 hw1; have hB_w1 : Below w.heap.size w w1 := (by rw [hw1]; exact (by repeat' (first | (with_reducible assumption) | (with_reducible exact Below.refl _ _) | (with_reducible refine Below.alloc ?_ ?_ _) | (with_reducible refine Bk.drewN_ ?_ _) | (with_reducible refine Below.drew ?_) | (with_reducible refine Below.setCell ?_ ?_ _) | go_size))); have K_1 : Blk w1 w.heap.size 24 #[.slice A n cap, .int .i64 im.mem, .int .i64 im.stacks] := (by rw [hw1]; exact (by repeat' (first | with_reducible assumption | (refine Blk.new' ?_ _ _; simp; done) | refine Blk.alloc ?_ _ | refine Blk.drewN ?_ _ | refine Blk.drew ?_))); have KM : Blk w1 (w.heap.size + 1) 30 (mcells M vm vs vc vi vo).toArray := (by rw [hw1]; exact (by repeat' (first | with_reducible assumption | (refine Blk.new' ?_ _ _; simp; done) | refine Blk.alloc ?_ _ | refine Blk.drewN ?_ _ | refine Blk.drew ?_))); have HM := Lib.hid ((HL.out.next hB_w1).at_ KM); clear hw1 KM; obtain ⟨z_1, T_1, F_1⟩ := K_1.open_; have H_1 := Lib.hid K_1; clear K_1; go_wp2_with (refine wpList_loadG 30 rfl rfl rfl (load_mach HM.out) ?_; simp only [Act.put, List.setIfInBounds_toArray, List.set_cons_succ, List.set_cons_zero]); refine (c_Great25F (HL.out.next hB_w1) A n cap im HN.out HLL.out HG.out).mono ?_; rintro e w2 ⟨rfl, hb2⟩; have hB_w2 := hB_w1.next hb2; replace HM := Lib.hid (HM.out.next hb2); have K_1 : Blk w2 (w.heap.size) 24 #[.slice A n cap, .int .i64 im.mem, .int .i64 im.stacks] := Blk.next (by repeat' (first | with_reducible exact H_1.out | with_reducible exact K0_1 | (refine Blk.new' ?_ _ _; simp; done) | with_reducible refine Blk.alloc ?_ _ | with_reducible refine Blk.drewN ?_ _ | with_reducible refine Blk.drew ?_)) hb2; (try clear H_1); (try clear T_1); (try clear z_1); (try clear F_1); obtain ⟨z_1, T_1, F_1⟩ := K_1.open_; have H_1 := Lib.hid K_1; clear K_1; clear hb2; go_wp2_with (refine wpList_loadG 30 rfl rfl rfl (load_mach HM.out) ?_; simp only [Act.put, List.setIfInBounds_toArray, List.set_cons_succ, List.set_cons_zero])
  refine (HNN.out _ hB_w2).mono ?_
  rintro e w3 ⟨P, A', n', cap', rfl, hV, hA, hO, hfx, hR, hb3⟩
  have hz := hB_w2.size
  have HR := Lib.hid (show Rd w3 (fun k => w.heap.size ≤ k ∧ k < w3.heap.size ∧ ¬ P.O k) 5 A' n' (codeCells im.code) from hR.mono (fun k hk => ⟨by have := hk.1; omega, hk.2⟩))
  have HV := Lib.hid hV
  have HA := Lib.hid (show DAt w3 { P with fx := (· < w.heap.size) } im.code M 0 from ⟨hA.1.foreign (Below.refl _ _) (fun k hk => .inl (by show P.fx k; rw [hfx]; dsimp only at hk ⊢; omega)) (fun k hk => by have := hb3.size; dsimp only at hk; omega), hA.2⟩)
  have HO := Lib.hid hO
  have hB_w3 := hB_w2.next hb3
  clear hb3 hV hA hO hfx hR
  go_wp2_with fail
  go_ret
  exact ⟨{ P with fx := (· < w.heap.size) }, A', n', cap', rfl, ⟨HV.out.pre, HV.out.off, ⟨HV.out.env.hC, HV.out.env.hw, HV.out.env.hT, HV.out.env.hG, HV.out.env.hl⟩⟩, HA.out, fun k hk => ⟨by have := (HO.out k hk).1; omega, (HO.out k hk).2⟩, rfl, HR.out, hB_w3⟩
end Go.Proofs.YtfpcblgkcbfdoaaDoor

/- backsteplaw33.awake. -/
set_option maxRecDepth 100000
set_option linter.unusedVariables false
set_option linter.unusedSimpArgs false
namespace Bk
def awC33 : Prg := [⟨4, 1, 5, 0, 0⟩, ⟨4, 1, 7, 0, 0⟩, ⟨34, 0, 0, 0, 0⟩]
def awI33 : Img := ⟨awC33, 1, 1⟩
def awM33 : Mach := newM 1 1 []
theorem aw33_check : awI33.check.2 = 0 := by decide +kernel
theorem aw33_tr1 : tr awC33 awM33 1 = ⟨1, 1, [0, 5, 0, 0, 0, 0, 0, 0, 0, 0, 0, 0, 0, 0, 0, 0], [0], [[]], [], 0, 0, [], []⟩ := by decide +kernel
theorem aw33_tr2 : tr awC33 awM33 2 = ⟨2, 1, [0, 12, 0, 0, 0, 0, 0, 0, 0, 0, 0, 0, 0, 0, 0, 0], [0], [[]], [], 0, 0, [], []⟩ := by decide +kernel
theorem aw33_te0 : te awC33 awM33 0 = 0 := by decide +kernel
theorem aw33_te1 : te awC33 awM33 1 = 0 := by decide +kernel
theorem aw33_te2 : te awC33 awM33 2 = 4 := by decide +kernel
theorem aw33_ran2 : Ran awC33 awM33 2 := ((Ran.zero _ _).succ aw33_te0).succ aw33_te1
theorem aw33_ran1 : Ran awC33 awM33 1 := (Ran.zero _ _).succ aw33_te0
theorem aw33_next : nextAt (tr awC33 awM33 1) = 1 := by decide +kernel
theorem aw33_wf : MWf awM33 := by
  have key : ∀ M : Mach, (decide (M.r.length = 16) && M.r.all (fun x => decide (-9223372036854775808 ≤ x ∧ x ≤ 9223372036854775807)) && M.m.all (fun x => decide (-9223372036854775808 ≤ x ∧ x ≤ 9223372036854775807)) && decide (M.s = [[]]) && decide (M.inp = []) && decide (M.out = [])) = true → MWf M := by
    intro M h
    simp only [Bool.and_eq_true, decide_eq_true_eq, List.all_eq_true] at h
    obtain ⟨⟨⟨⟨⟨h1, h2⟩, h3⟩, h4⟩, h5⟩, h6⟩ := h
    exact ⟨h1, h2, h3, by rw [h4]; intro l hl; simp at hl; subst hl; simp, by rw [h5]; simp, by rw [h6]; simp⟩
  exact key _ (by decide +kernel)
theorem aw33_fits : fitsB awI33 awM33 = true := by decide +kernel
theorem aw33_codeWf : CodeWf awC33 := by
  intro k hk
  match k, hk with
  | 0, _ => exact ⟨by decide, by decide, by decide, by decide, by decide, by decide, by decide, by decide, by decide, by decide⟩
  | 1, _ => exact ⟨by decide, by decide, by decide, by decide, by decide, by decide, by decide, by decide, by decide, by decide⟩
  | 2, _ => exact ⟨by decide, by decide, by decide, by decide, by decide, by decide, by decide, by decide, by decide, by decide⟩
theorem aw33_env : VEnv awI33 awM33 3 := VEnv.of aw33_check aw33_codeWf (Fit.of aw33_wf aw33_fits) (K := 0) (fun l hl => by simp [awM33, newM] at hl; simp [hl]) (by omega)
end Bk
namespace Go.Proofs.YtfpcblgkcbfdoaaDoor
open Go.RowKit Bk
set_option maxHeartbeats 16000000 in
theorem c_awake33 (w : World) (hTab : TableAt w) :
    Calls Tryd.prog 11 #[] w fun e w' => e = .returned (.bool true) ∧ Below w.heap.size w w' := by
  have HT := Lib.hid hTab; clear hTab
  go_enter Tryd.func11, Tryd.ntmps11
  go_wp2_with fail
  refine calls_nameY ?_
  intro w1 hw1
  have hB_w1 : Below w.heap.size w w1 := by rw [hw1]; exact (by repeat' (first | (with_reducible assumption) | (with_reducible exact Below.refl _ _) | (with_reducible refine Below.alloc ?_ ?_ _) | (with_reducible refine Bk.drewN_ ?_ _) | (with_reducible refine Below.drew ?_) | (with_reducible refine Below.setCell ?_ ?_ _) | go_size))
  have K_9 : Blk w1 w.heap.size 38 #[.int .u8 4, .int .i64 1, .int .i64 7, .int .i64 0, .int .i64 0] := by rw [hw1]; exact (by repeat' (first | with_reducible assumption | (refine Blk.new' ?_ _ _; simp; done) | refine Blk.alloc ?_ _ | refine Blk.drewN ?_ _ | refine Blk.drew ?_))
  have K_0 : Blk w1 (w.heap.size + 1) 38 (codeCells awC33).toArray := by rw [hw1]; exact (by repeat' (first | with_reducible assumption | (refine Blk.new' ?_ _ _; simp; done) | refine Blk.alloc ?_ _ | refine Blk.drewN ?_ _ | refine Blk.drew ?_))
  have K_1 : Blk w1 (w.heap.size + 2) 24 #[.slice (some ⟨w.heap.size + 1, 0, none⟩) 3 3, .int .i64 1, .int .i64 1] := by rw [hw1]; exact (by repeat' (first | with_reducible assumption | (refine Blk.new' ?_ _ _; simp; done) | refine Blk.alloc ?_ _ | refine Blk.drewN ?_ _ | refine Blk.drew ?_))
  clear hw1
  have HR0 := Lib.hid (Rd.blk_ (cs := (codeCells awC33).toArray) (n := 3) (size := 5) (D := (· < w1.heap.size)) K_0 K_0.lt rfl)
  have H9 := Lib.hid K_9
  have z91 : w.heap.size < w1.heap.size := K_9.lt
  obtain ⟨z_1, T_1, F_1⟩ := K_1.open_; have H_1 := Lib.hid K_1; clear K_1 K_0 K_9
  refine (c_NewI (im := awI33) aw33_check HR0.out aw33_codeWf (HT.out.next hB_w1) (l := []) Sl.nil (D := fun _ => False) (fun k hk => hk.elim) (by simp)).mono ?_
  rintro e w2 ⟨vm, vs, vi, sv, rfl, hO, hb2⟩
  have hB_w2 := hB_w1.next hb2
  have hb2' := hb2
  have HR2 := Lib.hid (Rd.upL HR0.out hb2)
  replace H9 := Lib.hid (H9.out.next hb2)
  have K_1 : Blk w2 (w.heap.size + 2) 24 #[.slice (some ⟨w.heap.size + 1, 0, none⟩) 3 3, .int .i64 1, .int .i64 1] := Blk.next (by repeat' (first | with_reducible exact H_1.out | with_reducible exact K0_1 | (refine Blk.new' ?_ _ _; simp; done) | with_reducible refine Blk.alloc ?_ _ | with_reducible refine Blk.drewN ?_ _ | with_reducible refine Blk.drew ?_)) hb2; (try clear H_1); (try clear T_1); (try clear z_1); (try clear F_1); obtain ⟨z_1, T_1, F_1⟩ := K_1.open_; have H_1 := Lib.hid K_1; clear K_1
  have HO := Lib.hid hO
  have HMl := Lib.hid hO.mls
  obtain ⟨Am, cm, rfl, _⟩ := HMl.out.m; obtain ⟨Av, cv, rfl, _⟩ := HMl.out.s; obtain ⟨Ai, ci, rfl, _⟩ := HMl.out.l.2.2.1
  have HL := Lib.hid (mc_len (newM awI33.mem.toNat awI33.stacks.toNat []) (.slice Am (newM awI33.mem.toNat awI33.stacks.toNat []).m.length cm) (.slice Av (newM awI33.mem.toNat awI33.stacks.toNat []).s.length cv) (.slice none 0 0) (.slice Ai (newM awI33.mem.toNat awI33.stacks.toNat []).inp.length ci) (.slice none 0 0) hO.1)
  clear hO hb2
  go_upto_region 4 with (refine wpList_store_row rfl 30 (.tmp 3) (.tmp 23) rfl w2.heap.size _ rfl rfl 30 #[.int .i64 0, .int .i64 0, .int .i64 0, .int .i64 0, .int .i64 0, .int .i64 0, .int .i64 0, .int .i64 0, .int .i64 0, .int .i64 0, .int .i64 0, .int .i64 0, .int .i64 0, .int .i64 0, .int .i64 0, .int .i64 0, .int .i64 0, .int .i64 0, .slice none 0 0, .slice none 0 0, .slice none 0 0, .int .i64 0, .int .i64 0, .slice none 0 0, .slice none 0 0] (heap_alloc_new w2 _) (by rw [info_mach25]; simp [HL.out]) (by simp [HL.out]) (all_oneCell_toArray (mc_one rfl rfl rfl rfl rfl)) ?_; simp only [Act.put, List.setIfInBounds_toArray, List.set_cons_succ, List.set_cons_zero])
  refine wp_nameY ?_
  intro w3 hw3
  rw [World.setRow_alloc_new] at hw3
  have hb3 : Below w2.heap.size w2 w3 := by rw [hw3]; exact (by repeat' (first | (with_reducible assumption) | (with_reducible exact Below.refl _ _) | (with_reducible refine Below.alloc ?_ ?_ _) | (with_reducible refine Bk.drewN_ ?_ _) | (with_reducible refine Below.drew ?_) | (with_reducible refine Below.setCell ?_ ?_ _) | go_size))
  have KM : Blk w3 w2.heap.size 30 (mcells (newM awI33.mem.toNat awI33.stacks.toNat []) (.slice Am (newM awI33.mem.toNat awI33.stacks.toNat []).m.length cm) (.slice Av (newM awI33.mem.toNat awI33.stacks.toNat []).s.length cv) (.slice none 0 0) (.slice Ai (newM awI33.mem.toNat awI33.stacks.toNat []).inp.length ci) (.slice none 0 0)).toArray := by rw [hw3]; exact Blk.new _ _ _
  have hB_w3 := hB_w2.next hb3
  have hb3' := hb3
  have hL3 : MLs w3 (· < w3.heap.size) awM33 (.slice Am (newM awI33.mem.toNat awI33.stacks.toNat []).m.length cm) (.slice Av (newM awI33.mem.toNat awI33.stacks.toNat []).s.length cv) (.slice none 0 0) (.slice Ai (newM awI33.mem.toNat awI33.stacks.toNat []).inp.length ci) (.slice none 0 0) sv := HMl.out.keep (fun b o hd => hb3.cell (p := ⟨b, o, none⟩) hd.2) (fun k hk => Nat.lt_of_lt_of_le hk.2 hb3.size) fun _ h => h
  have HR3 := Lib.hid (Rd.upL HR2.out hb3)
  replace H9 := Lib.hid (H9.out.next hb3)
  have HM3 := Lib.hid ((MLs.at_ hL3 KM))
  have HL3 := Lib.hid hL3
  have HIM := Lib.hid (H_1.out.next hb3)
  clear hw3 KM hb3 hL3 HR2 HMl HO HL T_1 z_1 F_1 H_1
  obtain ⟨z_1, T_1, F_1⟩ := HIM.out.open_
  go_wp2_with (refine wpList_loadG 30 rfl rfl rfl (load_mach HM3.out) ?_; simp only [Act.put, List.setIfInBounds_toArray, List.set_cons_succ, List.set_cons_zero])
  refine (show Calls Tryd.prog 18 #[_, _] w3 _ from c_DNewOk (some ⟨w.heap.size + 1, 0, none⟩) 3 3 awI33 awM33 _ _ _ _ _ sv w3 HR3.out aw33_codeWf HL3.out (by decide) (by decide) (HT.out.next hB_w3) aw33_check aw33_env.ft (aw33_env.bd 0 (by omega))).mono ?_
  rintro e w4 ⟨P, A', n', cap', rfl, hV, hA, hO, hfx, -, hb4⟩
  have hB_w4 := hB_w3.next hb4
  replace H9 := Lib.hid (H9.out.next hb4)
  have HV := Lib.hid hV; have HA := Lib.hid hA; have HO := Lib.hid hO
  have hzw : w.heap.size ≤ w3.heap.size := hB_w3.size
  have z93 : w.heap.size < w3.heap.size := by have := hb3'.size; have := hb2'.size; omega
  have BEL : Hid (∀ wz, Fr (fun k => w3.heap.size ≤ k) w4 wz → Below w.heap.size w wz) := Lib.hid fun wz hf => hB_w4.trans (hf.below (B := w.heap.size) (by have := hB_w4.size; omega) (fun k hk => by omega))
  have HOB : Hid (∀ k, P.O k → w3.heap.size ≤ k) := Lib.hid fun k h => (HO.out k h).1
  clear hb2' hb3' hV hA hO hfx hb4 HIM T_1 z_1 F_1 HM3 HL3 HR3
  go_wp2_with fail
  refine (show Calls Tryd.prog 13 #[_, .int .i64 2] w4 _ from c_SeekOk HV.out aw33_env (j := 0) (by omega) (by omega) (t := 2) (by omega) (by omega) aw33_ran2 HA.out).mono ?_
  rintro e w5 ⟨rfl, hA5, hf5⟩
  have HV5 := Lib.hid (HV.out.fr hf5); have HA5 := Lib.hid hA5
  have HF5 := Lib.hid ((Fr.refl (fun k => w3.heap.size ≤ k) w4).trans (hf5.mono HOB.out))
  have zs5 := hf5.size
  replace H9 := Lib.hid (hf5.blk H9.out (fun h => by have := (HO.out _ h).2; have := (HO.out _ h).1; omega))
  clear hA5 hf5
  go_wp2_with fail
  refine (c_DMachine HV5.out aw33_env (j := 2) (by omega) HA5.out).mono ?_
  rintro e w6 ⟨vma, vsa, vca, via, voa, sva, rfl, hO6, hb6⟩
  have HV6 := Lib.hid (HV5.out.next hb6); have HA6 := Lib.hid (HA5.out.next hb6); have HF6 := Lib.hid (HF5.out.next hb6)
  have zs6 := hb6.size
  have hrla : (tr awI33.code awM33 2).r.length = 16 := hO6.1
  have HLa := Lib.hid (mc_len (tr awI33.code awM33 2) vma vsa vca via voa hO6.1)
  have HONEa : Hid (∀ v ∈ mcells (tr awI33.code awM33 2) vma vsa vca via voa, v.oneCell' = true) := Lib.hid (by
    obtain ⟨_, _, rfl, _⟩ := hO6.mls.m; obtain ⟨_, _, rfl, _⟩ := hO6.mls.s; obtain ⟨_, _, rfl, _⟩ := hO6.mls.l.2.1; obtain ⟨_, _, rfl, _⟩ := hO6.mls.l.2.2.1; obtain ⟨_, _, rfl, _⟩ := hO6.mls.l.2.2.2
    exact mc_one rfl rfl rfl rfl rfl)
  replace H9 := Lib.hid (H9.out.next hb6)
  clear hO6 hb6
  go_upto_region 7 with (refine wpList_store_row rfl 30 (.tmp 8) (.tmp 34) rfl w6.heap.size _ rfl rfl 30 #[.int .i64 0, .int .i64 0, .int .i64 0, .int .i64 0, .int .i64 0, .int .i64 0, .int .i64 0, .int .i64 0, .int .i64 0, .int .i64 0, .int .i64 0, .int .i64 0, .int .i64 0, .int .i64 0, .int .i64 0, .int .i64 0, .int .i64 0, .int .i64 0, .slice none 0 0, .slice none 0 0, .slice none 0 0, .int .i64 0, .int .i64 0, .slice none 0 0, .slice none 0 0] (heap_alloc_new w6 _) (by rw [info_mach25]; simp [HLa.out]) (by simp [HLa.out]) (all_oneCell_toArray HONEa.out) ?_; simp only [Act.put, List.setIfInBounds_toArray, List.set_cons_succ, List.set_cons_zero])
  refine wp_nameY ?_
  intro w7 hw7
  rw [World.setRow_alloc_new] at hw7
  have hb7 : Below w6.heap.size w6 w7 := by rw [hw7]; exact (by repeat' (first | (with_reducible assumption) | (with_reducible exact Below.refl _ _) | (with_reducible refine Below.alloc ?_ ?_ _) | (with_reducible refine Bk.drewN_ ?_ _) | (with_reducible refine Below.drew ?_) | (with_reducible refine Below.setCell ?_ ?_ _) | go_size))
  have HKa : Hid (Blk w7 w6.heap.size 30 (mcells (tr awI33.code awM33 2) vma vsa vca via voa).toArray) := Lib.hid (by rw [hw7]; exact Blk.new _ _ _)
  have HV7 := Lib.hid (HV6.out.next hb7); have HA7 := Lib.hid (HA6.out.next hb7); have HF7 := Lib.hid (HF6.out.next hb7)
  have zs7 : w6.heap.size < w7.heap.size := HKa.out.lt
  replace H9 := Lib.hid (H9.out.next hb7)
  clear hw7 hb7
  go_wp2_with fail
  refine (show Calls Tryd.prog 13 #[_, .int .i64 1] w7 _ from c_SeekOk HV7.out aw33_env (j := 2) (by omega) (by omega) (t := 1) (by omega) (by omega) aw33_ran1 HA7.out).mono ?_
  rintro e w8 ⟨rfl, hA8, hf8⟩
  have HV8 := Lib.hid (HV7.out.fr hf8); have HA8 := Lib.hid hA8
  have HF8 := Lib.hid (HF7.out.trans (hf8.mono HOB.out))
  have zs8 := hf8.size
  replace H9 := Lib.hid (hf8.blk H9.out (fun h => by have := (HO.out _ h).2; have := (HO.out _ h).1; omega))
  replace HKa := Lib.hid (hf8.blk HKa.out (fun h => by have := (HO.out _ h).2; have := (HO.out _ h).1; omega))
  clear hA8 hf8
  go_wp2_with fail
  refine (c_DMachine HV8.out aw33_env (j := 1) (by omega) HA8.out).mono ?_
  rintro e w9 ⟨vmb, vsb, vcb, vib, vob, svb, rfl, hO9, hb9⟩
  have HV9 := Lib.hid (HV8.out.next hb9); have HA9 := Lib.hid (HA8.out.next hb9); have HF9 := Lib.hid (HF8.out.next hb9)
  have zs9 := hb9.size
  have hrlb : (tr awI33.code awM33 1).r.length = 16 := hO9.1
  have HLb := Lib.hid (mc_len (tr awI33.code awM33 1) vmb vsb vcb vib vob hO9.1)
  have HONEb : Hid (∀ v ∈ mcells (tr awI33.code awM33 1) vmb vsb vcb vib vob, v.oneCell' = true) := Lib.hid (by
    obtain ⟨_, _, rfl, _⟩ := hO9.mls.m; obtain ⟨_, _, rfl, _⟩ := hO9.mls.s; obtain ⟨_, _, rfl, _⟩ := hO9.mls.l.2.1; obtain ⟨_, _, rfl, _⟩ := hO9.mls.l.2.2.1; obtain ⟨_, _, rfl, _⟩ := hO9.mls.l.2.2.2
    exact mc_one rfl rfl rfl rfl rfl)
  replace H9 := Lib.hid (H9.out.next hb9)
  replace HKa := Lib.hid (HKa.out.next hb9)
  clear hO9 hb9
  go_upto_region 9 with (refine wpList_store_row rfl 30 (.tmp 10) (.tmp 38) rfl w9.heap.size _ rfl rfl 30 #[.int .i64 0, .int .i64 0, .int .i64 0, .int .i64 0, .int .i64 0, .int .i64 0, .int .i64 0, .int .i64 0, .int .i64 0, .int .i64 0, .int .i64 0, .int .i64 0, .int .i64 0, .int .i64 0, .int .i64 0, .int .i64 0, .int .i64 0, .int .i64 0, .slice none 0 0, .slice none 0 0, .slice none 0 0, .int .i64 0, .int .i64 0, .slice none 0 0, .slice none 0 0] (heap_alloc_new w9 _) (by rw [info_mach25]; simp [HLb.out]) (by simp [HLb.out]) (all_oneCell_toArray HONEb.out) ?_; simp only [Act.put, List.setIfInBounds_toArray, List.set_cons_succ, List.set_cons_zero])
  refine wp_nameY ?_
  intro w10 hw10
  rw [World.setRow_alloc_new] at hw10
  have hb10 : Below w9.heap.size w9 w10 := by rw [hw10]; exact (by repeat' (first | (with_reducible assumption) | (with_reducible exact Below.refl _ _) | (with_reducible refine Below.alloc ?_ ?_ _) | (with_reducible refine Bk.drewN_ ?_ _) | (with_reducible refine Below.drew ?_) | (with_reducible refine Below.setCell ?_ ?_ _) | go_size))
  have HKb : Hid (Blk w10 w9.heap.size 30 (mcells (tr awI33.code awM33 1) vmb vsb vcb vib vob).toArray) := Lib.hid (by rw [hw10]; exact Blk.new _ _ _)
  have HV10 := Lib.hid (HV9.out.next hb10); have HA10 := Lib.hid (HA9.out.next hb10); have HF10 := Lib.hid (HF9.out.next hb10)
  have zs10 : w9.heap.size < w10.heap.size := HKb.out.lt
  replace H9 := Lib.hid (H9.out.next hb10)
  replace HKa := Lib.hid (HKa.out.next hb10)
  clear hw10 hb10
  go_wp2_with fail
  refine (show Calls Tryd.prog 15 #[_] w10 (fun e w' => e = .returned (.tuple #[.agg #[.int .u8 4, .int .i64 1, .int .i64 7, .int .i64 0, .int .i64 0], .bool true]) ∧ Below w10.heap.size w10 w') from c_DNextIn HV10.out aw33_env (j := 1) (by omega) HA10.out 1 aw33_next (by decide)).mono ?_
  rintro e w11 ⟨rfl, hb11⟩
  have HV11 := Lib.hid (HV10.out.next hb11); have HA11 := Lib.hid (HA10.out.next hb11); have HF11 := Lib.hid (HF10.out.next hb11)
  have zs11 := hb11.size
  replace H9 := Lib.hid (H9.out.next hb11)
  replace HKa := Lib.hid (HKa.out.next hb11)
  replace HKb := Lib.hid (HKb.out.next hb11)
  clear hb11
  go_upto_region 10 with fail
  refine wp_nameY ?_
  intro w12 hw12
  have hb12 : Below w11.heap.size w11 w12 := by rw [hw12]; exact (by repeat' (first | (with_reducible assumption) | (with_reducible exact Below.refl _ _) | (with_reducible refine Below.alloc ?_ ?_ _) | (with_reducible refine Bk.drewN_ ?_ _) | (with_reducible refine Below.drew ?_) | (with_reducible refine Below.setCell ?_ ?_ _) | go_size))
  have HKn : Hid (Blk w12 w11.heap.size 38 #[.int .u8 4, .int .i64 1, .int .i64 7, .int .i64 0, .int .i64 0]) := Lib.hid (by rw [hw12]; exact (by repeat' (first | with_reducible assumption | (refine Blk.new' ?_ _ _; simp; done) | refine Blk.alloc ?_ _ | refine Blk.drewN ?_ _ | refine Blk.drew ?_)))
  have HV12 := Lib.hid (HV11.out.next hb12); have HA12 := Lib.hid (HA11.out.next hb12); have HF12 := Lib.hid (HF11.out.next hb12)
  have zs12 := HKn.out.lt
  replace H9 := Lib.hid (H9.out.next hb12)
  replace HKa := Lib.hid (HKa.out.next hb12)
  replace HKb := Lib.hid (HKb.out.next hb12)
  clear hw12 hb12
  go_wp2_with fail
  refine (show Calls Tryd.prog 13 #[_, .int .i64 3] w12 _ from c_SeekErr HV12.out aw33_env (j := 1) (by omega) (by omega) (t := 3) (k := 2) (ee := 4) (by omega) (by omega) (by omega) aw33_ran2 aw33_te2 (by decide) HA12.out).mono ?_
  rintro e w13 ⟨rfl, hA13, hf13⟩
  have HV13 := Lib.hid (HV12.out.fr hf13); have HA13 := Lib.hid hA13
  have HF13 := Lib.hid (HF12.out.trans (hf13.mono HOB.out))
  have zs13 := hf13.size
  replace H9 := Lib.hid (hf13.blk H9.out (fun h => by have := (HO.out _ h).2; have := (HO.out _ h).1; omega))
  replace HKa := Lib.hid (hf13.blk HKa.out (fun h => by have := (HO.out _ h).2; have := (HO.out _ h).1; omega))
  replace HKb := Lib.hid (hf13.blk HKb.out (fun h => by have := (HO.out _ h).2; have := (HO.out _ h).1; omega))
  replace HKn := Lib.hid (hf13.blk HKn.out (fun h => by have := (HO.out _ h).2; have := (HO.out _ h).1; omega))
  clear hA13 hf13
  have ca : w13.cell? ⟨w6.heap.size, 3, none⟩ = some (.int .i64 12) := by
    rw [HKa.out.cell 3, List.getElem?_toArray]
    have := (mc_get (M := tr awI33.code awM33 2) (vm := vma) (vs := vsa) (vc := vca) (vi := via) (vo := voa) hrla).2.2.1 1 (by decide)
    rw [show tr awI33.code awM33 2 = _ from aw33_tr2] at this ⊢
    exact this
  have cb : w13.cell? ⟨w9.heap.size, 3, none⟩ = some (.int .i64 5) := by
    rw [HKb.out.cell 3, List.getElem?_toArray]
    have := (mc_get (M := tr awI33.code awM33 1) (vm := vmb) (vs := vsb) (vc := vcb) (vi := vib) (vo := vob) hrlb).2.2.1 1 (by decide)
    rw [show tr awI33.code awM33 1 = _ from aw33_tr1] at this ⊢
    exact this
  have za : w6.heap.size < w13.heap.size := HKa.out.lt
  have zb : w9.heap.size < w13.heap.size := HKb.out.lt
  obtain ⟨y_1, Y_1, G_1⟩ := H9.out.open_
  obtain ⟨y_2, Y_2, G_2⟩ := HKn.out.open_
  clear hrla hrlb
  go_wp2_with fail
  refine (c_DTime HV13.out HA13.out).mono ?_
  rintro e w14 ⟨rfl, hb14⟩
  have HFz := HF13.out.next hb14
  go_wp2_with fail
  go_ret
  exact ⟨rfl, BEL.out _ HFz⟩
end Go.Proofs.YtfpcblgkcbfdoaaDoor

/- The debugger, whole. -/
