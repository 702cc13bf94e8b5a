/- The walk of the law CpuRun. -/
import Derived.Test.YtmccbgnonmgbeaaDoorLwY
import Derived.Maps.AppendAt
import Derived.Test.YtmccbgnonmgbeaaDoorZREq
set_option linter.unusedVariables false
set_option linter.unusedSimpArgs false
namespace Bk
open Go Go.RowKit
/-- The machine after so many steps. -/
def traj (code : Prg) (M : Mach) : Nat → Mach
  | 0 => M
  | i + 1 => (Bk.step code (traj code M i)).2
theorem traj_sb {code : Prg} {M : Mach} {K : Nat} (h : SB K M) : ∀ j, SB (K + j) (traj code M j)
  | 0 => h
  | j + 1 => (traj_sb h j).step code
theorem MRd.grown {w w' : World} {D : Nat → Prop} {row : Option Nat} {b off : Nat} {M : Mach} {vm vs vc vi vo : Value} {sv : List Value} (h : MRd w D b off M vm vs vc vi vo sv) (hg : w.grownBy w' row) (hb : some b ≠ row) (hD : ∀ k, D k → some k ≠ row) : MRd w' D b off M vm vs vc vi vo sv :=
  h.fr (O := fun k => some k = row) ⟨hg.os, hg.tape, hg.output, hg.size, fun k hk ho => hg.block k hk ho⟩ hb fun k hk ho => hD k hk ho
theorem MAt.otherF {w w' : World} {P : Pl} {M : Mach} (h : MAt w P M) {O : Nat → Prop} (hf : Fr O w w') (h1 : ¬ O P.b) (h2 : ¬ O P.gm) (h3 : ¬ O P.gs) (hx : ∀ k, O k → P.fx k) {fx : Nat → Prop} (f1 : ∀ k, fx k → P.fx k ∨ w.heap.size ≤ k) (f2 : ∀ k, fx k → k < w'.heap.size) : MAt w' { P with fx := fx } M := by
  obtain ⟨vm, vs, vc, vi, vo, sv, h⟩ := h
  have h' := h.other hf h1 h2 h3 hx
  refine ⟨vm, vs, vc, vi, vo, sv, h'.hoff, h'.rl, h'.blk, h'.m, h'.s, h'.gm, h'.gs, h'.am, h'.as_, ?_, f2⟩
  refine h.l.keep (fun b o hd => hf.cell hd.1 (fun ho => hd.2 (.inr (.inr (.inr (hx b ho))))) o) fun k hk => ⟨Nat.lt_of_lt_of_le hk.1 hf.size, fun ho => ?_⟩
  rcases ho with e | e | e | e
  · exact hk.2 (.inl e)
  · exact hk.2 (.inr (.inl e))
  · exact hk.2 (.inr (.inr (.inl e)))
  · rcases f1 k e with e | e
    · exact hk.2 (.inr (.inr (.inr e)))
    · have := hk.1; omega
theorem Fr.ofGrown {w w' : World} {row : Option Nat} (hg : w.grownBy w' row) : Fr (fun k => some k = row) w w' := ⟨hg.os, hg.tape, hg.output, hg.size, fun k hk ho => hg.block k hk ho⟩
theorem Fr.more {O : Nat → Prop} {w w' w'' : World} {row : Option Nat} (h : Fr O w w') (hg : w'.grownBy w'' row) (hr : ∀ k, row = some k → w.heap.size ≤ k) : Fr O w w'' :=
  ⟨hg.os.trans h.os, hg.tape.trans h.tape, hg.output.trans h.output, Nat.le_trans h.size hg.size, fun k hk ho => (hg.block k (Nat.lt_of_lt_of_le hk h.size) (fun e => by have := hr k e.symm; omega)).trans (h.block k hk ho)⟩
/-- A list of pointers to machines that lie apart. -/
def Seen (w : World) (B : Nat) (t : TypeId) (v : Value) (n : Nat) (ms : Nat → Mach) : Prop :=
  ∃ bs : List Nat, bs.length = n ∧ w.ownsRow B t 1 v n (bs.map fun b => .pointer (some ⟨b, 0, none⟩)) ∧ ∀ i, i < n → ∃ lo hi, B ≤ lo ∧ lo ≤ bs.getD i 0 ∧ bs.getD i 0 < hi ∧ hi ≤ w.heap.size ∧ (∀ g, v.ownBlock = some g → g < lo ∨ hi ≤ g) ∧
    ∃ vm vs vc vi vo sv, MRd w (fun k => lo ≤ k ∧ k < hi) (bs.getD i 0) 0 (ms i) vm vs vc vi vo sv
theorem own_lt {w : World} {B g n : Nat} {t : TypeId} {v : Value} {xs : List Value} (h : w.ownsRow B t 1 v n xs) (hg : v.ownBlock = some g) : B ≤ g ∧ g < w.heap.size := by
  rcases h.2 with ⟨rfl, _⟩ | ⟨g', cap, cur, rfl, hB, hh, _⟩
  · simp [Value.ownBlock] at hg
  · simp [Value.ownBlock] at hg
    subst hg
    exact ⟨hB, (Array.getElem?_eq_some_iff.1 hh).1⟩
theorem own_fr {w w' : World} {B n : Nat} {t : TypeId} {v : Value} {xs : List Value} {O : Nat → Prop} (h : w.ownsRow B t 1 v n xs) (hf : Fr O w w') (hO : ∀ k, O k → k < B) : w'.ownsRow B t 1 v n xs := by
  refine ⟨h.1, ?_⟩
  rcases h.2 with h1 | ⟨g, cap, cur, rfl, hB, hh, h2⟩
  · exact .inl h1
  · exact .inr ⟨g, cap, cur, rfl, hB, (hf.block g (Array.getElem?_eq_some_iff.1 hh).1 (fun ho => by have := hO g ho; omega)).trans hh, h2⟩
theorem Seen.nil (w : World) (B : Nat) (t : TypeId) (ms : Nat → Mach) : Seen w B t (.slice none 0 0) 0 ms := ⟨[], rfl, ⟨rfl, .inl ⟨rfl, rfl⟩⟩, fun i hi => by omega⟩
theorem Seen.fr {w w' : World} {B n : Nat} {t : TypeId} {v : Value} {ms : Nat → Mach} {O : Nat → Prop} (h : Seen w B t v n ms) (hf : Fr O w w') (hO : ∀ k, O k → k < B) : Seen w' B t v n ms := by
  obtain ⟨bs, h1, h2, h3⟩ := h
  refine ⟨bs, h1, own_fr h2 hf hO, fun i hi => ?_⟩
  obtain ⟨lo, hi', q1, q2, q3, q4, q5, vm, vs, vc, vi, vo, sv, q6⟩ := h3 i hi
  exact ⟨lo, hi', q1, q2, q3, Nat.le_trans q4 hf.size, q5, _, _, _, _, _, _, q6.fr hf (fun ho => by have := hO _ ho; omega) fun k hk ho => by have := hO k ho; have := hk.1; omega⟩
theorem Seen.next {w w' : World} {B n : Nat} {t : TypeId} {v : Value} {ms : Nat → Mach} (h : Seen w B t v n ms) (hb : Below w.heap.size w w') : Seen w' B t v n ms :=
  h.fr (O := fun _ => False) ⟨hb.os, hb.tape, hb.output, hb.size, fun k hk _ => hb.block k hk⟩ fun _ h => h.elim
theorem Seen.push {w w' : World} {B n b lo hi : Nat} {t : TypeId} {v v' : Value} {ms : Nat → Mach} {bs : List Nat} (h1 : bs.length = n)
    (h3 : ∀ i, i < n → ∃ lo hi, B ≤ lo ∧ lo ≤ bs.getD i 0 ∧ bs.getD i 0 < hi ∧ hi ≤ w.heap.size ∧ (∀ g, v.ownBlock = some g → g < lo ∨ hi ≤ g) ∧ ∃ vm vs vc vi vo sv, MRd w (fun k => lo ≤ k ∧ k < hi) (bs.getD i 0) 0 (ms i) vm vs vc vi vo sv)
    (p1 : B ≤ lo) (p2 : lo ≤ b) (p3 : b < hi) (p4 : hi ≤ w.heap.size) (p5 : ∀ g, v.ownBlock = some g → g < lo) {vm vs vc vi vo : Value} {sv : List Value} (p6 : MRd w (fun k => lo ≤ k ∧ k < hi) b 0 (ms n) vm vs vc vi vo sv)
    (a1 : w'.ownsRow B t 1 v' (n + 1) (bs.map (fun b => .pointer (some ⟨b, 0, none⟩)) ++ [.pointer (some ⟨b, 0, none⟩)])) (a2 : w.grownBy w' v.ownBlock) (a3 : v'.ownBlock = v.ownBlock ∨ v'.ownBlock = some w.heap.size) : Seen w' B t v' (n + 1) ms := by
  refine ⟨bs ++ [b], by simp [h1], by simpa using a1, fun i hi' => ?_⟩
  have far : ∀ lo hi : Nat, hi ≤ w.heap.size → (∀ g, v.ownBlock = some g → g < lo ∨ hi ≤ g) → ∀ g, v'.ownBlock = some g → g < lo ∨ hi ≤ g := by
    intro lo hi hh hg g hv
    rcases a3 with e | e
    · exact hg g (e ▸ hv)
    · rw [e] at hv; injection hv with hv; exact .inr (by omega)
  rcases Nat.lt_or_ge i n with hlt | hge
  · have e : (bs ++ [b]).getD i 0 = bs.getD i 0 := by rw [List.getD_eq_getElem?_getD, List.getD_eq_getElem?_getD, List.getElem?_append_left (by omega)]
    rw [e]
    obtain ⟨lo', hi'', q1, q2, q3, q4, q5, vm', vs', vc', vi', vo', sv', q6⟩ := h3 i hlt
    exact ⟨lo', hi'', q1, q2, q3, Nat.le_trans q4 a2.size, far _ _ q4 q5, _, _, _, _, _, _, q6.grown a2 (fun e => by rcases q5 _ e.symm with h | h <;> omega) fun k hk e => by rcases q5 _ e.symm with h | h <;> (have := hk.1; have := hk.2; omega)⟩
  · obtain rfl : i = n := by omega
    have e : (bs ++ [b]).getD i 0 = b := by rw [List.getD_eq_getElem?_getD, List.getElem?_append_right (by omega)]; simp [h1]
    rw [e]
    exact ⟨lo, hi, p1, p2, p3, Nat.le_trans p4 a2.size, far _ _ p4 (fun g hg => .inl (p5 g hg)), _, _, _, _, _, _, p6.grown a2 (fun e => by have := p5 _ e.symm; omega) fun k hk e => by have := p5 _ e.symm; have := hk.1; omega⟩
/-- The pointer with the number i, and its machine. -/
theorem Seen.get {w : World} {B n : Nat} {t : TypeId} {v : Value} {ms : Nat → Mach} (h : Seen w B t v n ms) {i : Nat} (hi : i < n) :
    ∃ g cap b, v = .slice (some ⟨g, 0, none⟩) n cap ∧ B ≤ g ∧ g < w.heap.size ∧ w.cell? ⟨g, i, none⟩ = some (.pointer (some ⟨b, 0, none⟩)) ∧ ∃ lo hi, B ≤ lo ∧ lo ≤ b ∧ ∃ vm vs vc vi vo sv, MRd w (fun k => lo ≤ k ∧ k < hi) b 0 (ms i) vm vs vc vi vo sv := by
  obtain ⟨bs, h1, h2, h3⟩ := h
  obtain ⟨lo, hi', q1, q2, q3, q4, q5, q6⟩ := h3 i hi
  obtain ⟨g, cap, rfl, hB, hlt, _, _, hc⟩ := own_some h2 (by omega)
  refine ⟨g, cap, bs.getD i 0, rfl, hB, hlt, hc i _ ?_, lo, hi', q1, q2, q6⟩
  rw [List.getElem?_map, List.getD_eq_getElem?_getD, List.getElem?_eq_getElem (by omega)]; rfl
end Bk
namespace Go.Proofs.YtmccbgnonmgbeaaDoor
open Go.RowKit Bk
theorem info_ptr : (Tryd.prog.info? 35).map (fun i => (i.zero, i.size, i.bytes)) = some (some (.pointer none), 1, 8) := by kernel_rfl
theorem traj_fit {im : Img} (hv : im.check.2 = 0) (hw : CodeWf im.code) {M : Mach} (hf : Fit im M) : ∀ j, Fit im (traj im.code M j)
  | 0 => hf
  | j + 1 => Fit_step hv hw (traj_fit hv hw hf j)
set_option maxRecDepth 100000 in
set_option maxHeartbeats 8000000 in
theorem c_lawCpuRun (A : Option Addr) (n cap : Nat) (im : Img) (M : Mach) (vm vs vc vi vo : Value) (sv : List Value) (w : World) (hC : Rd w (· < w.heap.size) 5 A n (codeCells im.code)) (hw : CodeWf im.code) (hL : MLs w (· < w.heap.size) M vm vs vc vi vo sv) (hwf : MWf M) (hl : ∀ l ∈ M.s, l.length ≤ 281474976710656) (hTab : TableAt w) (st : Int) (st0 : 0 ≤ st) (st1 : st ≤ 255) :
    Calls Tryd.prog 5 #[.agg #[.slice A n cap, .int .i64 im.mem, .int .i64 im.stacks], .agg (mcells M vm vs vc vi vo).toArray, .int .u8 st] w fun e w' => e = .returned (.bool true) ∧ Below w.heap.size w w' := by
  have hn : n = im.code.length := by have := hC.1; rw [codeCells_length] at this; omega
  obtain ⟨v, hv⟩ : ∃ v, okB im M = v := ⟨_, rfl⟩
  have HC := Lib.hid hC; have HT := Lib.hid hTab; have HL := Lib.hid hL; have HLL := Lib.hid hl; have HN := Lib.hid hn; have HV := Lib.hid hv; have HWF := Lib.hid hwf
  clear hC hTab hL hl hn hv hwf
  obtain ⟨k60, hk60, hk6⟩ : ∃ k : Nat, st.tmod 60 = (k : Int) ∧ k < 60 := ⟨(st.tmod 60).toNat, by rw [Int.tmod_eq_emod_of_nonneg st0]; omega, by rw [Int.tmod_eq_emod_of_nonneg st0]; omega⟩
  go_enter Tryd.func5, Tryd.ntmps5
  go_upto_region 1 with fail
  refine wp_nameY ?_
  intro w1 hw1
  have hB_w1 : Below w.heap.size w w1 := by rw [hw1]; exact (by repeat' (first | (with_reducible assumption) | (with_reducible exact Below.refl _ _) | (with_reducible refine Below.alloc ?_ ?_ _) | (with_reducible refine Bk.drewN_ ?_ _) | (with_reducible refine Below.drew ?_) | (with_reducible refine Below.setCell ?_ ?_ _) | go_size))
  have K_1 : Blk w1 w.heap.size 24 #[.slice A n cap, .int .i64 im.mem, .int .i64 im.stacks] := by rw [hw1]; exact (by repeat' (first | with_reducible assumption | (refine Blk.new' ?_ _ _; simp; done) | refine Blk.alloc ?_ _ | refine Blk.drewN ?_ _ | refine Blk.drew ?_))
  have KM : Blk w1 (w.heap.size + 1) 30 (mcells M vm vs vc vi vo).toArray := by rw [hw1]; exact (by repeat' (first | with_reducible assumption | (refine Blk.new' ?_ _ _; simp; done) | refine Blk.alloc ?_ _ | refine Blk.drewN ?_ _ | refine Blk.drew ?_))
  have HM := Lib.hid ((HL.out.next hB_w1).at_ KM)
  have zz : w1.heap.size = w.heap.size + 2 := by rw [hw1]; simp
  clear hw1 KM
  obtain ⟨z_1, T_1, F_1⟩ := K_1.open_; have H_1 := Lib.hid K_1; clear K_1
  go_wp2_with fail
  refine (c_awake24 _ (HT.out.next hB_w1)).mono ?_
  rintro e w2 ⟨rfl, hb2⟩
  have hB_w2 := hB_w1.next hb2
  replace HM := Lib.hid (HM.out.next hb2)
  have K_1 : Blk w2 (w.heap.size) 24 #[.slice A n cap, .int .i64 im.mem, .int .i64 im.stacks] := Blk.next (by repeat' (first | with_reducible exact H_1.out | with_reducible exact K0_1 | (refine Blk.new' ?_ _ _; simp; done) | with_reducible refine Blk.alloc ?_ _ | with_reducible refine Blk.drewN ?_ _ | with_reducible refine Blk.drew ?_)) hb2; (try clear H_1); (try clear T_1); (try clear z_1); (try clear F_1); obtain ⟨z_1, T_1, F_1⟩ := K_1.open_; have H_1 := Lib.hid K_1; clear K_1
  have z2 := hb2.size
  clear hb2
  go_wp2_with (refine wpList_loadG 30 rfl rfl rfl (load_mach HM.out) ?_; simp only [Act.put, List.setIfInBounds_toArray, List.set_cons_succ, List.set_cons_zero])
  refine (c_fits24 (HL.out.next hB_w2) A n cap im HN.out HLL.out (HC.out.next hB_w2) hw (HT.out.next hB_w2) HV.out).mono ?_
  rintro e w3 ⟨rfl, hb3⟩
  have hB_w3 := hB_w2.next hb3
  replace HM := Lib.hid (HM.out.next hb3)
  have K_1 : Blk w3 (w.heap.size) 24 #[.slice A n cap, .int .i64 im.mem, .int .i64 im.stacks] := Blk.next (by repeat' (first | with_reducible exact H_1.out | with_reducible exact K0_1 | (refine Blk.new' ?_ _ _; simp; done) | with_reducible refine Blk.alloc ?_ _ | with_reducible refine Blk.drewN ?_ _ | with_reducible refine Blk.drew ?_)) hb3; (try clear H_1); (try clear T_1); (try clear z_1); (try clear F_1); obtain ⟨z_1, T_1, F_1⟩ := K_1.open_; have H_1 := Lib.hid K_1; clear K_1
  have z3 := hb3.size
  clear hb3
  cases v with
  | false =>
    go_wp2_with fail
    refine (c_awake24 _ (HT.out.next hB_w3)).mono ?_
    rintro e w4 ⟨rfl, hb4⟩
    have hB_w4 := hB_w3.next hb4
    go_wp2_with fail
    go_ret
    exact ⟨rfl, hB_w4⟩
  | true =>
    obtain ⟨hck, hfit, hsb, h100⟩ := ok_facts HWF.out HV.out
    have hbd : MBd M := MBd.of hck hfit hsb (by omega)
    have HCK := Lib.hid hck; have HFIT := Lib.hid hfit; have HSB := Lib.hid hsb; have HBD := Lib.hid hbd
    clear hck hfit hsb hbd
    go_wp2_with fail
    refine (c_Clone HM.out HBD.out).mono ?_
    rintro e w4 ⟨bx, gmx, gsx, rfl, rx1, rx2, rx3, hcl, hb⟩
    have hB_w4 := hB_w3.next hb
    replace HM := Lib.hid (HM.out.next hb)
    have K_1 : Blk w4 (w.heap.size) 24 #[.slice A n cap, .int .i64 im.mem, .int .i64 im.stacks] := Blk.next (by repeat' (first | with_reducible exact H_1.out | with_reducible exact K0_1 | (refine Blk.new' ?_ _ _; simp; done) | with_reducible refine Blk.alloc ?_ _ | with_reducible refine Blk.drewN ?_ _ | with_reducible refine Blk.drew ?_)) hb; (try clear H_1); (try clear T_1); (try clear z_1); (try clear F_1); obtain ⟨z_1, T_1, F_1⟩ := K_1.open_; have H_1 := Lib.hid K_1; clear K_1
    have zw4 := hb.size
    obtain ⟨P, hP⟩ : ∃ P, P = (⟨bx, 30, [], [], 0, gmx, gsx, (· < w3.heap.size)⟩ : Pl) := ⟨_, rfl⟩
    have HX4 : Hid (MAt w4 P M) := Lib.hid (by rw [hP]; exact hcl)
    have hpb : P.b = bx := by rw [hP]
    have hpo : P.off = 0 := by rw [hP]
    have hx : ∀ k, P.O k → w3.heap.size ≤ k ∧ k < w4.heap.size := by
      obtain ⟨_, _, _, _, _, _, hb'⟩ := HX4.out
      have c1 := hb'.lt; have c2 := hb'.gm; have c3 := hb'.gs
      rw [hP] at c1 c2 c3
      dsimp only at c1 c2 c3
      intro k ho
      rw [hP] at ho; rcases ho with e | e | e <;> (dsimp only at e; omega)
    have HX := Lib.hid hx
    have bel : ∀ wz, Fr P.O w4 wz → Below w.heap.size w wz := fun wz hf => hB_w4.trans (hf.below (B := w.heap.size) (by have := hB_w4.size; omega) (fun k hk => by have := (hx k hk).1; omega))
    have BEL := Lib.hid bel; clear bel
    have envX : ∀ wz, Fr P.O w4 wz → Env wz P A n im.code := fun wz hf => Env.old HC.out hw HT.out (by omega) (BEL.out wz hf) (fun k hk ho => by have := (hx k ho).1; omega)
    have ENV := Lib.hid envX; clear envX hx hcl hb
    have TF := Lib.hid (traj_fit HCK.out hw HFIT.out)
    have TB : Hid (∀ j, j ≤ 100 → MBd (traj im.code M j)) := Lib.hid fun j hj => MBd.of HCK.out (TF.out j) (traj_sb HSB.out j) (by omega)
    have H4 := Lib.hid H_1.out
    have HM4 := Lib.hid HM.out
    clear HM
    go_wp2_with fail
    clear T_1 z_1 F_1 H_1
    have HOX : Hid (∀ k, P.O k → k < w4.heap.size) := Lib.hid fun k hk => (HX.out k hk).2
    obtain ⟨PX, hPX⟩ : ∃ PX : Value → Pl, PX = fun v => { P with fx := fun k => v.ownBlock = some k } := ⟨_, rfl⟩
    have hpb : ∀ v, (PX v).b = bx := fun v => by rw [hPX]; exact hpb
    have hpo : ∀ v, (PX v).off = 0 := fun v => by rw [hPX]; exact hpo
    have hPO : ∀ v, (PX v).O = P.O := fun v => by rw [hPX]; rfl
    have ENV : Hid (∀ v wz, Fr P.O w4 wz → Env wz (PX v) A n im.code) := Lib.hid fun v wz hf => by
      have h := ENV.out wz hf
      rw [hPX]; exact ⟨h.hC, h.hw, h.hT, h.hG, h.hl⟩
    have HX4 : Hid (MAt w4 (PX (.slice none 0 0)) M) := Lib.hid (by rw [hPX]; exact HX4.out.foreign (Below.refl _ _) (fun k hk => by simp [Value.ownBlock] at hk) (fun k hk => by simp [Value.ownBlock] at hk))
    have PUSH : Hid (∀ (wa wb : World) (v v' : Value) (N : Mach), MAt wa (PX v) N → wa.grownBy wb v.ownBlock → (∀ g, v.ownBlock = some g → w4.heap.size ≤ g) → (v'.ownBlock = v.ownBlock ∨ v'.ownBlock = some wa.heap.size) → (∀ g, v'.ownBlock = some g → g < wb.heap.size) → MAt wb (PX v') N) := Lib.hid fun wa wb v v' N h hg hv ha hb => by
      rw [hPX] at h ⊢
      have no : ∀ k, P.O k → ¬ (some k = v.ownBlock) := fun k hk e => by have := hv k e.symm; have := HOX.out k hk; omega
      refine h.otherF (Fr.ofGrown hg) (no _ (.inl rfl)) (no _ (.inr (.inl rfl))) (no _ (.inr (.inr rfl))) (fun k hk => hk.symm) (fun k hk => ?_) hb
      rcases ha with e | e
      · exact .inl (e.symm.trans hk)
      · rw [e] at hk; injection hk with hk; exact .inr (by omega)
    obtain ⟨i2, li, lz, ls, lb⟩ := info_parts info_ptr
    clear hPX
    go_loopw [8, 26] (fun v8 v26 wr => ∃ j : Nat, j ≤ k60 ∧ v26 = .int .i64 j ∧ (∀ i, i < j → (Bk.step im.code (traj im.code M i)).1 = 0) ∧ MAt wr (PX v8) (traj im.code M j) ∧ Fr P.O w4 wr ∧ Seen wr w4.heap.size 35 v8 j (traj im.code M)) (fun _ v _ => k60 - (intOf v).toNat)
    case atStart => exact ⟨0, Nat.zero_le _, rfl, fun i hi => absurd hi (Nat.not_lt_zero _), HX4.out, Fr.refl _ _, Seen.nil _ _ _ _⟩
    case round =>
      obtain ⟨j, hj, rfl, hok, hxj, hfj, hsj⟩ := hrel
      have HOK := Lib.hid hok; have HXJ := Lib.hid hxj; have HFJ := Lib.hid hfj; have HSJ := Lib.hid hsj
      clear hok hxj hfj hsj
      by_cases hlt : j < k60
      · have j1 : (j : Int) < (k60 : Int) := by omega
        obtain ⟨_, _, _, _, _, _, hX⟩ := MAt.rd HXJ.out
        rw [hpb, hpo] at hX
        have HXR := Lib.hid hX
        clear hX
        go_wp2_with fail
        refine (c_Clone HXR.out (TB.out j (by omega))).mono ?_
        rintro e w5 ⟨b5, gm5, gs5, rfl, r1, r2, r3, hcl, hb⟩
        obtain ⟨vm5, vs5, vc5, vi5, vo5, sv5, hR5⟩ := MAt.new hcl r2 r3
        have HR5 := Lib.hid hR5
        replace HXJ := Lib.hid (HXJ.out.next hb)
        have HF5 := Lib.hid (HFJ.out.next hb)
        have HS5 := Lib.hid (HSJ.out.next hb)
        have K_1 := HF5.out.blk H4.out (fun ho => by have := (HX.out _ ho).1; omega)
        obtain ⟨z_1, T_1, F_1⟩ := K_1.open_; clear K_1
        have zr5 := hb.size
        have zr4 := HFJ.out.size
        have hlt5 : b5 < w5.heap.size := HR5.out.lt
        have OWN : Hid (∀ g, u8.ownBlock = some g → w4.heap.size ≤ g ∧ g < wr.heap.size) := Lib.hid (by obtain ⟨bs, _, h2, _⟩ := HSJ.out; exact fun g hg => own_lt h2 hg)
        clear hcl hb hR5 HFJ HXR HSJ
        by_cases h0 : (Bk.step im.code (traj im.code M j)).1 = 0
        · have hst : Bk.step im.code (traj im.code M j) = (0, traj im.code M (j + 1)) := Prod.ext h0 rfl
          have HST := Lib.hid hst; have H0 := Lib.hid h0
          clear hst h0
          go_wp2_with fail
          obtain ⟨_, _, _, _, _, _, hX⟩ := HXJ.out
          have hs := c_Step hX cap im (ENV.out _ _ HF5.out) HCK.out (TF.out j) (TB.out j (by omega))
          rw [hpb, hpo] at hs
          refine (OnM.of hs HST.out.symm).mono ?_
          rintro e w6 ⟨rfl, hX6, hf⟩
          rw [hPO] at hf
          have HX6 := Lib.hid hX6
          have HF6 := Lib.hid (HF5.out.trans hf)
          have HS6 := Lib.hid (HS5.out.fr hf HOX.out)
          have HR6 := Lib.hid (HR5.out.fr hf (fun ho => by have := (HX.out _ ho).2; omega) fun k hk ho => by have := (HX.out _ ho).2; have := hk.1; omega)
          have zr6 := hf.size
          clear hX hs hX6 hf T_1 z_1 F_1 HXJ HF5 HS5 HR5
          have hal : Below w6.heap.size w6 (w6.alloc (.cells #[.pointer (some ⟨b5, 0, none⟩)] 35)) := (Below.refl _ _).alloc (Nat.le_refl _) _
          obtain ⟨bs, s1, s2, s3⟩ := HS6.out.next hal
          have S2 := Lib.hid s2; have S3 := Lib.hid s3; have HAL := Lib.hid hal
          clear s2 s3 hal HS6
          go_wp2_with (at_builtin; go_must (refine wpList_append_own_at _ rfl (.tmp 34) (.tmp 36) 41 rfl w4.heap.size 35 i2 (.pointer none) 1 8 Tryd.underlying41 li lz ls lb rfl (by decide) u8 j (bs.map fun b => .pointer (some ⟨b, 0, none⟩)) rfl S2.out ⟨w6.heap.size, 0, none⟩ 1 1 [.pointer (some ⟨b5, 0, none⟩)] rfl rfl (cell_one_new _ _ _) (by intro u hu; simp at hu; subst hu; rfl) (by unfold maxLen; omega) (by omega) (by simp; omega) ?_)); intro v' w7 a1 a2 _ a3
          have HS7 := Lib.hid (Seen.push s1 S3.out (lo := wr.heap.size) (hi := w5.heap.size) (by omega) r1 hlt5 (by simp; omega) (fun g hg => (OWN.out g hg).2) (HR6.out.next HAL.out) a1 a2 (by simpa using a3))
          have HX7 := Lib.hid (PUSH.out _ _ _ _ _ (HX6.out.next HAL.out) a2 (fun g hg => (OWN.out g hg).1) (by simpa using a3) (fun g hg => (own_lt a1 hg).2))
          have HF7 := Lib.hid ((HF6.out.next HAL.out).more a2 (fun g hg => (OWN.out g hg).1))
          clear S2 S3 HR6 HX6 HF6 HAL a1 a2 a3
          go_wp2_with fail
          exact ⟨⟨j + 1, by omega, by go_num, fun i hi => (Nat.lt_succ_iff_lt_or_eq.1 hi).elim (HOK.out i) (fun e => by subst e; exact H0.out), HX7.out, HF7.out, HS7.out⟩, by simp [intOf]; omega⟩
        · obtain ⟨ee, hee⟩ : ∃ ee, (Bk.step im.code (traj im.code M j)).1 = ee := ⟨_, rfl⟩
          have hNN : (Bk.step im.code (traj im.code M j)).2 = traj im.code M j := ErrB_step h0
          rw [hee] at h0
          have h0' : (ee != 0) = true := by simpa using h0
          have HEE := Lib.hid hee; have HNN := Lib.hid hNN
          clear h0 hee hNN
          obtain ⟨bs0, bs1, bs2, bs3⟩ := HS5.out
          obtain ⟨A8, c8, rfl⟩ := own_form bs2
          clear bs0 bs1 bs2 bs3
          go_wp2_with fail
          obtain ⟨_, _, _, _, _, _, hX⟩ := HXJ.out
          have hs := c_Step hX cap im (ENV.out _ _ HF5.out) HCK.out (TF.out j) (TB.out j (by omega))
          rw [hpb, hpo] at hs
          refine (OnM.of hs (y := (ee, traj im.code M j)) (Prod.ext HEE.out.symm HNN.out.symm)).mono ?_
          rintro e w6 ⟨rfl, hX6, hf⟩
          rw [hPO] at hf
          have HXK := Lib.hid hX6
          have HFK := Lib.hid (HF5.out.trans hf)
          have HSK := Lib.hid (HS5.out.fr hf HOX.out)
          have hjk : j ≤ 60 := by omega
          clear hX hs hX6 hf T_1 z_1 F_1 HXJ HF5 HS5 HR5 j1 hj hlt OWN
          go_wp2_with fail
          go_loopw [10] (fun v10 wq => ∃ q : Nat, q ≤ j ∧ v10 = .int .i64 ((q : Int) - 1) ∧ MAt wq (PX (.slice A8 j c8)) (traj im.code M q) ∧ Fr P.O w6 wq) (fun v _ => (intOf v + 1).toNat)
          case atStart => exact ⟨j, Nat.le_refl _, rfl, HXK.out, Fr.refl _ _⟩
          case round =>
            obtain ⟨q, hq, rfl, hxq, hfq⟩ := hrel
            have HXZ := Lib.hid hxq; have HFQ := Lib.hid hfq
            have HFZ := Lib.hid (HFK.out.trans hfq)
            clear hxq hfq
            rcases q with _ | p
            · rw [show (((0 : Nat) : Int) - 1) = -1 by omega]
              replace HXZ : Hid (MAt _ (PX (.slice A8 j c8)) M) := HXZ
              go_wp2_with fail
              have hBcur := BEL.out _ HFZ.out
              refine wp_region_grow (by kernel_rfl) (by kernel_rfl) ?_; intro W hW; have hneW : Nonempty (Grw W) := ⟨⟨W, Below.refl _ _⟩⟩; have HBz := Lib.hid (fun z => Below.next (show Below w.heap.size w W by (rw [hW]; exact (by repeat' (first | (with_reducible assumption) | (with_reducible exact Below.refl _ _) | (with_reducible refine Below.alloc ?_ ?_ _) | (with_reducible refine Bk.drewN_ ?_ _) | (with_reducible refine Below.drew ?_) | (with_reducible refine Below.setCell ?_ ?_ _) | go_size)))) (grow_below W z))
              obtain ⟨_, _, _, _, _, _, hA⟩ := MAt.rd HXZ.out
              rw [hpb, hpo] at hA
              have hM := HM4.out.fr HFZ.out (fun ho => by have := (HX.out _ ho).1; omega) (fun k hk ho => by have := (HX.out _ ho).1; omega)
              have zA := fun z => hA.next (w' := grow W z) (by rw [← hW]; exact grow_below W z)
              have zM := fun z => hM.next (w' := grow W z) (by rw [← hW]; exact grow_below W z)
              have lA := fun z => load_mach (zA z); have lM := fun z => load_mach (zM z)
              have ZA := Lib.hid zA; have ZM := Lib.hid zM
              have HW := Lib.hid hW; clear hW hA hM zA zM
              have LA := Lib.hid lA; have LM := Lib.hid lM
              clear lA lM
              repeat (first | (go_big_quiet_want; refine quiet_loadG 30 rfl rfl (LA.out) ?_; go_big_quiet_on; simp only [Act.put, List.setIfInBounds_toArray, List.set_cons_succ, List.set_cons_zero]) | (go_big_quiet_want; refine quiet_loadG 30 rfl rfl (LM.out) ?_; go_big_quiet_on; simp only [Act.put, List.setIfInBounds_toArray, List.set_cons_succ, List.set_cons_zero]) | go_big_quiet_step ((go_at_call 17; with_reducible exact quiet_grow (c_REqT (ZA.out _).mls (ZM.out _).mls HBD.out))))
              refine wpQuiet_nil ?_
              rintro _ ⟨z, rfl⟩
              have hb := grow_below W z
              generalize grow W z = wz at hb ⊢
              rw [HW.out] at hb
              have hBz := (BEL.out _ HFZ.out).next hb
              clear HW HBz hneW
              go_wp2_with fail
              go_ret
              exact ⟨rfl, hBz⟩
            · rw [show (((p + 1 : Nat) : Int) - 1) = (p : Int) by omega]
              have p0 : (0 : Int) ≤ (p : Int) := by omega
              have p1 : (p : Int) < (j : Int) := by omega
              obtain ⟨gq, cq, bq, hvq, hgB, hgl, hcell, lo, hi, q1, q2, vmq, vsq, vcq, viq, voq, svq, hRq⟩ := (HSK.out.fr HFQ.out HOX.out).get (i := p) (by omega)
              injection hvq with hvq _ hcq
              subst hvq; subst hcq
              have K_1 := HFZ.out.blk H4.out (fun ho => by have := (HX.out _ ho).1; omega)
              obtain ⟨z_1, T_1, F_1⟩ := K_1.open_; clear K_1
              have HCQ := Lib.hid hcell; have HRQ := Lib.hid hRq
              clear hcell hRq
              go_wp2_with fail
              obtain ⟨_, _, _, _, _, _, hX⟩ := HXZ.out
              have hs := c_Back hX cap im (ENV.out _ _ HFZ.out) HCK.out (TF.out (p + 1)) (TB.out (p + 1) (by omega))
              rw [hpb, hpo] at hs
              have hst : Bk.step im.code (traj im.code M p) = (0, traj im.code M (p + 1)) := Prod.ext (HOK.out p (by omega)) rfl
              have hun := (step_undo HCK.out hw (TF.out p) hst).2
              refine (OnM.of hs (y := (0, traj im.code M p)) (by rw [hun, turn_turn])).mono ?_
              rintro e w7 ⟨rfl, hX7, hf⟩
              rw [hPO] at hf
              have HX7 := Lib.hid hX7
              have HF7 := Lib.hid (HFQ.out.trans hf)
              have ec : w7.cell? ⟨gq, p, none⟩ = some (.pointer (some ⟨bq, 0, none⟩)) := (hf.cell hgl (fun ho => by have := HOX.out _ ho; omega) p).trans HCQ.out
              have HR7 := Lib.hid (HRQ.out.fr hf (fun ho => by have := HOX.out _ ho; omega) fun k hk ho => by have := HOX.out _ ho; have := hk.1; omega)
              obtain ⟨_, _, _, _, _, _, hA⟩ := MAt.rd HX7.out
              rw [hpb, hpo] at hA
              have HA7 := Lib.hid hA
              have hgl7 := Nat.lt_of_lt_of_le hgl hf.size
              clear hX hs hst hun hX7 hf hA T_1 z_1 F_1 HXZ HFZ HFQ HCQ HRQ
              go_wp2_with fail
              refine (c_EqualT HA7.out HR7.out (TB.out p (by omega))).mono ?_
              rintro e w8 ⟨rfl, hb8⟩
              have HX8 := Lib.hid (HX7.out.next hb8)
              have HF8 := Lib.hid (HF7.out.next hb8)
              clear hb8 ec
              go_wp2_with fail
              exact ⟨⟨p, by omega, by go_num, HX8.out, HF8.out⟩, by simp [intOf] <;> omega⟩
      · obtain rfl : j = k60 := by omega
        have HXK := HXJ; have HFK := HFJ; have HSK := HSJ
        have hjk : j ≤ 60 := by omega
        clear HXJ HFJ HSJ hj hlt
        obtain ⟨bs0, bs1, bs2, bs3⟩ := HSK.out
        obtain ⟨A8, c8, rfl⟩ := own_form bs2
        clear bs0 bs1 bs2 bs3
        go_wp2_with fail
        go_loopw [10] (fun v10 wq => ∃ q : Nat, q ≤ j ∧ v10 = .int .i64 ((q : Int) - 1) ∧ MAt wq (PX (.slice A8 j c8)) (traj im.code M q) ∧ Fr P.O wr wq) (fun v _ => (intOf v + 1).toNat)
        case atStart => exact ⟨j, Nat.le_refl _, rfl, HXK.out, Fr.refl _ _⟩
        case round =>
          obtain ⟨q, hq, rfl, hxq, hfq⟩ := hrel
          have HXZ := Lib.hid hxq; have HFQ := Lib.hid hfq
          have HFZ := Lib.hid (HFK.out.trans hfq)
          clear hxq hfq
          rcases q with _ | p
          · rw [show (((0 : Nat) : Int) - 1) = -1 by omega]
            replace HXZ : Hid (MAt _ (PX (.slice A8 j c8)) M) := HXZ
            go_wp2_with fail
            have hBcur := BEL.out _ HFZ.out
            refine wp_region_grow (by kernel_rfl) (by kernel_rfl) ?_; intro W hW; have hneW : Nonempty (Grw W) := ⟨⟨W, Below.refl _ _⟩⟩; have HBz := Lib.hid (fun z => Below.next (show Below w.heap.size w W by (rw [hW]; exact (by repeat' (first | (with_reducible assumption) | (with_reducible exact Below.refl _ _) | (with_reducible refine Below.alloc ?_ ?_ _) | (with_reducible refine Bk.drewN_ ?_ _) | (with_reducible refine Below.drew ?_) | (with_reducible refine Below.setCell ?_ ?_ _) | go_size)))) (grow_below W z))
            obtain ⟨_, _, _, _, _, _, hA⟩ := MAt.rd HXZ.out
            rw [hpb, hpo] at hA
            have hM := HM4.out.fr HFZ.out (fun ho => by have := (HX.out _ ho).1; omega) (fun k hk ho => by have := (HX.out _ ho).1; omega)
            have zA := fun z => hA.next (w' := grow W z) (by rw [← hW]; exact grow_below W z)
            have zM := fun z => hM.next (w' := grow W z) (by rw [← hW]; exact grow_below W z)
            have lA := fun z => load_mach (zA z); have lM := fun z => load_mach (zM z)
            have ZA := Lib.hid zA; have ZM := Lib.hid zM
            have HW := Lib.hid hW; clear hW hA hM zA zM
            have LA := Lib.hid lA; have LM := Lib.hid lM
            clear lA lM
            repeat (first | (go_big_quiet_want; refine quiet_loadG 30 rfl rfl (LA.out) ?_; go_big_quiet_on; simp only [Act.put, List.setIfInBounds_toArray, List.set_cons_succ, List.set_cons_zero]) | (go_big_quiet_want; refine quiet_loadG 30 rfl rfl (LM.out) ?_; go_big_quiet_on; simp only [Act.put, List.setIfInBounds_toArray, List.set_cons_succ, List.set_cons_zero]) | go_big_quiet_step ((go_at_call 17; with_reducible exact quiet_grow (c_REqT (ZA.out _).mls (ZM.out _).mls HBD.out))))
            refine wpQuiet_nil ?_
            rintro _ ⟨z, rfl⟩
            have hb := grow_below W z
            generalize grow W z = wz at hb ⊢
            rw [HW.out] at hb
            have hBz := (BEL.out _ HFZ.out).next hb
            clear HW HBz hneW
            go_wp2_with fail
            go_ret
            exact ⟨rfl, hBz⟩
          · rw [show (((p + 1 : Nat) : Int) - 1) = (p : Int) by omega]
            have p0 : (0 : Int) ≤ (p : Int) := by omega
            have p1 : (p : Int) < (j : Int) := by omega
            obtain ⟨gq, cq, bq, hvq, hgB, hgl, hcell, lo, hi, q1, q2, vmq, vsq, vcq, viq, voq, svq, hRq⟩ := (HSK.out.fr HFQ.out HOX.out).get (i := p) (by omega)
            injection hvq with hvq _ hcq
            subst hvq; subst hcq
            have K_1 := HFZ.out.blk H4.out (fun ho => by have := (HX.out _ ho).1; omega)
            obtain ⟨z_1, T_1, F_1⟩ := K_1.open_; clear K_1
            have HCQ := Lib.hid hcell; have HRQ := Lib.hid hRq
            clear hcell hRq
            go_wp2_with fail
            obtain ⟨_, _, _, _, _, _, hX⟩ := HXZ.out
            have hs := c_Back hX cap im (ENV.out _ _ HFZ.out) HCK.out (TF.out (p + 1)) (TB.out (p + 1) (by omega))
            rw [hpb, hpo] at hs
            have hst : Bk.step im.code (traj im.code M p) = (0, traj im.code M (p + 1)) := Prod.ext (HOK.out p (by omega)) rfl
            have hun := (step_undo HCK.out hw (TF.out p) hst).2
            refine (OnM.of hs (y := (0, traj im.code M p)) (by rw [hun, turn_turn])).mono ?_
            rintro e w7 ⟨rfl, hX7, hf⟩
            rw [hPO] at hf
            have HX7 := Lib.hid hX7
            have HF7 := Lib.hid (HFQ.out.trans hf)
            have ec : w7.cell? ⟨gq, p, none⟩ = some (.pointer (some ⟨bq, 0, none⟩)) := (hf.cell hgl (fun ho => by have := HOX.out _ ho; omega) p).trans HCQ.out
            have HR7 := Lib.hid (HRQ.out.fr hf (fun ho => by have := HOX.out _ ho; omega) fun k hk ho => by have := HOX.out _ ho; have := hk.1; omega)
            obtain ⟨_, _, _, _, _, _, hA⟩ := MAt.rd HX7.out
            rw [hpb, hpo] at hA
            have HA7 := Lib.hid hA
            have hgl7 := Nat.lt_of_lt_of_le hgl hf.size
            clear hX hs hst hun hX7 hf hA T_1 z_1 F_1 HXZ HFZ HFQ HCQ HRQ
            go_wp2_with fail
            refine (c_EqualT HA7.out HR7.out (TB.out p (by omega))).mono ?_
            rintro e w8 ⟨rfl, hb8⟩
            have HX8 := Lib.hid (HX7.out.next hb8)
            have HF8 := Lib.hid (HF7.out.next hb8)
            clear hb8 ec
            go_wp2_with fail
            exact ⟨⟨p, by omega, by go_num, HX8.out, HF8.out⟩, by simp [intOf] <;> omega⟩
end Go.Proofs.YtmccbgnonmgbeaaDoor
