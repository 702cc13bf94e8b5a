/- The walk of the law PeepholeKeeps. -/
import Derived.Test.YtfobnkgfbdmakaaDoorKept
import Derived.Test.YtfobnkgfbdmakaaDoorLawO
import Derived.Test.YtfobnkgfbdmakaaDoorAppC
set_option linter.unusedVariables false
namespace Go.Proofs.YtfobnkgfbdmakaaDoor
open Go.RowKit Bk

/-- What the function that lists the opcodes hands back: a slice that any later world converts to one string. -/
theorem c_Kept (A : Option Addr) (n cap : Nat) (code : Prg) (w : World) (hmax : n ≤ 65536) (hC : Rd w (· < w.heap.size) 5 A n (codeCells code)) (hw : CodeWf code) :
    Calls Tryd.prog 23 #[.slice A n cap] w fun e w' =>
      ∃ A' m c', e = .returned (.slice A' m c') ∧ (∀ w2, Below w'.heap.size w' w2 → (convert 44 9 (.slice A' m c')).run Tryd.prog w2 = .ok (.string (strOfNums ((code.filter keepB).map (·.op)))) w2) ∧ Below w.heap.size w w' := by
  have hn : n = code.length := by have := hC.1; rw [codeCells_length] at this; omega
  rcases Nat.eq_zero_or_pos n with h0 | h0
  · subst h0
    have hcode : code = [] := List.eq_nil_of_length_eq_zero hn.symm
    refine (Kept.none_ A cap w).mono fun e w' ⟨he, hb⟩ => ⟨none, 0, 0, he, fun w2 _ => ?_, hb⟩
    subst hcode
    exact run_convert_bytes_nil w2 _ _ Tryd.underlying44 Tryd.underlying5 0 0 _ Tryd.underlying9
  · obtain ⟨b, off, rfl, _, _⟩ := hC.2 h0
    refine (Kept.some_ b off n cap code w h0 hmax hC).mono fun e w' ⟨v, he, ho, hb⟩ => ?_
    have ex : opsAt code n = (code.filter keepB).map (·.op) := by rw [opsAt_eq code n (by omega), hn, List.take_length]
    rcases ho.2 with ⟨rfl, h1⟩ | ⟨g, c', cur, rfl, hg, hh, hnc, hcap, hsz, ht⟩
    · refine ⟨none, 0, 0, he, fun w2 _ => ?_, hb⟩
      have : opsAt code n = [] := List.eq_nil_of_length_eq_zero h1
      rw [← ex, this]
      exact run_convert_bytes_nil w2 _ _ Tryd.underlying44 Tryd.underlying5 0 0 _ Tryd.underlying9
    · refine ⟨_, _, _, he, fun w2 hb2 => ?_, hb⟩
      rw [← ex]
      refine run_convert_bytes_arg w2 _ _ Tryd.underlying44 Tryd.underlying5 g 0 _ _ (opsAt code n) rfl (fun i hi => ?_) _ Tryd.underlying9
      have hblk : Blk w' g 5 cur := hh
      rw [(hblk.next hb2).cell, Nat.zero_add, ← Array.getElem?_toList]
      have : (cur.toList.take ((opsAt code n).length * 1))[i]? = (oCells (opsAt code n))[i]? := by rw [ht]
      rw [List.getElem?_take, if_pos (by omega)] at this
      rw [this]
      simp [oCells, List.getD_eq_getElem?_getD, hi]
theorem c_Procs (A : Option Addr) (n cap : Nat) (im : Img) (w : World) (hmax : n ≤ 65536) (hC : Rd w (· < w.heap.size) 5 A n (codeCells im.code)) :
    Calls Tryd.prog 24 #[.agg #[.slice A n cap, .int .i64 im.mem, .int .i64 im.stacks]] w fun e w' =>
      ∃ A' c', e = .returned (.slice A' (im.code.filter fun x => decide (x.op = 32)).length c') ∧ Below w.heap.size w w' := by
  have hn : n = im.code.length := by have := hC.1; rw [codeCells_length] at this; omega
  rcases Nat.eq_zero_or_pos n with h0 | h0
  · subst h0
    have hcode : im.code = [] := List.eq_nil_of_length_eq_zero hn.symm
    refine (Procs.none_ A cap im.mem im.stacks w).mono fun e w' ⟨he, hb⟩ => ⟨none, 0, ?_, hb⟩
    rw [hcode]; exact he
  · obtain ⟨b, off, rfl, _, _⟩ := hC.2 h0
    refine (Procs.some_ b off n cap im w h0 hmax hC).mono fun e w' ⟨v, he, ho, hb⟩ => ?_
    have ex : (procsAt im.code n).length = (im.code.filter fun x => decide (x.op = 32)).length := by rw [procsAt_length im.code n (by omega), hn, List.take_length]
    obtain ⟨A', c', rfl⟩ := own_form ho
    rw [ex] at he
    exact ⟨A', c', he, hb⟩

theorem c_KeptV (A : Option Addr) (n cap : Nat) (code : Prg) {l : List Int} (w : World) (hl : (code.filter keepB).map (·.op) = l) (hmax : n ≤ 65536) (hC : Rd w (· < w.heap.size) 5 A n (codeCells code)) (hw : CodeWf code) :
    Calls Tryd.prog 23 #[.slice A n cap] w fun e w' =>
      ∃ A' m c', e = .returned (.slice A' m c') ∧ (∀ w2, Below w'.heap.size w' w2 → (convert 44 9 (.slice A' m c')).run Tryd.prog w2 = .ok (.string (strOfNums l)) w2) ∧ Below w.heap.size w w' := by
  rw [← hl]; exact c_Kept A n cap code w hmax hC hw
theorem c_ProcsV (A : Option Addr) (n cap : Nat) (im : Img) {k : Nat} (w : World) (hk : (im.code.filter fun x => decide (x.op = 32)).length = k) (hmax : n ≤ 65536) (hC : Rd w (· < w.heap.size) 5 A n (codeCells im.code)) :
    Calls Tryd.prog 24 #[.agg #[.slice A n cap, .int .i64 im.mem, .int .i64 im.stacks]] w fun e w' =>
      ∃ A' c', e = .returned (.slice A' k c') ∧ Below w.heap.size w w' := by
  rw [← hk]; exact c_Procs A n cap im w hmax hC

theorem keepB_ctl (x : Ins) (h : keepB x = true) : ctl x = true := by
  unfold keepB at h
  simp only [Bool.or_eq_true, decide_eq_true_eq] at h
  rcases h with ((h | h) | h) | h
  · exact tgt_ctl h
  · unfold ctl ctlB; rw [h]; decide
  · unfold ctl ctlB; rw [h]; decide
  · unfold ctl ctlB; rw [h]; decide
theorem keep_opt (c : Prg) : ((optCode c).filter keepB).map (·.op) = (c.filter keepB).map (·.op) := by
  rw [optCode_eq, List.filter_map, List.map_map]
  have h1 : (keepB ∘ re fun t => idxA (kept c) (kept c).length t.toNat) = keepB := by
    funext x
    simp only [Function.comp_apply, keepB, re_tgt, re_op]
  have h2 : ((fun x : Ins => x.op) ∘ re fun t => idxA (kept c) (kept c).length t.toNat) = fun x => x.op := by
    funext x; exact re_op _ x
  rw [h1, h2, nf_filter keepB_ctl]
theorem procs_opt (c : Prg) : ((optCode c).filter fun x => decide (x.op = 32)).length = (c.filter fun x => decide (x.op = 32)).length := by
  rw [optCode_eq, List.filter_map, List.length_map]
  have h1 : ((fun x : Ins => decide (x.op = 32)) ∘ re fun t => idxA (kept c) (kept c).length t.toNat) = fun x => decide (x.op = 32) := by
    funext x; simp only [Function.comp_apply, re_op]
  rw [h1, nf_filter]
  intro x hx
  simp only [decide_eq_true_eq] at hx
  unfold ctl ctlB; rw [hx]; decide

/-- Optimize of an image that is not valid. -/
theorem c_OptimizeB (A : Option Addr) (n cap : Nat) (im : Img) {ce : Int} (hce : im.check.2 = ce) (h0 : ce ≠ 0) (w : World) (hC : Rd w (· < w.heap.size) 5 A n (codeCells im.code)) (hw : CodeWf im.code) (hTab : TableAt w) :
    Calls Tryd.prog 17 #[.agg #[.slice A n cap, .int .i64 im.mem, .int .i64 im.stacks]] w fun e w' =>
      ∃ A' c, e = .returned (.tuple #[.agg #[.slice A' 0 c, .int .i64 0, .int .i64 0], .int .i64 ce]) ∧ Below w.heap.size w w' := by
  have := c_Optimize A n cap im w hC hw hTab
  have e : optimize im = (⟨[], 0, 0⟩, ce) := by unfold optimize; rw [if_neg (by rw [hce]; exact h0), hce]
  rw [e] at this
  refine this.mono fun e w' ⟨A', m, c, h1, h2, h3⟩ => ?_
  have hm : m = 0 := by have := h2.1; simp [codeCells] at this; omega
  subst hm
  exact ⟨A', c, h1, h3⟩

set_option maxRecDepth 100000 in
set_option maxHeartbeats 8000000 in
theorem Keeps.bad (A : Option Addr) (n cap : Nat) (im : Img) (w : World) (ce : Int) (h0 : ce ≠ 0) (h90 : n ≤ 90) (hA : A = none → n = 0 ∧ cap = 0) (hC : Rd w (· < w.heap.size) 5 A n (codeCells im.code)) (hw : CodeWf im.code) (hTab : TableAt w) (hce : im.check.2 = ce) :
    Calls Tryd.prog 7 #[.agg #[.slice A n cap, .int .i64 im.mem, .int .i64 im.stacks]] w fun e w' => e = .returned (.bool true) ∧ Below w.heap.size w w' := by
  have hn : n = im.code.length := by have := hC.1; rw [codeCells_length] at this; omega
  have hgt : decide ((90 : Int) < (n : Int)) = false := by simp; omega
  have hne : (ce != ce) = false := by simp
  have hne0 : (ce != 0) = true := by simpa using h0
  have hrem : removed im = 0 := by unfold removed; rw [if_neg (by rw [hce]; exact h0)]
  obtain ⟨ci, hci⟩ : ∃ x, im.check.1 = x := ⟨_, rfl⟩
  have hck : im.check = (ci, ce) := Prod.ext hci hce
  have HN := Lib.hid hn; have HT := Lib.hid hTab; have HC := Lib.hid hC; have HA := Lib.hid hA; have HCK := Lib.hid hck; have HCE := Lib.hid hce; have HREM := Lib.hid hrem; have H0 := Lib.hid h0
  clear hn hTab hC hA hck hce hci hrem h0
  go_enter Tryd.func7, Tryd.ntmps7
  go_wp2_with fail
  refine (c_awake _ (HT.out.next (by repeat' (first | (with_reducible assumption) | (with_reducible exact Below.refl _ _) | (with_reducible refine Below.alloc ?_ ?_ _) | (with_reducible refine Bk.drewN_ ?_ _) | (with_reducible refine Below.drew ?_) | (with_reducible refine Below.setCell ?_ ?_ _) | go_size)))).mono ?_
  rintro e w1 ⟨rfl, hb1⟩
  have hB1 : Below w.heap.size w w1 := Below.trans (by repeat' (first | (with_reducible assumption) | (with_reducible exact Below.refl _ _) | (with_reducible refine Below.alloc ?_ ?_ _) | (with_reducible refine Bk.drewN_ ?_ _) | (with_reducible refine Below.drew ?_) | (with_reducible refine Below.setCell ?_ ?_ _) | go_size)) (hb1.mono (by go_size))
  have K_1 : Blk w1 (w.heap.size) 30 #[.slice A n cap, .int .i64 im.mem, .int .i64 im.stacks] := Blk.next (by repeat' (first | with_reducible exact H_1.out | with_reducible exact K0_1 | (refine Blk.new' ?_ _ _; simp; done) | with_reducible refine Blk.alloc ?_ _ | with_reducible refine Blk.drewN ?_ _ | with_reducible refine Blk.drew ?_)) hb1; (try clear H_1); (try clear T_1); (try clear z_1); (try clear F_1); obtain ⟨z_1, T_1, F_1⟩ := K_1.open_; have H_1 := Lib.hid K_1; clear K_1
  clear hb1
  go_wp2_with (at_builtin; go_must (refine wpList_append_code rfl _ _ rfl w1.heap.size _ 0 [] rfl (World.ownsRow_made w1 #[] 0 (Nat.le_refl _) (Nat.zero_le _) rfl) A n cap im.code rfl HA.out (HC.out.next (by repeat' (first | (with_reducible assumption) | (with_reducible exact Below.refl _ _) | (with_reducible refine Below.alloc ?_ ?_ _) | (with_reducible refine Bk.drewN_ ?_ _) | (with_reducible refine Below.drew ?_) | (with_reducible refine Below.setCell ?_ ?_ _) | go_size))) (by omega) (by simp) ?_))
  intro v2 w2 ho2' hg2
  have ho2 : w2.ownsRow w1.heap.size 23 5 v2 n (codeCells im.code) := by simpa using ho2'
  clear ho2'
  have hb2 : Below w1.heap.size w1 w2 := Below.trans (by repeat' (first | (with_reducible assumption) | (with_reducible exact Below.refl _ _) | (with_reducible refine Below.alloc ?_ ?_ _) | (with_reducible refine Bk.drewN_ ?_ _) | (with_reducible refine Below.drew ?_) | (with_reducible refine Below.setCell ?_ ?_ _) | go_size)) (below_grown (B := w1.heap.size) hg2 (by simp) (by intro k hk; simp [Value.ownBlock] at hk; omega))
  have hB2 : Below w.heap.size w w2 := Below.trans (by repeat' (first | (with_reducible assumption) | (with_reducible exact Below.refl _ _) | (with_reducible refine Below.alloc ?_ ?_ _) | (with_reducible refine Bk.drewN_ ?_ _) | (with_reducible refine Below.drew ?_) | (with_reducible refine Below.setCell ?_ ?_ _) | go_size)) (hb2.mono (by go_size))
  have K_1 : Blk w2 (w.heap.size) 30 #[.slice A n cap, .int .i64 im.mem, .int .i64 im.stacks] := Blk.next (by repeat' (first | with_reducible exact H_1.out | with_reducible exact K0_1 | (refine Blk.new' ?_ _ _; simp; done) | with_reducible refine Blk.alloc ?_ _ | with_reducible refine Blk.drewN ?_ _ | with_reducible refine Blk.drew ?_)) hb2; (try clear H_1); (try clear T_1); (try clear z_1); (try clear F_1); obtain ⟨z_1, T_1, F_1⟩ := K_1.open_; have H_1 := Lib.hid K_1; clear K_1
  obtain ⟨A2, cap2, rfl⟩ := own_form ho2
  have hR2 := (Rd.of_own ho2).mono (D' := (· < w2.heap.size)) fun _ h => h.2
  have HR2 := Lib.hid hR2
  clear ho2 hg2 hb2 hR2
  go_wp2_with fail
  ((with_reducible refine (c_OptimizeB _ _ _ im HCE.out H0.out _ (HC.out.next (by repeat' (first | (with_reducible assumption) | (with_reducible exact Below.refl _ _) | (with_reducible refine Below.alloc ?_ ?_ _) | (with_reducible refine Bk.drewN_ ?_ _) | (with_reducible refine Below.drew ?_) | (with_reducible refine Below.setCell ?_ ?_ _) | go_size))) hw (HT.out.next (by repeat' (first | (with_reducible assumption) | (with_reducible exact Below.refl _ _) | (with_reducible refine Below.alloc ?_ ?_ _) | (with_reducible refine Bk.drewN_ ?_ _) | (with_reducible refine Below.drew ?_) | (with_reducible refine Below.setCell ?_ ?_ _) | go_size)))).mono ?_))
  rintro e w3 ⟨A3, c3, rfl, hb3⟩
  have hB3 : Below w.heap.size w w3 := Below.trans (by repeat' (first | (with_reducible assumption) | (with_reducible exact Below.refl _ _) | (with_reducible refine Below.alloc ?_ ?_ _) | (with_reducible refine Bk.drewN_ ?_ _) | (with_reducible refine Below.drew ?_) | (with_reducible refine Below.setCell ?_ ?_ _) | go_size)) (hb3.mono (by go_size))
  have K_1 : Blk w3 (w.heap.size) 30 #[.slice A n cap, .int .i64 im.mem, .int .i64 im.stacks] := Blk.next (by repeat' (first | with_reducible exact H_1.out | with_reducible exact K0_1 | (refine Blk.new' ?_ _ _; simp; done) | with_reducible refine Blk.alloc ?_ _ | with_reducible refine Blk.drewN ?_ _ | with_reducible refine Blk.drew ?_)) hb3; (try clear H_1); (try clear T_1); (try clear z_1); (try clear F_1); obtain ⟨z_1, T_1, F_1⟩ := K_1.open_; have H_1 := Lib.hid K_1; clear K_1
  have hR2 := HR2.out.next hb3
  clear HR2
  have HR2 := Lib.hid hR2
  clear hb3 hR2
  go_wp2_with fail
  ((with_reducible refine (c_Check' _ _ _ im HCK.out _ (HC.out.next (by repeat' (first | (with_reducible assumption) | (with_reducible exact Below.refl _ _) | (with_reducible refine Below.alloc ?_ ?_ _) | (with_reducible refine Bk.drewN_ ?_ _) | (with_reducible refine Below.drew ?_) | (with_reducible refine Below.setCell ?_ ?_ _) | go_size))) hw (HT.out.next (by repeat' (first | (with_reducible assumption) | (with_reducible exact Below.refl _ _) | (with_reducible refine Below.alloc ?_ ?_ _) | (with_reducible refine Bk.drewN_ ?_ _) | (with_reducible refine Below.drew ?_) | (with_reducible refine Below.setCell ?_ ?_ _) | go_size)))).mono ?_))
  rintro e w4 ⟨rfl, hb4⟩
  have hB4 : Below w.heap.size w w4 := Below.trans (by repeat' (first | (with_reducible assumption) | (with_reducible exact Below.refl _ _) | (with_reducible refine Below.alloc ?_ ?_ _) | (with_reducible refine Bk.drewN_ ?_ _) | (with_reducible refine Below.drew ?_) | (with_reducible refine Below.setCell ?_ ?_ _) | go_size)) (hb4.mono (by go_size))
  have K_1 : Blk w4 (w.heap.size) 30 #[.slice A n cap, .int .i64 im.mem, .int .i64 im.stacks] := Blk.next (by repeat' (first | with_reducible exact H_1.out | with_reducible exact K0_1 | (refine Blk.new' ?_ _ _; simp; done) | with_reducible refine Blk.alloc ?_ _ | with_reducible refine Blk.drewN ?_ _ | with_reducible refine Blk.drew ?_)) hb4; have K_3 : Blk w4 (w3.heap.size) 30 #[.slice A3 0 c3, .int .i64 0, .int .i64 0] := Blk.next (by repeat' (first | with_reducible exact H_3.out | with_reducible exact K0_3 | (refine Blk.new' ?_ _ _; simp; done) | with_reducible refine Blk.alloc ?_ _ | with_reducible refine Blk.drewN ?_ _ | with_reducible refine Blk.drew ?_)) hb4; (try clear H_1); (try clear T_1); (try clear z_1); (try clear F_1); (try clear H_3); (try clear T_3); (try clear z_3); (try clear F_3); obtain ⟨z_1, T_1, F_1⟩ := K_1.open_; have H_1 := Lib.hid K_1; clear K_1; obtain ⟨z_3, T_3, F_3⟩ := K_3.open_; have H_3 := Lib.hid K_3; clear K_3
  have hR2 := HR2.out.next (w' := w4) (Below.trans (by repeat' (first | (with_reducible assumption) | (with_reducible exact Below.refl _ _) | (with_reducible refine Below.alloc ?_ ?_ _) | (with_reducible refine Bk.drewN_ ?_ _) | (with_reducible refine Below.drew ?_) | (with_reducible refine Below.setCell ?_ ?_ _) | go_size)) (hb4.mono (by go_size)))
  clear HR2
  have HR2 := Lib.hid hR2
  clear hb4 hR2
  go_wp2_with fail
  ((with_reducible refine (c_codesV _ _ _ _ _ _ im.code _ (by omega) (HC.out.next (by repeat' (first | (with_reducible assumption) | (with_reducible exact Below.refl _ _) | (with_reducible refine Below.alloc ?_ ?_ _) | (with_reducible refine Bk.drewN_ ?_ _) | (with_reducible refine Below.drew ?_) | (with_reducible refine Below.setCell ?_ ?_ _) | go_size))) (HR2.out.next (by repeat' (first | (with_reducible assumption) | (with_reducible exact Below.refl _ _) | (with_reducible refine Below.alloc ?_ ?_ _) | (with_reducible refine Bk.drewN_ ?_ _) | (with_reducible refine Below.drew ?_) | (with_reducible refine Below.setCell ?_ ?_ _) | go_size)))).mono ?_))
  rintro e w5 ⟨rfl, hb5⟩
  have hB5 : Below w.heap.size w w5 := Below.trans (by repeat' (first | (with_reducible assumption) | (with_reducible exact Below.refl _ _) | (with_reducible refine Below.alloc ?_ ?_ _) | (with_reducible refine Bk.drewN_ ?_ _) | (with_reducible refine Below.drew ?_) | (with_reducible refine Below.setCell ?_ ?_ _) | go_size)) (hb5.mono (by go_size))
  have K_1 : Blk w5 (w.heap.size) 30 #[.slice A n cap, .int .i64 im.mem, .int .i64 im.stacks] := Blk.next (by repeat' (first | with_reducible exact H_1.out | with_reducible exact K0_1 | (refine Blk.new' ?_ _ _; simp; done) | with_reducible refine Blk.alloc ?_ _ | with_reducible refine Blk.drewN ?_ _ | with_reducible refine Blk.drew ?_)) hb5; have K_3 : Blk w5 (w3.heap.size) 30 #[.slice A3 0 c3, .int .i64 0, .int .i64 0] := Blk.next (by repeat' (first | with_reducible exact H_3.out | with_reducible exact K0_3 | (refine Blk.new' ?_ _ _; simp; done) | with_reducible refine Blk.alloc ?_ _ | with_reducible refine Blk.drewN ?_ _ | with_reducible refine Blk.drew ?_)) hb5; (try clear H_1); (try clear T_1); (try clear z_1); (try clear F_1); (try clear H_3); (try clear T_3); (try clear z_3); (try clear F_3); obtain ⟨z_1, T_1, F_1⟩ := K_1.open_; have H_1 := Lib.hid K_1; clear K_1; obtain ⟨z_3, T_3, F_3⟩ := K_3.open_; have H_3 := Lib.hid K_3; clear K_3
  clear hb5
  go_wp2_with fail
  ((with_reducible refine (c_RemovedV _ _ _ im HREM.out _ (by omega) (HC.out.next (by repeat' (first | (with_reducible assumption) | (with_reducible exact Below.refl _ _) | (with_reducible refine Below.alloc ?_ ?_ _) | (with_reducible refine Bk.drewN_ ?_ _) | (with_reducible refine Below.drew ?_) | (with_reducible refine Below.setCell ?_ ?_ _) | go_size))) hw (HT.out.next (by repeat' (first | (with_reducible assumption) | (with_reducible exact Below.refl _ _) | (with_reducible refine Below.alloc ?_ ?_ _) | (with_reducible refine Bk.drewN_ ?_ _) | (with_reducible refine Below.drew ?_) | (with_reducible refine Below.setCell ?_ ?_ _) | go_size)))).mono ?_))
  rintro e w6 ⟨rfl, hb6⟩
  have hB6 : Below w.heap.size w w6 := Below.trans (by repeat' (first | (with_reducible assumption) | (with_reducible exact Below.refl _ _) | (with_reducible refine Below.alloc ?_ ?_ _) | (with_reducible refine Bk.drewN_ ?_ _) | (with_reducible refine Below.drew ?_) | (with_reducible refine Below.setCell ?_ ?_ _) | go_size)) (hb6.mono (by go_size))
  go_wp2_with fail
  go_ret
  exact ⟨ret_bool (by simp), hB6⟩
end Go.Proofs.YtfobnkgfbdmakaaDoor
