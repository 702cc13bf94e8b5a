/- The walk of the law PeepholeCancels. -/
import Derived.Test.YtfobnkgfbdmakaaDoorAwake
set_option linter.unusedVariables false
namespace Go.Proofs.YtfobnkgfbdmakaaDoor
open Go.RowKit Bk

theorem c_refCancelsV (op a b c d op' a' b' c' d' : Int) {v : Bool} (h : refCancels ⟨op, a, b, c, d⟩ ⟨op', a', b', c', d'⟩ = v) (h0 : 0 ≤ op) (w : World) :
    Calls Tryd.prog 13 #[.agg #[.int .u8 op, .int .i64 a, .int .i64 b, .int .i64 c, .int .i64 d], .agg #[.int .u8 op', .int .i64 a', .int .i64 b', .int .i64 c', .int .i64 d']] w fun e w' =>
      e = .returned (.bool v) ∧ Below w.heap.size w w' := by
  rw [← h]; exact c_refCancels op a b c d op' a' b' c' d' h0 w

set_option maxRecDepth 100000 in
set_option maxHeartbeats 4000000 in
theorem c_lawCancels (op a b c d op' a' b' c' d' : Int) (h0 : 0 ≤ op) (h1 : op ≤ 255) (w : World) (hTab : TableAt w) :
    Calls Tryd.prog 3 #[.agg #[.int .u8 op, .int .i64 a, .int .i64 b, .int .i64 c, .int .i64 d], .agg #[.int .u8 op', .int .i64 a', .int .i64 b', .int .i64 c', .int .i64 d']] w fun e w' =>
      e = .returned (.bool true) ∧ Below w.heap.size w w' := by
  have HT := Lib.hid hTab; clear hTab
  obtain ⟨v, hv⟩ : ∃ v, validB op a b c d = v := ⟨_, rfl⟩
  obtain ⟨g, hg⟩ : ∃ g, refCancels ⟨op, a, b, c, d⟩ ⟨op', a', b', c', d'⟩ = g := ⟨_, rfl⟩
  obtain ⟨s, hs⟩ : ∃ s, refCancels ⟨op, a, b, c, d⟩ ⟨inv op, a, b, c, d⟩ = s := ⟨_, rfl⟩
  obtain ⟨gc, hgc⟩ : ∃ x, x = (v && g) := ⟨_, rfl⟩
  obtain ⟨sc, hsc⟩ : ∃ x, x = (v && s) := ⟨_, rfl⟩
  have hg' : cancels ⟨op, a, b, c, d⟩ ⟨op', a', b', c', d'⟩ = gc := by rw [hgc, ← hv, ← hg]; rfl
  have hs' : cancels ⟨op, a, b, c, d⟩ ⟨inv op, a, b, c, d⟩ = sc := by rw [hsc, ← hv, ← hs]; rfl
  have hcase : (v = true ∧ gc = g ∧ sc = s) ∨ (v = false ∧ gc = false ∧ sc = false) := by
    cases v
    · exact .inr ⟨rfl, by rw [hgc]; rfl, by rw [hsc]; rfl⟩
    · exact .inl ⟨rfl, by rw [hgc]; rfl, by rw [hsc]; rfl⟩
  clear hgc hsc
  have HV := Lib.hid hv; have HG := Lib.hid hg; have HS := Lib.hid hs; have HG' := Lib.hid hg'; have HS' := Lib.hid hs'
  clear hv hg hs hg' hs'
  have hcase2 : (v = true ∧ g = true ∧ gc = true ∧ sc = s) ∨ (v = true ∧ g = false ∧ gc = false ∧ sc = s) ∨ (v = false ∧ gc = false ∧ sc = false) := by
    rcases hcase with ⟨rfl, rfl, rfl⟩ | ⟨rfl, rfl, rfl⟩
    · cases gc
      · exact .inr (.inl ⟨rfl, rfl, rfl, rfl⟩)
      · exact .inl ⟨rfl, rfl, rfl, rfl⟩
    · exact .inr (.inr ⟨rfl, rfl, rfl⟩)
  clear hcase
  rcases hcase2 with ⟨rfl, rfl, rfl, rfl⟩ | ⟨rfl, rfl, rfl, rfl⟩ | ⟨rfl, rfl, rfl⟩
  all_goals
    go_enter Tryd.func3, Tryd.ntmps3
    go_wp2_with fail
    refine (c_awake _ (HT.out.next (by repeat' (first | (with_reducible assumption) | (with_reducible exact Below.refl _ _) | (with_reducible refine Below.alloc ?_ ?_ _) | (with_reducible refine Bk.drewN_ ?_ _) | (with_reducible refine Below.drew ?_) | (with_reducible refine Below.setCell ?_ ?_ _) | go_size)))).mono ?_
    rintro e w1 ⟨rfl, hb1⟩
    have hB1 : Below w.heap.size w w1 := Below.trans (by repeat' (first | (with_reducible assumption) | (with_reducible exact Below.refl _ _) | (with_reducible refine Below.alloc ?_ ?_ _) | (with_reducible refine Bk.drewN_ ?_ _) | (with_reducible refine Below.drew ?_) | (with_reducible refine Below.setCell ?_ ?_ _) | go_size)) (hb1.mono (by go_size))
    have K1 : Blk w1 w.heap.size 23 #[.int .u8 (op), .int .i64 (a), .int .i64 (b), .int .i64 (c), .int .i64 (d)] := Blk.next (by repeat' (first | with_reducible assumption | (refine Blk.new' ?_ _ _; simp; done) | refine Blk.alloc ?_ _ | refine Blk.drewN ?_ _ | refine Blk.drew ?_)) hb1
    have K2 : Blk w1 (w.heap.size + 1) 23 #[.int .u8 (op'), .int .i64 (a'), .int .i64 (b'), .int .i64 (c'), .int .i64 (d')] := Blk.next (by repeat' (first | with_reducible assumption | (refine Blk.new' ?_ _ _; simp; done) | refine Blk.alloc ?_ _ | refine Blk.drewN ?_ _ | refine Blk.drew ?_)) hb1
    obtain ⟨z1, T1, _⟩ := K1.open_
    obtain ⟨z2, T2, _⟩ := K2.open_
    have H1 := Lib.hid K1; have H2 := Lib.hid K2; clear K1 K2 hb1
    go_wp2_with fail
    refine (c_Inverse _ _ _ _ _ h0 h1 _).mono ?_
    rintro e w2 ⟨rfl, hb2⟩
    have hB2 : Below w.heap.size w w2 := Below.trans (by repeat' (first | (with_reducible assumption) | (with_reducible exact Below.refl _ _) | (with_reducible refine Below.alloc ?_ ?_ _) | (with_reducible refine Bk.drewN_ ?_ _) | (with_reducible refine Below.drew ?_) | (with_reducible refine Below.setCell ?_ ?_ _) | go_size)) (hb2.mono (by go_size))
    have K1 : Blk w2 w.heap.size 23 #[.int .u8 (op), .int .i64 (a), .int .i64 (b), .int .i64 (c), .int .i64 (d)] := Blk.next H1.out hb2
    have K2 : Blk w2 (w.heap.size + 1) 23 #[.int .u8 (op'), .int .i64 (a'), .int .i64 (b'), .int .i64 (c'), .int .i64 (d')] := Blk.next H2.out hb2
    clear z1 T1 z2 T2 H1 H2 hb2
    obtain ⟨z1, T1, _⟩ := K1.open_
    obtain ⟨z2, T2, _⟩ := K2.open_
    have H1 := Lib.hid K1; have H2 := Lib.hid K2; clear K1 K2
    go_wp2_with fail
    refine (c_Cancels' _ _ _ _ _ _ _ _ _ _ HG'.out h0 h1 _ (HT.out.next (by repeat' (first | (with_reducible assumption) | (with_reducible exact Below.refl _ _) | (with_reducible refine Below.alloc ?_ ?_ _) | (with_reducible refine Bk.drewN_ ?_ _) | (with_reducible refine Below.drew ?_) | (with_reducible refine Below.setCell ?_ ?_ _) | go_size)))).mono ?_
    rintro e w3 ⟨rfl, hb3⟩
    have hB3 : Below w.heap.size w w3 := Below.trans (by repeat' (first | (with_reducible assumption) | (with_reducible exact Below.refl _ _) | (with_reducible refine Below.alloc ?_ ?_ _) | (with_reducible refine Bk.drewN_ ?_ _) | (with_reducible refine Below.drew ?_) | (with_reducible refine Below.setCell ?_ ?_ _) | go_size)) (hb3.mono (by go_size))
    have K1 : Blk w3 w.heap.size 23 #[.int .u8 (op), .int .i64 (a), .int .i64 (b), .int .i64 (c), .int .i64 (d)] := Blk.next (H1.out.alloc _) hb3
    have K2 : Blk w3 (w.heap.size + 1) 23 #[.int .u8 (op'), .int .i64 (a'), .int .i64 (b'), .int .i64 (c'), .int .i64 (d')] := Blk.next (H2.out.alloc _) hb3
    have K3 : Blk w3 w2.heap.size 23 #[.int .u8 (inv op), .int .i64 (a), .int .i64 (b), .int .i64 (c), .int .i64 (d)] := Blk.next (by repeat' (first | with_reducible assumption | (refine Blk.new' ?_ _ _; simp; done) | refine Blk.alloc ?_ _ | refine Blk.drewN ?_ _ | refine Blk.drew ?_)) hb3
    clear z1 T1 z2 T2 H1 H2 hb3
    obtain ⟨z1, T1, _⟩ := K1.open_
    obtain ⟨z2, T2, _⟩ := K2.open_
    obtain ⟨z3, T3, _⟩ := K3.open_
    have H1 := Lib.hid K1; have H2 := Lib.hid K2; have H3 := Lib.hid K3; clear K1 K2 K3
    go_wp2_with fail
    refine wp_region_grow (by kernel_rfl) (by kernel_rfl) ?_; intro W hW; have hneW : Nonempty (Grw W) := ⟨⟨W, Below.refl _ _⟩⟩; have HBz := Lib.hid (fun z => Below.next (show Below w.heap.size w W by (rw [hW]; exact (by repeat' (first | (with_reducible assumption) | (with_reducible exact Below.refl _ _) | (with_reducible refine Below.alloc ?_ ?_ _) | (with_reducible refine Bk.drewN_ ?_ _) | (with_reducible refine Below.drew ?_) | (with_reducible refine Below.setCell ?_ ?_ _) | go_size)))) (grow_below W z))
    have HKz := fun z => (H1.out.next (w' := grow W z) (by rw [← hW]; exact grow_below W z)).cell
    have HKz2 := fun z => (H2.out.next (w' := grow W z) (by rw [← hW]; exact grow_below W z)).cell
    have HKz3 := fun z => (H3.out.next (w' := grow W z) (by rw [← hW]; exact grow_below W z)).cell
    have HW := Lib.hid hW; clear hW
    repeat (go_big_quiet_step ((first | (go_at_call 12; with_reducible exact quiet_grow (c_Valid' _ _ _ _ _ HV.out h0 _ (HT.out.next (HBz.out _)))) | (go_at_call 11; with_reducible exact quiet_grow (c_Cancels' _ _ _ _ _ _ _ _ _ _ HS'.out h0 h1 _ (HT.out.next (HBz.out _)))) | (go_at_call 13; with_reducible exact quiet_grow (c_refCancelsV _ _ _ _ _ _ _ _ _ _ HG.out h0 _)) | (go_at_call 13; with_reducible exact quiet_grow (c_refCancelsV _ _ _ _ _ _ _ _ _ _ HS.out h0 _)))))
    clear HKz HKz2 HKz3
    refine wpQuiet_nil ?_; rintro _ ⟨z, rfl⟩; have hb1 := grow_below W z; have hB1 := HBz.out z; generalize grow W z = w1 at hb1 hB1 ⊢; have hW := HW.out; clear HW HBz hneW; subst hW; obtain ⟨hc1, hf1⟩ := bcell hb1; obtain ⟨hcA1, hfA1⟩ := bcell hB1; have HB1 := Lib.hid hb1; clear hb1
    go_wp2_with fail
    go_ret
    exact ⟨ret_bool (by simp), by repeat' (first | (with_reducible assumption) | (with_reducible exact Below.refl _ _) | (with_reducible refine Below.alloc ?_ ?_ _) | (with_reducible refine Bk.drewN_ ?_ _) | (with_reducible refine Below.drew ?_) | (with_reducible refine Below.setCell ?_ ?_ _) | go_size)⟩
end Go.Proofs.YtfobnkgfbdmakaaDoor
