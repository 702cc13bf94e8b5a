/- Several texts in one: EgN EgT. -/
import Derived.Test.YtbijhlgdilkopaaGreatDoorEjX
import Derived.Deep.RegionHeld
import Derived.Deep.DeepCutAuto
set_option linter.unusedVariables false
set_option linter.unusedSimpArgs false
/- The coder: variable. -/
set_option linter.unusedVariables false
set_option linter.unusedSimpArgs false
set_option maxRecDepth 100000
set_option maxHeartbeats 4000000
namespace Go.Proofs.YtbijhlgdilkopaaGreatDoor
open Go.RowKit Bk
theorem wpAnyH_atE {P : Program} {md : Region.Mode} {ops : Array Oper} {Q : Exit → Act → World → Prop} {S : World → Prop} {fuel : Nat} {listed : Array Bool} {a : Act} {w : World} (h : ∀ w', w' = w → wpAnyH P md ops Q S fuel listed a w') : wpAnyH P md ops Q S fuel listed a w := h w rfl
theorem info_slotE : (Tryz.prog.info? 79).map (fun i => i.size) = some 4 := by kernel_rfl
-- @PRED
def PrVar (cb : Nat) (p : Int) : Nat → Value → World → Prop
  | 0, v, _ => v = .pointer (some ⟨cb, 0, none⟩)
  | 1, v, _ => v = insV ⟨10, 1, p, 0, 0⟩
  | 2, v, w => SlB #[.int .i64 2, .int .i64 1] 2 v w
  | 3, v, _ => v = insV ⟨3, 2, 1, 0, 0⟩
  | 4, v, _ => v = insV ⟨10, 1, p, 0, 0⟩
  | 5, v, w => SlB #[.int .i64 2, .int .i64 0] 2 v w
  | 6, v, _ => v = insV ⟨12, 2, 0, 0, 0⟩
  | 7, v, w => SlB (codeCells [⟨10, 1, p, 0, 0⟩, ⟨3, 2, 1, 0, 0⟩, ⟨10, 1, p, 0, 0⟩, ⟨12, 2, 0, 0, 0⟩]).toArray 4 v w
  | _, _, _ => True
theorem PrVar_next {cb : Nat} {p : Int} : ∀ i v w w', PrVar cb p i v w → Below w.heap.size w w' → PrVar cb p i v w' := by
  intro i v w w' h hb
  match i with
  | 0 => exact h
  | 1 => exact h
  | 2 => exact SlB.next h hb
  | 3 => exact h
  | 4 => exact h
  | 5 => exact SlB.next h hb
  | 6 => exact h
  | 7 => exact SlB.next h hb
  | n + 8 => trivial
-- @ENDPRED
theorem e_variable {w : World} {cb : Nat} {F : Option Addr} {nf cf : Nat} {cc ss : Int} {q : Value} {l : Prg} {wB : World} {B : Nat} (hBw : B ≤ wB.heap.size) (hb : Below B wB w) (hC : Cod w cb F nf cf cc ss q l) (sl : List St4) (hsl : SlotsAt wB B F sl) (hsn : sl.length = nf) (hs32 : nf ≤ 1000000) (x : Nd) (s : St4) (hf : sl.find? (slotB x.nm 1) = some s) (hl : l.length ≤ 900000) :
    Calls Tryz.prog 48 #[.pointer (some ⟨cb, 0, none⟩), .agg #[.int .u8 x.k, .int .i64 x.num, .string x.nm, .slice x.A x.n x.cap]] w fun e w' => ∃ q', e = .returned (.tuple #[]) ∧ Cod w' cb F nf cf cc ss q' (l ++ [⟨10, 1, s.pos, 0, 0⟩, ⟨3, 2, 1, 0, 0⟩, ⟨10, 1, s.pos, 0, 0⟩, ⟨12, 2, 0, 0, 0⟩]) ∧ Emt cb w w' q q' := by
  have HC := Lib.hid hC; have HB := Lib.hid hb; have HSL := Lib.hid hsl; have HSN := Lib.hid hsn; have HF := Lib.hid hf
  obtain ⟨k, num, nm, A, n, cap⟩ := x
  dsimp only at *
  obtain ⟨Aq, cq, rfl⟩ := own_form hC.own
  clear hC hb hsl hsn hf
  go_enter Tryz.func48, Tryz.ntmps48
  go_upto_region 1 with fail
  refine wp_nameE ?_
  intro w1 hw1
  have hb1 : Below w.heap.size w w1 := by rw [hw1]; exact (by go_grown)
  have K3 : Blk w1 w.heap.size 24 #[.int .u8 k, .int .i64 num, .string nm, .slice A n cap] := by rw [hw1]; exact (by repeat' (first | assumption | exact Blk.new' (by simp) _ _ | apply Blk.alloc | apply Blk.drew))
  have HC1 := Lib.hid (HC.out.next hb1)
  have HK3 := Lib.hid K3
  have HB1 := Lib.hid hb1
  clear hw1 K3 hb1
  have FIND : Hid (∀ V, Below w1.heap.size w1 V → Calls Tryz.prog 45 #[.agg #[.slice F nf cf, .int .i64 cc, .int .i64 ss], .string nm, .int .u8 1] V fun e w'' => e = .returned (.tuple #[.agg #[.string s.nm, .int .u8 s.k, .int .i64 s.len, .int .i64 s.pos], .bool true]) ∧ Below V.heap.size V w'') := Lib.hid fun V hV => e_Find hBw F nf cf cc ss sl HSL.out HSN.out hs32 nm 1 s HF.out V (HB.out.trans ((HB1.out.next hV).mono (by have := HB.out.size; omega)))
  go_cut [4] (fun v4 wx => ∃ b4, v4 = .pointer (some ⟨b4, 0, none⟩) ∧ Blk wx b4 79 #[.string s.nm, .int .u8 s.k, .int .i64 s.len, .int .i64 s.pos] ∧ w1.heap.size ≤ b4 ∧ Below w1.heap.size w1 wx)
  case first =>
-- @TREE
    refine wp_region_held_drew (S := fun W => Below w1.heap.size w1 W) (by kernel_rfl) ((Below.refl _ _).drew) (fun hH => ?_)
    refine wpAnyH_take (i := 0) (v := ?_) rfl (by kernel_rfl) (by kernel_rfl) (by kernel_rfl) (fun _ _ _ h => h) (Or.inl ⟨by rfl, ?hy⟩) hH ?_
    case hy => (intro w9_ hS9; have T9 := (HC1.out.blk.next hS9).cell; have T8 := (HK3.out.next hS9).cell; clear hS9; go_simp; try with_reducible rfl)
    (try simp only [Bk.PU, Act.put])
    refine wpAnyH_take (i := 1) (v := ?_) rfl (by kernel_rfl) (by kernel_rfl) (by kernel_rfl) (fun _ _ _ h => h) (Or.inl ⟨by rfl, ?hy⟩) hH ?_
    case hy => (intro w9_ hS9; have T9 := (HC1.out.blk.next hS9).cell; have T8 := (HK3.out.next hS9).cell; clear hS9; go_simp; try with_reducible rfl)
    (try simp only [Bk.PU, Act.put])
    refine wpAnyH_take (i := 2) (v := ?_) rfl (by kernel_rfl) (by kernel_rfl) (by kernel_rfl) (fun _ _ _ h => h) (Or.inl ⟨by rfl, ?hy⟩) hH ?_
    case hy => (intro w9_ hS9; have T9 := (HC1.out.blk.next hS9).cell; have T8 := (HK3.out.next hS9).cell; clear hS9; go_simp; try with_reducible rfl)
    (try simp only [Bk.PU, Act.put])
    refine wpAnyH_take (i := 3) (v := ?_) rfl (by kernel_rfl) (by kernel_rfl) (by kernel_rfl) (fun _ _ _ h => h) (Or.inl ⟨by rfl, ?hy⟩) hH ?_
    case hy => (intro w9_ hS9; have T9 := (HC1.out.blk.next hS9).cell; have T8 := (HK3.out.next hS9).cell; clear hS9; go_simp; try with_reducible rfl)
    (try simp only [Bk.PU, Act.put])
    refine wpAnyH_take (i := 4) (v := ?_) rfl (by kernel_rfl) (by kernel_rfl) (by kernel_rfl) (fun _ _ _ h => h) (Or.inl ⟨by rfl, ?hy⟩) hH ?_
    case hy => (intro w9_ hS9; have T9 := (HC1.out.blk.next hS9).cell; have T8 := (HK3.out.next hS9).cell; clear hS9; go_simp; try with_reducible rfl)
    (try simp only [Bk.PU, Act.put])
    refine wpAnyH_take (i := 5) (v := ?_) rfl (by kernel_rfl) (by kernel_rfl) (by kernel_rfl) (fun _ _ _ h => h) (Or.inl ⟨by rfl, ?hy⟩) hH ?_
    case hy => (intro w9_ hS9; have T9 := (HC1.out.blk.next hS9).cell; have T8 := (HK3.out.next hS9).cell; clear hS9; go_simp; try with_reducible rfl)
    (try simp only [Bk.PU, Act.put])
    refine wpAnyH_atE ?_
    intro V0 hV0
    have S0 : Below w1.heap.size w1 V0 := by rw [hV0]; exact hH
    clear hH hV0
    refine wpAnyH_ready (rs := [6, 10]) (by kernel_rfl) (by simp) ?_
    refine AllReadyH.cons rfl (fun K hK => ?_) (AllReadyH.cons rfl (fun K hK => ?_) AllReadyH.nil)
    · go_simp
      refine (FIND.out V0 S0).mono ?_
      rintro e V1 ⟨rfl, b1⟩
      refine hK.out _ _ (S0.next b1) (fun _ => ?_)
      clear hK
      (try simp only [Bk.PU, Act.put])
      have S1 : Below w1.heap.size w1 V1 := S0.next b1
      refine wpAnyH_take (i := 7) (v := ?_) rfl (by kernel_rfl) (by kernel_rfl) (by kernel_rfl) (fun _ _ _ h => h) (Or.inl ⟨by rfl, ?hy⟩) S1 ?_
      case hy => (intro w9_ hS9; clear hS9; go_simp; try with_reducible rfl)
      (try simp only [Bk.PU, Act.put])
      refine wpAnyH_take (i := 8) (v := ?_) rfl (by kernel_rfl) (by kernel_rfl) (by kernel_rfl) (fun _ _ _ h => h) (Or.inl ⟨by rfl, ?hy⟩) S1 ?_
      case hy => (intro w9_ hS9; clear hS9; go_simp; try with_reducible rfl)
      (try simp only [Bk.PU, Act.put])
      refine wpAnyH_take (i := 9) (v := ?_) rfl (by kernel_rfl) (by kernel_rfl) (by kernel_rfl) (fun _ _ _ h => h) (Or.inl ⟨by rfl, ?hy⟩) S1 ?_
      case hy => (intro w9_ hS9; clear hS9; go_simp; try with_reducible rfl)
      (try simp only [Bk.PU, Act.put])
      refine wpAnyH_ready (rs := [10]) (by kernel_rfl) (by simp) ?_
      refine AllReadyH.cons rfl (fun K hK => ?_) (AllReadyH.nil)
      go_simp
      refine hK.out _ _ (S1.alloc S1.size _) (fun hH => ?_)
      clear hK hH
      (try simp only [Bk.PU, Act.put])
      refine wpAnyH_atE ?_
      intro V2 hV2
      have b2 : Below V1.heap.size V1 V2 := by rw [hV2]; exact (Below.refl _ _).alloc (Nat.le_refl _) _
      have S2 : Below w1.heap.size w1 V2 := S1.next b2
      have fA2 : Blk V2 V1.heap.size 79 #[.string ⟨#[]⟩, .int .u8 0, .int .i64 0, .int .i64 0] := by rw [hV2]; exact Blk.new _ _ _
      clear hV2
      refine wpAnyH_ready (rs := [11]) (by kernel_rfl) (by simp) ?_
      refine AllReadyH.cons rfl (fun K hK => ?_) (AllReadyH.nil)
      rw [if_pos (by rfl)]
      have x8 : w1.heap.size ≤ V1.heap.size := by first | exact S0.size | exact S1.size
      refine wp_store_row 79 _ _ rfl V1.heap.size _ rfl rfl 79 #[.string ⟨#[]⟩, .int .u8 0, .int .i64 0, .int .i64 0] fA2 (by rw [info_slotE]; rfl) rfl (by simp [Value.oneCell']) ?_
      refine hK.out _ _ (below_setRow S2 (by omega) _) (fun hH => ?_)
      clear hK
      (try simp only [Bk.PU, Act.put])
      refine wpAnyH_take (i := 12) (v := ?_) rfl (by kernel_rfl) (by kernel_rfl) (by kernel_rfl) (fun _ _ _ h => h) (Or.inl ⟨by rfl, ?hy⟩) hH ?_
      case hy => (intro w9_ hS9; clear hS9; go_simp; try with_reducible rfl)
      (try simp only [Bk.PU, Act.put])
      refine wpAnyH_done (by kernel_rfl) ?_ _
      go_wp2_with fail
      go_meet
      exact ⟨_, rfl, setRow_heap _ _ _ _ _ _ fA2, by omega, hH⟩
    · go_simp
      refine hK.out _ _ (S0.alloc S0.size _) (fun hH => ?_)
      clear hK hH
      (try simp only [Bk.PU, Act.put])
      refine wpAnyH_atE ?_
      intro V1 hV1
      have b1 : Below V0.heap.size V0 V1 := by rw [hV1]; exact (Below.refl _ _).alloc (Nat.le_refl _) _
      have S1 : Below w1.heap.size w1 V1 := S0.next b1
      have fA1 : Blk V1 V0.heap.size 79 #[.string ⟨#[]⟩, .int .u8 0, .int .i64 0, .int .i64 0] := by rw [hV1]; exact Blk.new _ _ _
      clear hV1
      refine wpAnyH_ready (rs := [6]) (by kernel_rfl) (by simp) ?_
      refine AllReadyH.cons rfl (fun K hK => ?_) (AllReadyH.nil)
      go_simp
      refine (FIND.out V1 S1).mono ?_
      rintro e V2 ⟨rfl, b2⟩
      refine hK.out _ _ (S1.next b2) (fun _ => ?_)
      clear hK
      (try simp only [Bk.PU, Act.put])
      have S2 : Below w1.heap.size w1 V2 := S1.next b2
      have fA2 := fA1.next b2
      refine wpAnyH_take (i := 7) (v := ?_) rfl (by kernel_rfl) (by kernel_rfl) (by kernel_rfl) (fun _ _ _ h => h) (Or.inl ⟨by rfl, ?hy⟩) S2 ?_
      case hy => (intro w9_ hS9; clear hS9; go_simp; try with_reducible rfl)
      (try simp only [Bk.PU, Act.put])
      refine wpAnyH_take (i := 8) (v := ?_) rfl (by kernel_rfl) (by kernel_rfl) (by kernel_rfl) (fun _ _ _ h => h) (Or.inl ⟨by rfl, ?hy⟩) S2 ?_
      case hy => (intro w9_ hS9; clear hS9; go_simp; try with_reducible rfl)
      (try simp only [Bk.PU, Act.put])
      refine wpAnyH_take (i := 9) (v := ?_) rfl (by kernel_rfl) (by kernel_rfl) (by kernel_rfl) (fun _ _ _ h => h) (Or.inl ⟨by rfl, ?hy⟩) S2 ?_
      case hy => (intro w9_ hS9; clear hS9; go_simp; try with_reducible rfl)
      (try simp only [Bk.PU, Act.put])
      refine wpAnyH_ready (rs := [11]) (by kernel_rfl) (by simp) ?_
      refine AllReadyH.cons rfl (fun K hK => ?_) (AllReadyH.nil)
      rw [if_pos (by rfl)]
      have x8 : w1.heap.size ≤ V0.heap.size := by first | exact S0.size | exact S1.size
      refine wp_store_row 79 _ _ rfl V0.heap.size _ rfl rfl 79 #[.string ⟨#[]⟩, .int .u8 0, .int .i64 0, .int .i64 0] fA2 (by rw [info_slotE]; rfl) rfl (by simp [Value.oneCell']) ?_
      refine hK.out _ _ (below_setRow S2 (by omega) _) (fun hH => ?_)
      clear hK
      (try simp only [Bk.PU, Act.put])
      refine wpAnyH_take (i := 12) (v := ?_) rfl (by kernel_rfl) (by kernel_rfl) (by kernel_rfl) (fun _ _ _ h => h) (Or.inl ⟨by rfl, ?hy⟩) hH ?_
      case hy => (intro w9_ hS9; clear hS9; go_simp; try with_reducible rfl)
      (try simp only [Bk.PU, Act.put])
      refine wpAnyH_done (by kernel_rfl) ?_ _
      go_wp2_with fail
      go_meet
      exact ⟨_, rfl, setRow_heap _ _ _ _ _ _ fA2, by omega, hH⟩
    -- @ENDTREE
  case rest =>
    obtain ⟨b4, rfl, hk4, hb4, hbx⟩ := hcut
    have HBX := Lib.hid hbx
    have HC2 := Lib.hid (HC1.out.next hbx)
    obtain ⟨z_4, T_4, F_4⟩ := hk4.open_
    clear HC HC1 HK3 FIND HSL HSN HF HB hbx hk4 hb4
    go_upto_region 3 with (go_at_call 47; ((with_reducible refine (e_instr2 10 1 s.pos _ wc.heap.size 3 (by repeat' (first | assumption | exact Blk.new' (by simp) _ _ | apply Blk.alloc | apply Blk.drew))).mono ?_); rintro e w6 ⟨rfl, hb6⟩))
    refine wp_nameE ?_
    intro w7 hw7
    have hB6 : Below wc.heap.size wc w6 := ((Below.refl _ _).alloc (Nat.le_refl _) _).next hb6
    have hb7 : Below wc.heap.size wc w7 := hB6.next (by rw [hw7]; exact (by go_grown))
    have K6 : Blk w7 w6.heap.size 102 #[.int .u8 10, .int .i64 1, .int .i64 s.pos, .int .i64 0, .int .i64 0] := by rw [hw7]; exact (by repeat' (first | assumption | exact Blk.new' (by simp) _ _ | apply Blk.alloc | apply Blk.drew))
    have HK6 := Lib.hid K6
    have hC7 := HC2.out.next hb7
    have hB7 : Below w.heap.size w w7 := (HB1.out.next HBX.out).next hb7
    clear hw7 K6 z_4 T_4 F_4
-- @WALK
    refine wp_region_pred (n := 8) (by kernel_rfl) (by kernel_rfl) (by kernel_rfl) (PrVar cb s.pos) PrVar_next ?_ ?_
    · intro i o hi ho a W G
      match i, hi, ho, G with
      | 0, _, ho, G =>
        obtain rfl := Option.some.inj ho
        exact y_move (.tmp 0) rfl (eval_tmp ((G.o 0 (by kernel_rfl)).trans rfl))
      | 1, _, ho, G =>
        obtain rfl := Option.some.inj ho
        exact y_load (.tmp 6) rfl w6.heap.size _ _ _ _ _ _ (eval_tmp ((G.o 6 (by kernel_rfl)).trans rfl)) (HK6.out.next G.b) rfl
      | 2, _, ho, G =>
        obtain rfl := Option.some.inj ho
        exact y_ints2 _ _ (2) (1) rfl rfl rfl (fun v w' h => h)
      | 3, _, ho, G =>
        obtain rfl := Option.some.inj ho
        obtain ⟨v2, e2, h2⟩ := G.p 2 23 (by decide) rfl (by kernel_rfl)
        exact y_instr2 _ _ _ 3 (2) (1) v2 rfl rfl (eval_tmp e2) h2 (fun _ => rfl)
      | 4, _, ho, G =>
        obtain rfl := Option.some.inj ho
        exact y_load (.tmp 6) rfl w6.heap.size _ _ _ _ _ _ (eval_tmp ((G.o 6 (by kernel_rfl)).trans rfl)) (HK6.out.next G.b) rfl
      | 5, _, ho, G =>
        obtain rfl := Option.some.inj ho
        exact y_ints2 _ _ (2) (0) rfl rfl rfl (fun v w' h => h)
      | 6, _, ho, G =>
        obtain rfl := Option.some.inj ho
        obtain ⟨v5, e5, h5⟩ := G.p 5 26 (by decide) rfl (by kernel_rfl)
        exact y_instr2 _ _ _ 12 (2) (0) v5 rfl rfl (eval_tmp e5) h5 (fun _ => rfl)
      | 7, _, ho, G =>
        obtain rfl := Option.some.inj ho
        obtain ⟨v1, e1, h1⟩ := G.p 1 22 (by decide) rfl (by kernel_rfl)
        obtain ⟨v3, e3, h3⟩ := G.p 3 24 (by decide) rfl (by kernel_rfl)
        obtain ⟨v4, e4, h4⟩ := G.p 4 25 (by decide) rfl (by kernel_rfl)
        obtain ⟨v6, e6, h6⟩ := G.p 6 27 (by decide) rfl (by kernel_rfl)
        exact y_ins4 _ _ _ _ _ _ _ _ rfl (eval_tmp (e1.trans (congrArg some h1))) (eval_tmp (e3.trans (congrArg some h3))) (eval_tmp (e4.trans (congrArg some h4))) (eval_tmp (e6.trans (congrArg some h6))) (fun v w' h => h)
    · intro o ho a W G
      obtain rfl := Option.some.inj ho
      obtain ⟨v0, e0, h0⟩ := G.p 0 21 (by decide) rfl (by kernel_rfl)
      obtain ⟨v7, e7, h7⟩ := G.p 7 28 (by decide) rfl (by kernel_rfl)
      refine y_emit _ _ _ 4 v7 rfl (eval_tmp (e0.trans (congrArg some h0))) (eval_tmp e7) h7 rfl (hC7.next G.b) (by omega) (fun q' w' hc he => ?_)
      exact bodyPost_end (results_none rfl _ _ _) G.d ⟨_, rfl, hc, (Emt.pre ((hB7.next G.b)) he)⟩
-- @ENDWALK
end Go.Proofs.YtbijhlgdilkopaaGreatDoor

/- The code of an expression; the coder: unary. -/
set_option linter.unusedVariables false
set_option linter.unusedSimpArgs false
set_option maxRecDepth 100000
set_option maxHeartbeats 4000000
namespace Bk
open Go Go.RowKit
def slotOf (sl : List St4) (nm : ByteArray) (k : Int) : St4 := (sl.find? (slotB nm k)).getD ⟨⟨#[]⟩, 0, 0, 0⟩
/-- The code of an expression: its value goes onto stack 1. -/
def comp (sl : List St4) (cc : Int) : Ex → Int → Prg
  | .num v, _ => [⟨6, 1, v, 0, 0⟩, ⟨12, 1, 0, 0, 0⟩]
  | .var s, _ => [⟨10, 1, (slotOf sl s 1).pos, 0, 0⟩, ⟨3, 2, 1, 0, 0⟩, ⟨10, 1, (slotOf sl s 1).pos, 0, 0⟩, ⟨12, 2, 0, 0, 0⟩]
  | .top s, _ => [⟨14, 1, (slotOf sl s 3).pos, 0, 0⟩, ⟨12, 1, 0, 0, 0⟩]
  | .size s, _ => [⟨15, 1, (slotOf sl s 3).pos, 0, 0⟩, ⟨12, 1, 0, 0, 0⟩]
  | .item s a, p => comp sl cc a p ++ [⟨13, 1, 0, 0, 0⟩, ⟨11, 2, 1, (slotOf sl s 2).pos, (slotOf sl s 2).len⟩, ⟨3, 3, 2, 0, 0⟩, ⟨11, 2, 1, (slotOf sl s 2).pos, (slotOf sl s 2).len⟩, ⟨12, 1, 0, 0, 0⟩, ⟨12, 3, 0, 0, 0⟩]
  | .un op a, p => comp sl cc a p ++ [⟨13, 1, 0, 0, 0⟩] ++ (if op = 6 then [⟨3, 3, 1, 0, 0⟩, ⟨8, 3, 0, 0, 0⟩] else [⟨9, 3, 1, 2, 16⟩]) ++ [⟨12, 1, 0, 0, 0⟩, ⟨12, 3, 0, 0, 0⟩]
  | .bin op a b, p => comp sl cc a p ++ [⟨13, 1, 0, 0, 0⟩, ⟨10, 1, cc + p, 0, 0⟩] ++ comp sl cc b (p + 1) ++ [⟨13, 2, 0, 0, 0⟩, ⟨10, 1, cc + p, 0, 0⟩, ⟨9, 3, 1, 2, op⟩, ⟨12, 1, 0, 0, 0⟩, ⟨12, 2, 0, 0, 0⟩, ⟨12, 3, 0, 0, 0⟩]
theorem comp_length (sl : List St4) (cc : Int) : ∀ (e : Ex) (p : Int), (comp sl cc e p).length ≤ 8 * e.sz := by
  intro e
  induction e with
  | num v => intro p; simp [comp, Ex.sz]
  | var s => intro p; simp [comp, Ex.sz]
  | top s => intro p; simp [comp, Ex.sz]
  | size s => intro p; simp [comp, Ex.sz]
  | item s a ih => intro p; have := ih p; simp [comp, Ex.sz]; omega
  | un op a ih => intro p; have := ih p; simp [comp, Ex.sz]; split <;> simp <;> omega
  | bin op a b iha ihb => intro p; have := iha p; have := ihb (p + 1); simp [comp, Ex.sz]; omega
end Bk
namespace Go.Proofs.YtbijhlgdilkopaaGreatDoor
open Go.RowKit Bk
theorem calls_nameE {P : Program} {f : FuncId} {args : Array Value} {w : World} {Q : Ending → World → Prop} (h : ∀ w', w' = w → Calls P f args w' Q) : Calls P f args w Q := h w rfl
theorem Emt.below {cb B : Nat} {F : Option Addr} {nf cf : Nat} {cc ss : Int} {w w' : World} {q q' : Value} {l : Prg} (h : Emt cb w w' q q') (hB : B ≤ cb) (hC : Cod w cb F nf cf cc ss q l) : Below B w w' :=
  ⟨h.1.os, h.1.tape, h.1.output, h.1.size, fun k hk => h.1.block k (by have := hC.blk.lt; omega) (by
    rintro (e | e)
    · omega
    · have := (own_gE hC.own e).1; omega)⟩
/-- A block that is neither the coder's nor the row's. -/
theorem Emt.keep {cb b : Nat} {w w' : World} {q q' : Value} {t : TypeId} {cs : Array Value} (h : Emt cb w w' q q') (K : Blk w b t cs) (h1 : b ≠ cb) (h2 : q.ownBlock ≠ some b) : Blk w' b t cs := (h.1.block b K.lt (by
  rintro (e | e)
  · exact h1 e
  · exact h2 e)).trans K
theorem Emt.off {cb b : Nat} {w w' : World} {q q' : Value} (h : Emt cb w w' q q') (hb : b < w.heap.size) (h2 : q.ownBlock ≠ some b) : q'.ownBlock ≠ some b := by
  rcases h.2 with e | e
  · rw [e]; exact h2
  · intro e2; have := e b e2; omega
/-- coder.expr at the node x emits C p. -/
def ExprAt (wB : World) (B cb : Nat) (F : Option Addr) (nf cf : Nat) (cc ss M : Int) (C : Int → Prg) (x : Nd) : Prop := ∀ (w : World) (p : Int) (l : Prg) (q : Value), Below B wB w → Cod w cb F nf cf cc ss q l → 0 ≤ p → p ≤ M → l.length + (C p).length ≤ 900000 →
  Calls Tryz.prog 27 #[.pointer (some ⟨cb, 0, none⟩), .agg #[.int .u8 x.k, .int .i64 x.num, .string x.nm, .slice x.A x.n x.cap], .int .i64 p] w fun en w' => ∃ q', en = .returned (.tuple #[]) ∧ Cod w' cb F nf cf cc ss q' (l ++ C p) ∧ Emt cb w w' q q'
theorem e_unary {wB : World} {B cb : Nat} {F : Option Addr} {nf cf : Nat} {cc ss : Int} (hBw : B ≤ wB.heap.size) (hBc : B ≤ cb) {C : Int → Prg} {x y : Nd} (hk : x.k = 6 ∨ x.k = 7) (hn : x.n = 1) (hky : Kid wB B x 0 y) {M : Int} (IH : ExprAt wB B cb F nf cf cc ss M C y)
    (w : World) (p : Int) (l : Prg) (q : Value) (hb : Below B wB w) (hC : Cod w cb F nf cf cc ss q l) (hp0 : 0 ≤ p) (hp1 : p ≤ M) (hl : l.length + (C p).length ≤ 900000) :
    Calls Tryz.prog 51 #[.pointer (some ⟨cb, 0, none⟩), .agg #[.int .u8 x.k, .int .i64 x.num, .string x.nm, .slice x.A x.n x.cap], .int .i64 p] w fun en w' => ∃ q', en = .returned (.tuple #[]) ∧ Cod w' cb F nf cf cc ss q' (l ++ (C p ++ [⟨13, 1, 0, 0, 0⟩] ++ (if x.k = 6 then [⟨3, 3, 1, 0, 0⟩, ⟨8, 3, 0, 0, 0⟩] else [⟨9, 3, 1, 2, 16⟩]) ++ [⟨12, 1, 0, 0, 0⟩, ⟨12, 3, 0, 0, 0⟩])) ∧ Emt cb w w' q q' := by
  obtain ⟨g, o, hA2, hgB, c0, c1, c2, c3⟩ := hky.cells hb
  obtain ⟨k, num, nm, A, n, cap⟩ := x
  dsimp only at *
  subst hn hA2
  have HC := Lib.hid hC; have HB := Lib.hid hb; have HIH := Lib.hid IH; have HL := Lib.hid hl
  have hcbl := hC.blk.lt
  have hoff : q.ownBlock ≠ some w.heap.size := fun e => by have := (own_gE hC.own e).2; omega
  have HOFF := Lib.hid hoff
  clear hb hC IH hky hl hoff
  go_enter Tryz.func51, Tryz.ntmps51
  go_upto_region 1 with fail
  refine wp_nameE ?_
  intro w1 hw1
  have hb1 : Below w.heap.size w w1 := by rw [hw1]; exact (by go_grown)
  have K4 : Blk w1 w.heap.size 24 #[.int .u8 k, .int .i64 num, .string nm, .slice (some ⟨g, o, none⟩) 1 cap] := by rw [hw1]; exact (by repeat' (first | assumption | exact Blk.new' (by simp) _ _ | apply Blk.alloc | apply Blk.drew))
  have e0 := (hb1.cell (p := ⟨g, o + 0 * 4, none⟩) (by have := HB.out.size; show g < _; omega)).trans c0
  have e1 := (hb1.cell (p := ⟨g, o + 0 * 4 + 1, none⟩) (by have := HB.out.size; show g < _; omega)).trans c1
  have e2 := (hb1.cell (p := ⟨g, o + 0 * 4 + 2, none⟩) (by have := HB.out.size; show g < _; omega)).trans c2
  have e3 := (hb1.cell (p := ⟨g, o + 0 * 4 + 3, none⟩) (by have := HB.out.size; show g < _; omega)).trans c3
  rw [Nat.zero_mul, Nat.add_zero] at e0 e1 e2 e3
  have HK4 := Lib.hid K4
  have HC1 := Lib.hid (HC.out.next hb1)
  have HB1 := Lib.hid hb1
  clear hw1 c0 c1 c2 c3 hb1
  obtain ⟨z_4, T_4, F_4⟩ := K4.open_
  clear K4
  go_upto_region 2 with fail
-- @UNARY
  refine (HIH.out w1 p l q (HB.out.trans (HB1.out.mono (by have := HB.out.size; omega))) HC1.out hp0 hp1 (by have := HL.out; omega)).mono ?_
  rintro en w2 ⟨q2, rfl, hc2, he2⟩
  have HK4_2 := Lib.hid (he2.keep HK4.out (by omega) HOFF.out)
  have HO2 := Lib.hid (he2.off HK4.out.lt HOFF.out)
  have HC2 := Lib.hid hc2
  have HE2 := Lib.hid (Emt.pre HB1.out he2)
  clear hc2 he2 T_4 F_4 z_4 HK4 HOFF HC1 HIH e0 e1 e2 e3 HC
  obtain ⟨z_4, T_4, F_4⟩ := HK4_2.out.open_
  go_upto_region 3 with (first | (go_at_call 47; ((with_reducible refine (e_instr2 13 (1) (0) _ _ _ (Blk.new w2 _ _)).mono ?_); rintro e w2_0 ⟨rfl, hb_⟩; have hB2_0 : Below w2.heap.size w2 w2_0 := Below.next (by go_grown) hb_; clear hb_)) | (go_at_call 46; (refine calls_nameE ?_; intro wE hE; have hBE : Below w2.heap.size w2 wE := (by rw [hE]; exact hB2_0.next (by go_grown)); have KE : Blk wE w2_0.heap.size 102 (codeCells [⟨13, 1, 0, 0, 0⟩]).toArray := (by (subst hE; exact Blk.new _ _ _)); clear hE; refine (e_emit (HC2.out.next hBE) w2_0.heap.size 1 102 [⟨13, 1, 0, 0, 0⟩] KE rfl (by (have := HL.out; (try simp only [List.length_append, List.length_cons, List.length_nil]); omega))).mono ?_; rintro e w3 ⟨q3, rfl, hc_, he_⟩; have HC3 := Lib.hid hc_; have HE3 := Lib.hid (HE2.out.trans (Emt.pre hBE he_)); have HK4_3 := Lib.hid (he_.keep (HK4_2.out.next hBE) (by omega) HO2.out); have HO3 := Lib.hid (he_.off (HK4_2.out.next hBE).lt HO2.out); clear hc_ he_ KE hBE)))
  clear T_4 F_4 z_4 HK4_2 HO2
  obtain ⟨z_4, T_4, F_4⟩ := HK4_3.out.open_
  rcases hk with rfl | rfl
  · go_upto_region 4 with fail
    clear T_4 F_4 z_4 HK4_3 HO3
    go_upto_region 6 with (first | (go_at_call 47; ((with_reducible refine (e_instr2 3 (3) (1) _ _ _ (Blk.new w3 _ _)).mono ?_); rintro e w3_0 ⟨rfl, hb_⟩; have hB3_0 : Below w3.heap.size w3 w3_0 := Below.next (by go_grown) hb_; clear hb_)) | (go_at_call 47; ((with_reducible refine (e_instr1 8 (3) _ _ _ (Blk.new w3_0 _ _)).mono ?_); rintro e w3_1 ⟨rfl, hb_⟩; have hB3_1 : Below w3.heap.size w3 w3_1 := (hB3_0.next (by go_grown)).next hb_; clear hb_)) | (go_at_call 46; (refine calls_nameE ?_; intro wE hE; have hBE : Below w3.heap.size w3 wE := (by rw [hE]; exact hB3_1.next (by go_grown)); have KE : Blk wE w3_1.heap.size 102 (codeCells [⟨3, 3, 1, 0, 0⟩, ⟨8, 3, 0, 0, 0⟩]).toArray := (by (subst hE; exact Blk.new _ _ _)); clear hE; refine (e_emit (HC3.out.next hBE) w3_1.heap.size 2 102 [⟨3, 3, 1, 0, 0⟩, ⟨8, 3, 0, 0, 0⟩] KE rfl (by (have := HL.out; (try simp only [List.length_append, List.length_cons, List.length_nil]); omega))).mono ?_; rintro e w4 ⟨q4, rfl, hc_, he_⟩; have HC4 := Lib.hid hc_; have HE4 := Lib.hid (HE3.out.trans (Emt.pre hBE he_)); clear hc_ he_ KE hBE)))
    go_wp2_with (first | (go_at_call 47; ((with_reducible refine (e_instr2 12 (1) (0) _ _ _ (Blk.new w4 _ _)).mono ?_); rintro e w4_0 ⟨rfl, hb_⟩; have hB4_0 : Below w4.heap.size w4 w4_0 := Below.next (by go_grown) hb_; clear hb_)) | (go_at_call 47; ((with_reducible refine (e_instr2 12 (3) (0) _ _ _ (Blk.new w4_0 _ _)).mono ?_); rintro e w4_1 ⟨rfl, hb_⟩; have hB4_1 : Below w4.heap.size w4 w4_1 := (hB4_0.next (by go_grown)).next hb_; clear hb_)) | (go_at_call 46; (refine calls_nameE ?_; intro wE hE; have hBE : Below w4.heap.size w4 wE := (by rw [hE]; exact hB4_1.next (by go_grown)); have KE : Blk wE w4_1.heap.size 102 (codeCells [⟨12, 1, 0, 0, 0⟩, ⟨12, 3, 0, 0, 0⟩]).toArray := (by (subst hE; exact Blk.new _ _ _)); clear hE; refine (e_emit (HC4.out.next hBE) w4_1.heap.size 2 102 [⟨12, 1, 0, 0, 0⟩, ⟨12, 3, 0, 0, 0⟩] KE rfl (by (have := HL.out; (try simp only [List.length_append, List.length_cons, List.length_nil]); omega))).mono ?_; rintro e w5 ⟨q5, rfl, hc_, he_⟩; have HC5 := Lib.hid hc_; have HE5 := Lib.hid (HE4.out.trans (Emt.pre hBE he_)); clear hc_ he_ KE hBE)))
    refine bodyPost_end (results_none rfl _ _ _) rfl ?_
    refine ⟨rfl, q5, ?_, HE5.out⟩
    have := HC5.out
    simpa only [List.append_assoc, List.cons_append, List.nil_append] using this
  · go_upto_region 5 with fail
    clear T_4 F_4 z_4 HK4_3 HO3
    go_upto_region 6 with (first | (go_at_call 47; ((with_reducible refine (e_instr4 9 (3) (1) (2) (16) _ _ _ (Blk.new w3 _ _)).mono ?_); rintro e w3_0 ⟨rfl, hb_⟩; have hB3_0 : Below w3.heap.size w3 w3_0 := Below.next (by go_grown) hb_; clear hb_)) | (go_at_call 46; (refine calls_nameE ?_; intro wE hE; have hBE : Below w3.heap.size w3 wE := (by rw [hE]; exact hB3_0.next (by go_grown)); have KE : Blk wE w3_0.heap.size 102 (codeCells [⟨9, 3, 1, 2, 16⟩]).toArray := (by (subst hE; exact Blk.new _ _ _)); clear hE; refine (e_emit (HC3.out.next hBE) w3_0.heap.size 1 102 [⟨9, 3, 1, 2, 16⟩] KE rfl (by (have := HL.out; (try simp only [List.length_append, List.length_cons, List.length_nil]); omega))).mono ?_; rintro e w4 ⟨q4, rfl, hc_, he_⟩; have HC4 := Lib.hid hc_; have HE4 := Lib.hid (HE3.out.trans (Emt.pre hBE he_)); clear hc_ he_ KE hBE)))
    go_wp2_with (first | (go_at_call 47; ((with_reducible refine (e_instr2 12 (1) (0) _ _ _ (Blk.new w4 _ _)).mono ?_); rintro e w4_0 ⟨rfl, hb_⟩; have hB4_0 : Below w4.heap.size w4 w4_0 := Below.next (by go_grown) hb_; clear hb_)) | (go_at_call 47; ((with_reducible refine (e_instr2 12 (3) (0) _ _ _ (Blk.new w4_0 _ _)).mono ?_); rintro e w4_1 ⟨rfl, hb_⟩; have hB4_1 : Below w4.heap.size w4 w4_1 := (hB4_0.next (by go_grown)).next hb_; clear hb_)) | (go_at_call 46; (refine calls_nameE ?_; intro wE hE; have hBE : Below w4.heap.size w4 wE := (by rw [hE]; exact hB4_1.next (by go_grown)); have KE : Blk wE w4_1.heap.size 102 (codeCells [⟨12, 1, 0, 0, 0⟩, ⟨12, 3, 0, 0, 0⟩]).toArray := (by (subst hE; exact Blk.new _ _ _)); clear hE; refine (e_emit (HC4.out.next hBE) w4_1.heap.size 2 102 [⟨12, 1, 0, 0, 0⟩, ⟨12, 3, 0, 0, 0⟩] KE rfl (by (have := HL.out; (try simp only [List.length_append, List.length_cons, List.length_nil]); omega))).mono ?_; rintro e w5 ⟨q5, rfl, hc_, he_⟩; have HC5 := Lib.hid hc_; have HE5 := Lib.hid (HE4.out.trans (Emt.pre hBE he_)); clear hc_ he_ KE hBE)))
    refine bodyPost_end (results_none rfl _ _ _) rfl ?_
    refine ⟨rfl, q5, ?_, HE5.out⟩
    have := HC5.out
    simpa only [List.append_assoc, List.cons_append, List.nil_append] using this
-- @ENDUNARY
end Go.Proofs.YtbijhlgdilkopaaGreatDoor
