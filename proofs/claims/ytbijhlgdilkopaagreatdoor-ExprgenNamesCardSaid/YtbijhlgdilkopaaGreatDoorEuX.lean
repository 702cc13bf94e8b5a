/- Several texts in one: EgU EgO EgR3 EgQ. -/
import Derived.Test.YtbijhlgdilkopaaGreatDoorEnX
set_option linter.unusedVariables false
set_option linter.unusedSimpArgs false
/- The coder: stack. Printed by gen_egu.py. -/
set_option linter.unusedVariables false
set_option linter.unusedSimpArgs false
set_option maxRecDepth 100000
set_option maxHeartbeats 4000000
namespace Go.Proofs.YtbijhlgdilkopaaGreatDoor
open Go.RowKit Bk
theorem e_stack {w : World} {cb : Nat} {F : Option Addr} {nf cf : Nat} {cc ss : Int} {q : Value} {l : Prg} {wB : World} {B : Nat} (hBw : B ≤ wB.heap.size) (hb : Below B wB w) (hC : Cod w cb F nf cf cc ss q l) (sl : List St4) (hsl : SlotsAt wB B F sl) (hsn : sl.length = nf) (hs32 : nf ≤ 1000000) (x : Nd) (hk : x.k = 4 ∨ x.k = 5) (s : St4) (hf : sl.find? (slotB x.nm 3) = some s) (hl : l.length ≤ 900000) :
    Calls Tryz.prog 50 #[.pointer (some ⟨cb, 0, none⟩), .agg #[.int .u8 x.k, .int .i64 x.num, .string x.nm, .slice x.A x.n x.cap]] w fun e w' => ∃ q', e = .returned (.tuple #[]) ∧ Cod w' cb F nf cf cc ss q' (l ++ [⟨if x.k = 5 then 15 else 14, 1, s.pos, 0, 0⟩, ⟨12, 1, 0, 0, 0⟩]) ∧ Emt cb w w' q q' := by
  have HC := Lib.hid hC; have HB := Lib.hid hb; have HSL := Lib.hid hsl; have HSN := Lib.hid hsn; have HF := Lib.hid hf
  obtain ⟨k, num, nm, A, n, cap⟩ := x
  dsimp only at *
  obtain ⟨Aq, cq, rfl⟩ := own_form hC.own
  clear hC hb hsl hsn hf
  go_enter Tryz.func50, Tryz.ntmps50
  go_upto_region 1 with fail
  refine wp_nameE ?_
  intro w1 hw1
  have hb1 : Below w.heap.size w w1 := by rw [hw1]; exact (by go_grown)
  have K3 : Blk w1 w.heap.size 24 #[.int .u8 k, .int .i64 num, .string nm, .slice A n cap] := by rw [hw1]; exact (by repeat' (first | assumption | exact Blk.new' (by simp) _ _ | apply Blk.alloc | apply Blk.drew))
  have HC1 := Lib.hid (HC.out.next hb1)
  have HK3 := Lib.hid K3
  have HB1 := Lib.hid hb1
  clear hw1 K3 hb1
  have FIND : Hid (∀ V, Below w1.heap.size w1 V → Calls Tryz.prog 45 #[.agg #[.slice F nf cf, .int .i64 cc, .int .i64 ss], .string nm, .int .u8 3] V fun e w'' => e = .returned (.tuple #[.agg #[.string s.nm, .int .u8 s.k, .int .i64 s.len, .int .i64 s.pos], .bool true]) ∧ Below V.heap.size V w'') := Lib.hid fun V hV => e_Find hBw F nf cf cc ss sl HSL.out HSN.out hs32 nm 3 s HF.out V (HB.out.trans ((HB1.out.next hV).mono (by have := HB.out.size; omega)))
  have HL := Lib.hid hl
  clear hl
  go_cut [4] (fun v4 wx => ∃ b4, v4 = .pointer (some ⟨b4, 0, none⟩) ∧ Blk wx b4 79 #[.string s.nm, .int .u8 s.k, .int .i64 s.len, .int .i64 s.pos] ∧ w1.heap.size ≤ b4 ∧ Below w1.heap.size w1 wx)
  case first =>
    refine wp_region_held_drew (S := fun W => Below w1.heap.size w1 W) (by kernel_rfl) ((Below.refl _ _).drew) (fun hH => ?_)
    refine wpAnyH_take (i := 0) (v := ?_) rfl (by kernel_rfl) (by kernel_rfl) (by kernel_rfl) (fun _ _ _ h => h) (Or.inl ⟨by rfl, ?hy⟩) hH ?_
    case hy => (intro w9_ hS9; have T9 := (HC1.out.blk.next hS9).cell; have T8 := (HK3.out.next hS9).cell; clear hS9; go_simp; try with_reducible rfl)
    (try simp only [Bk.PU, Act.put])
    refine wpAnyH_take (i := 1) (v := ?_) rfl (by kernel_rfl) (by kernel_rfl) (by kernel_rfl) (fun _ _ _ h => h) (Or.inl ⟨by rfl, ?hy⟩) hH ?_
    case hy => (intro w9_ hS9; have T9 := (HC1.out.blk.next hS9).cell; have T8 := (HK3.out.next hS9).cell; clear hS9; go_simp; try with_reducible rfl)
    (try simp only [Bk.PU, Act.put])
    refine wpAnyH_take (i := 2) (v := ?_) rfl (by kernel_rfl) (by kernel_rfl) (by kernel_rfl) (fun _ _ _ h => h) (Or.inl ⟨by rfl, ?hy⟩) hH ?_
    case hy => (intro w9_ hS9; have T9 := (HC1.out.blk.next hS9).cell; have T8 := (HK3.out.next hS9).cell; clear hS9; go_simp; try with_reducible rfl)
    (try simp only [Bk.PU, Act.put])
    refine wpAnyH_take (i := 3) (v := ?_) rfl (by kernel_rfl) (by kernel_rfl) (by kernel_rfl) (fun _ _ _ h => h) (Or.inl ⟨by rfl, ?hy⟩) hH ?_
    case hy => (intro w9_ hS9; have T9 := (HC1.out.blk.next hS9).cell; have T8 := (HK3.out.next hS9).cell; clear hS9; go_simp; try with_reducible rfl)
    (try simp only [Bk.PU, Act.put])
    refine wpAnyH_take (i := 4) (v := ?_) rfl (by kernel_rfl) (by kernel_rfl) (by kernel_rfl) (fun _ _ _ h => h) (Or.inl ⟨by rfl, ?hy⟩) hH ?_
    case hy => (intro w9_ hS9; have T9 := (HC1.out.blk.next hS9).cell; have T8 := (HK3.out.next hS9).cell; clear hS9; go_simp; try with_reducible rfl)
    (try simp only [Bk.PU, Act.put])
    refine wpAnyH_take (i := 5) (v := ?_) rfl (by kernel_rfl) (by kernel_rfl) (by kernel_rfl) (fun _ _ _ h => h) (Or.inl ⟨by rfl, ?hy⟩) hH ?_
    case hy => (intro w9_ hS9; have T9 := (HC1.out.blk.next hS9).cell; have T8 := (HK3.out.next hS9).cell; clear hS9; go_simp; try with_reducible rfl)
    (try simp only [Bk.PU, Act.put])
    refine wpAnyH_atE ?_
    intro V0 hV0
    have S0 : Below w1.heap.size w1 V0 := by rw [hV0]; exact hH
    clear hH hV0
    refine wpAnyH_ready (rs := [6, 10]) (by kernel_rfl) (by simp) ?_
    refine AllReadyH.cons rfl (fun K hK => ?_) (AllReadyH.cons rfl (fun K hK => ?_) AllReadyH.nil)
    · go_simp
      refine (FIND.out V0 S0).mono ?_
      rintro e V1 ⟨rfl, b1⟩
      refine hK.out _ _ (S0.next b1) (fun _ => ?_)
      clear hK
      (try simp only [Bk.PU, Act.put])
      have S1 : Below w1.heap.size w1 V1 := S0.next b1
      refine wpAnyH_take (i := 7) (v := ?_) rfl (by kernel_rfl) (by kernel_rfl) (by kernel_rfl) (fun _ _ _ h => h) (Or.inl ⟨by rfl, ?hy⟩) S1 ?_
      case hy => (intro w9_ hS9; clear hS9; go_simp; try with_reducible rfl)
      (try simp only [Bk.PU, Act.put])
      refine wpAnyH_take (i := 8) (v := ?_) rfl (by kernel_rfl) (by kernel_rfl) (by kernel_rfl) (fun _ _ _ h => h) (Or.inl ⟨by rfl, ?hy⟩) S1 ?_
      case hy => (intro w9_ hS9; clear hS9; go_simp; try with_reducible rfl)
      (try simp only [Bk.PU, Act.put])
      refine wpAnyH_take (i := 9) (v := ?_) rfl (by kernel_rfl) (by kernel_rfl) (by kernel_rfl) (fun _ _ _ h => h) (Or.inl ⟨by rfl, ?hy⟩) S1 ?_
      case hy => (intro w9_ hS9; clear hS9; go_simp; try with_reducible rfl)
      (try simp only [Bk.PU, Act.put])
      refine wpAnyH_ready (rs := [10]) (by kernel_rfl) (by simp) ?_
      refine AllReadyH.cons rfl (fun K hK => ?_) (AllReadyH.nil)
      go_simp
      refine hK.out _ _ (S1.alloc S1.size _) (fun hH => ?_)
      clear hK hH
      (try simp only [Bk.PU, Act.put])
      refine wpAnyH_atE ?_
      intro V2 hV2
      have b2 : Below V1.heap.size V1 V2 := by rw [hV2]; exact (Below.refl _ _).alloc (Nat.le_refl _) _
      have S2 : Below w1.heap.size w1 V2 := S1.next b2
      have fA2 : Blk V2 V1.heap.size 79 #[.string ⟨#[]⟩, .int .u8 0, .int .i64 0, .int .i64 0] := by rw [hV2]; exact Blk.new _ _ _
      clear hV2
      refine wpAnyH_ready (rs := [11]) (by kernel_rfl) (by simp) ?_
      refine AllReadyH.cons rfl (fun K hK => ?_) (AllReadyH.nil)
      rw [if_pos (by rfl)]
      have x8 : w1.heap.size ≤ V1.heap.size := by first | exact S0.size | exact S1.size
      refine wp_store_row 79 _ _ rfl V1.heap.size _ rfl rfl 79 #[.string ⟨#[]⟩, .int .u8 0, .int .i64 0, .int .i64 0] fA2 (by rw [info_slotE]; rfl) rfl (by simp [Value.oneCell']) ?_
      refine hK.out _ _ (below_setRow S2 (by omega) _) (fun hH => ?_)
      clear hK
      (try simp only [Bk.PU, Act.put])
      refine wpAnyH_take (i := 12) (v := ?_) rfl (by kernel_rfl) (by kernel_rfl) (by kernel_rfl) (fun _ _ _ h => h) (Or.inl ⟨by rfl, ?hy⟩) hH ?_
      case hy => (intro w9_ hS9; clear hS9; go_simp; try with_reducible rfl)
      (try simp only [Bk.PU, Act.put])
      refine wpAnyH_done (by kernel_rfl) ?_ _
      go_wp2_with fail
      go_meet
      exact ⟨_, rfl, setRow_heap _ _ _ _ _ _ fA2, by omega, hH⟩
    · go_simp
      refine hK.out _ _ (S0.alloc S0.size _) (fun hH => ?_)
      clear hK hH
      (try simp only [Bk.PU, Act.put])
      refine wpAnyH_atE ?_
      intro V1 hV1
      have b1 : Below V0.heap.size V0 V1 := by rw [hV1]; exact (Below.refl _ _).alloc (Nat.le_refl _) _
      have S1 : Below w1.heap.size w1 V1 := S0.next b1
      have fA1 : Blk V1 V0.heap.size 79 #[.string ⟨#[]⟩, .int .u8 0, .int .i64 0, .int .i64 0] := by rw [hV1]; exact Blk.new _ _ _
      clear hV1
      refine wpAnyH_ready (rs := [6]) (by kernel_rfl) (by simp) ?_
      refine AllReadyH.cons rfl (fun K hK => ?_) (AllReadyH.nil)
      go_simp
      refine (FIND.out V1 S1).mono ?_
      rintro e V2 ⟨rfl, b2⟩
      refine hK.out _ _ (S1.next b2) (fun _ => ?_)
      clear hK
      (try simp only [Bk.PU, Act.put])
      have S2 : Below w1.heap.size w1 V2 := S1.next b2
      have fA2 := fA1.next b2
      refine wpAnyH_take (i := 7) (v := ?_) rfl (by kernel_rfl) (by kernel_rfl) (by kernel_rfl) (fun _ _ _ h => h) (Or.inl ⟨by rfl, ?hy⟩) S2 ?_
      case hy => (intro w9_ hS9; clear hS9; go_simp; try with_reducible rfl)
      (try simp only [Bk.PU, Act.put])
      refine wpAnyH_take (i := 8) (v := ?_) rfl (by kernel_rfl) (by kernel_rfl) (by kernel_rfl) (fun _ _ _ h => h) (Or.inl ⟨by rfl, ?hy⟩) S2 ?_
      case hy => (intro w9_ hS9; clear hS9; go_simp; try with_reducible rfl)
      (try simp only [Bk.PU, Act.put])
      refine wpAnyH_take (i := 9) (v := ?_) rfl (by kernel_rfl) (by kernel_rfl) (by kernel_rfl) (fun _ _ _ h => h) (Or.inl ⟨by rfl, ?hy⟩) S2 ?_
      case hy => (intro w9_ hS9; clear hS9; go_simp; try with_reducible rfl)
      (try simp only [Bk.PU, Act.put])
      refine wpAnyH_ready (rs := [11]) (by kernel_rfl) (by simp) ?_
      refine AllReadyH.cons rfl (fun K hK => ?_) (AllReadyH.nil)
      rw [if_pos (by rfl)]
      have x8 : w1.heap.size ≤ V0.heap.size := by first | exact S0.size | exact S1.size
      refine wp_store_row 79 _ _ rfl V0.heap.size _ rfl rfl 79 #[.string ⟨#[]⟩, .int .u8 0, .int .i64 0, .int .i64 0] fA2 (by rw [info_slotE]; rfl) rfl (by simp [Value.oneCell']) ?_
      refine hK.out _ _ (below_setRow S2 (by omega) _) (fun hH => ?_)
      clear hK
      (try simp only [Bk.PU, Act.put])
      refine wpAnyH_take (i := 12) (v := ?_) rfl (by kernel_rfl) (by kernel_rfl) (by kernel_rfl) (fun _ _ _ h => h) (Or.inl ⟨by rfl, ?hy⟩) hH ?_
      case hy => (intro w9_ hS9; clear hS9; go_simp; try with_reducible rfl)
      (try simp only [Bk.PU, Act.put])
      refine wpAnyH_done (by kernel_rfl) ?_ _
      go_wp2_with fail
      go_meet
      exact ⟨_, rfl, setRow_heap _ _ _ _ _ _ fA2, by omega, hH⟩
  case rest =>
    obtain ⟨b4, rfl, hk4, hb4, hbx⟩ := hcut
    have HC2 := Lib.hid (HC1.out.next hbx)
    have HK3x := HK3.out.next hbx
    have HE2 := Lib.hid (Emt.next (Emt.refl cb w (.slice Aq l.length cq)) (HB1.out.next hbx))
    obtain ⟨z_4, T_4, F_4⟩ := hk4.open_
    obtain ⟨z_3, T_3, F_3⟩ := HK3x.open_
    clear HC HC1 HK3 FIND HSL HSN HF HB hbx hk4 hb4 HK3x HB1
    obtain ⟨q2, hq2⟩ : ∃ q2, Value.slice Aq l.length cq = q2 := ⟨_, rfl⟩
    rw [hq2] at HC2 HE2
    rcases hk with rfl | rfl
    · go_upto_region 5 with fail
      clear T_3 F_3 z_3
      go_wp2_with (first | (go_at_call 47; ((with_reducible refine (e_instr2 14 (1) (s.pos) _ _ _ (Blk.new wc _ _)).mono ?_); rintro e w2_0 ⟨rfl, hb_⟩; have hB2_0 : Below wc.heap.size wc w2_0 := Below.next (by go_grown) hb_; clear hb_)) | (go_at_call 47; ((with_reducible refine (e_instr2 12 (1) (0) _ _ _ (Blk.new w2_0 _ _)).mono ?_); rintro e w2_1 ⟨rfl, hb_⟩; have hB2_1 : Below wc.heap.size wc w2_1 := (hB2_0.next (by go_grown)).next hb_; clear hb_)) | (go_at_call 46; (refine calls_nameE ?_; intro wE hE; have hBE : Below wc.heap.size wc wE := (by rw [hE]; exact hB2_1.next (by go_grown)); have KE : Blk wE w2_1.heap.size 102 (codeCells [⟨14, 1, s.pos, 0, 0⟩, ⟨12, 1, 0, 0, 0⟩]).toArray := (by (subst hE; exact Blk.new _ _ _)); clear hE; refine (e_emit (HC2.out.next hBE) w2_1.heap.size 2 102 [⟨14, 1, s.pos, 0, 0⟩, ⟨12, 1, 0, 0, 0⟩] KE rfl (by (have := HL.out; (try simp only [List.length_append, List.length_cons, List.length_nil]); omega))).mono ?_; rintro e w3 ⟨q3, rfl, hc_, he_⟩; have HC3 := Lib.hid hc_; have HE3 := Lib.hid (HE2.out.trans (Emt.pre hBE he_)); clear hc_ he_ KE hBE)))
      refine bodyPost_end (results_none rfl _ _ _) rfl ?_
      subst hq2
      first | exact ⟨rfl, q3, HC3.out, HE3.out⟩ | exact ⟨q3, rfl, HC3.out, HE3.out⟩
    · go_upto_region 5 with fail
      clear T_3 F_3 z_3
      go_wp2_with (first | (go_at_call 47; ((with_reducible refine (e_instr2 15 (1) (s.pos) _ _ _ (Blk.new wc _ _)).mono ?_); rintro e w2_0 ⟨rfl, hb_⟩; have hB2_0 : Below wc.heap.size wc w2_0 := Below.next (by go_grown) hb_; clear hb_)) | (go_at_call 47; ((with_reducible refine (e_instr2 12 (1) (0) _ _ _ (Blk.new w2_0 _ _)).mono ?_); rintro e w2_1 ⟨rfl, hb_⟩; have hB2_1 : Below wc.heap.size wc w2_1 := (hB2_0.next (by go_grown)).next hb_; clear hb_)) | (go_at_call 46; (refine calls_nameE ?_; intro wE hE; have hBE : Below wc.heap.size wc wE := (by rw [hE]; exact hB2_1.next (by go_grown)); have KE : Blk wE w2_1.heap.size 102 (codeCells [⟨15, 1, s.pos, 0, 0⟩, ⟨12, 1, 0, 0, 0⟩]).toArray := (by (subst hE; exact Blk.new _ _ _)); clear hE; refine (e_emit (HC2.out.next hBE) w2_1.heap.size 2 102 [⟨15, 1, s.pos, 0, 0⟩, ⟨12, 1, 0, 0, 0⟩] KE rfl (by (have := HL.out; (try simp only [List.length_append, List.length_cons, List.length_nil]); omega))).mono ?_; rintro e w3 ⟨q3, rfl, hc_, he_⟩; have HC3 := Lib.hid hc_; have HE3 := Lib.hid (HE2.out.trans (Emt.pre hBE he_)); clear hc_ he_ KE hBE)))
      refine bodyPost_end (results_none rfl _ _ _) rfl ?_
      subst hq2
      first | exact ⟨rfl, q3, HC3.out, HE3.out⟩ | exact ⟨q3, rfl, HC3.out, HE3.out⟩
end Go.Proofs.YtbijhlgdilkopaaGreatDoor

/- The coder: item. Printed by gen_ego.py. -/
set_option linter.unusedVariables false
set_option linter.unusedSimpArgs false
set_option maxRecDepth 100000
set_option maxHeartbeats 4000000
namespace Go.Proofs.YtbijhlgdilkopaaGreatDoor
open Go.RowKit Bk
def PrItem (cb : Nat) (p n : Int) : Nat → Value → World → Prop
  | 0, v, _ => v = .pointer (some ⟨cb, 0, none⟩)
  | 1, v, w => SlB #[.int .i64 1, .int .i64 0] 2 v w
  | 2, v, _ => v = insV ⟨13, 1, 0, 0, 0⟩
  | 3, v, _ => v = insV ⟨11, 2, 1, p, n⟩
  | 4, v, w => SlB #[.int .i64 3, .int .i64 2] 2 v w
  | 5, v, _ => v = insV ⟨3, 3, 2, 0, 0⟩
  | 6, v, _ => v = insV ⟨11, 2, 1, p, n⟩
  | 7, v, w => SlB #[.int .i64 1, .int .i64 0] 2 v w
  | 8, v, _ => v = insV ⟨12, 1, 0, 0, 0⟩
  | 9, v, w => SlB #[.int .i64 3, .int .i64 0] 2 v w
  | 10, v, _ => v = insV ⟨12, 3, 0, 0, 0⟩
  | 11, v, w => SlB (codeCells [⟨13, 1, 0, 0, 0⟩, ⟨11, 2, 1, p, n⟩, ⟨3, 3, 2, 0, 0⟩, ⟨11, 2, 1, p, n⟩, ⟨12, 1, 0, 0, 0⟩, ⟨12, 3, 0, 0, 0⟩]).toArray 6 v w
  | _, _, _ => True
theorem PrItem_next {cb : Nat} {p n : Int} : ∀ i v w w', PrItem cb p n i v w → Below w.heap.size w w' → PrItem cb p n i v w' := by
  intro i v w w' h hb
  match i with
  | 0 => exact h
  | 1 => exact SlB.next h hb
  | 2 => exact h
  | 3 => exact h
  | 4 => exact SlB.next h hb
  | 5 => exact h
  | 6 => exact h
  | 7 => exact SlB.next h hb
  | 8 => exact h
  | 9 => exact SlB.next h hb
  | 10 => exact h
  | 11 => exact SlB.next h hb
  | n + 12 => trivial
theorem e_item {cb : Nat} {F : Option Addr} {nf cf : Nat} {cc ss : Int} {wB : World} {B : Nat} (hBw : B ≤ wB.heap.size) (hBc : B ≤ cb) (sl : List St4) (hsl : SlotsAt wB B F sl) (hsn : sl.length = nf) (hs32 : nf ≤ 1000000) {C : Int → Prg} {x y : Nd} (hn : x.n = 1) (hky : Kid wB B x 0 y) {M : Int} (IH : ExprAt wB B cb F nf cf cc ss M C y) (s : St4) (hf : sl.find? (slotB x.nm 2) = some s)
    (w : World) (p : Int) (l : Prg) (q : Value) (hb : Below B wB w) (hC : Cod w cb F nf cf cc ss q l) (hp0 : 0 ≤ p) (hp1 : p ≤ M) (hl : l.length + (C p).length ≤ 900000) :
    Calls Tryz.prog 49 #[.pointer (some ⟨cb, 0, none⟩), .agg #[.int .u8 x.k, .int .i64 x.num, .string x.nm, .slice x.A x.n x.cap], .int .i64 p] w fun e w' => ∃ q', e = .returned (.tuple #[]) ∧ Cod w' cb F nf cf cc ss q' (l ++ (C p ++ [⟨13, 1, 0, 0, 0⟩, ⟨11, 2, 1, s.pos, s.len⟩, ⟨3, 3, 2, 0, 0⟩, ⟨11, 2, 1, s.pos, s.len⟩, ⟨12, 1, 0, 0, 0⟩, ⟨12, 3, 0, 0, 0⟩])) ∧ Emt cb w w' q q' := by
  have HL := Lib.hid hl; have HIH := Lib.hid IH; have HKY := Lib.hid hky; have HC := Lib.hid hC; have HB := Lib.hid hb; have HSL := Lib.hid hsl; have HSN := Lib.hid hsn; have HF := Lib.hid hf
  obtain ⟨k, num, nm, A, n, cap⟩ := x
  dsimp only at *
  subst hn
  obtain ⟨Aq, cq, rfl⟩ := own_form hC.own
  have hcbl := hC.blk.lt
  have hqo := fun k hk => (own_gE hC.own (k := k) hk).2
  have HQO := Lib.hid hqo
  clear hC hb hsl hsn hf hqo hl IH hky
  go_enter Tryz.func49, Tryz.ntmps49
  go_upto_region 1 with fail
  refine wp_nameE ?_
  intro w1 hw1
  have hb1 : Below w.heap.size w w1 := by rw [hw1]; exact (by go_grown)
  have K3 : Blk w1 w.heap.size 24 #[.int .u8 k, .int .i64 num, .string nm, .slice A 1 cap] := by rw [hw1]; exact (by repeat' (first | assumption | exact Blk.new' (by simp) _ _ | apply Blk.alloc | apply Blk.drew))
  have HC1 := Lib.hid (HC.out.next hb1)
  have HK3 := Lib.hid K3
  have HB1 := Lib.hid hb1
  clear hw1 K3 hb1
  have FIND : Hid (∀ V, Below w1.heap.size w1 V → Calls Tryz.prog 45 #[.agg #[.slice F nf cf, .int .i64 cc, .int .i64 ss], .string nm, .int .u8 2] V fun e w'' => e = .returned (.tuple #[.agg #[.string s.nm, .int .u8 s.k, .int .i64 s.len, .int .i64 s.pos], .bool true]) ∧ Below V.heap.size V w'') := Lib.hid fun V hV => e_Find hBw F nf cf cc ss sl HSL.out HSN.out hs32 nm 2 s HF.out V (HB.out.trans ((HB1.out.next hV).mono (by have := HB.out.size; omega)))
  go_cut [6] (fun v4 wx => ∃ b4, v4 = .pointer (some ⟨b4, 0, none⟩) ∧ Blk wx b4 79 #[.string s.nm, .int .u8 s.k, .int .i64 s.len, .int .i64 s.pos] ∧ w1.heap.size ≤ b4 ∧ Below w1.heap.size w1 wx)
  case first =>
    refine wp_region_held_drew (S := fun W => Below w1.heap.size w1 W) (by kernel_rfl) ((Below.refl _ _).drew) (fun hH => ?_)
    refine wpAnyH_take (i := 0) (v := ?_) rfl (by kernel_rfl) (by kernel_rfl) (by kernel_rfl) (fun _ _ _ h => h) (Or.inl ⟨by rfl, ?hy⟩) hH ?_
    case hy => (intro w9_ hS9; have T9 := (HC1.out.blk.next hS9).cell; have T8 := (HK3.out.next hS9).cell; clear hS9; go_simp; try with_reducible rfl)
    (try simp only [Bk.PU, Act.put])
    refine wpAnyH_take (i := 1) (v := ?_) rfl (by kernel_rfl) (by kernel_rfl) (by kernel_rfl) (fun _ _ _ h => h) (Or.inl ⟨by rfl, ?hy⟩) hH ?_
    case hy => (intro w9_ hS9; have T9 := (HC1.out.blk.next hS9).cell; have T8 := (HK3.out.next hS9).cell; clear hS9; go_simp; try with_reducible rfl)
    (try simp only [Bk.PU, Act.put])
    refine wpAnyH_take (i := 2) (v := ?_) rfl (by kernel_rfl) (by kernel_rfl) (by kernel_rfl) (fun _ _ _ h => h) (Or.inl ⟨by rfl, ?hy⟩) hH ?_
    case hy => (intro w9_ hS9; have T9 := (HC1.out.blk.next hS9).cell; have T8 := (HK3.out.next hS9).cell; clear hS9; go_simp; try with_reducible rfl)
    (try simp only [Bk.PU, Act.put])
    refine wpAnyH_take (i := 3) (v := ?_) rfl (by kernel_rfl) (by kernel_rfl) (by kernel_rfl) (fun _ _ _ h => h) (Or.inl ⟨by rfl, ?hy⟩) hH ?_
    case hy => (intro w9_ hS9; have T9 := (HC1.out.blk.next hS9).cell; have T8 := (HK3.out.next hS9).cell; clear hS9; go_simp; try with_reducible rfl)
    (try simp only [Bk.PU, Act.put])
    refine wpAnyH_take (i := 4) (v := ?_) rfl (by kernel_rfl) (by kernel_rfl) (by kernel_rfl) (fun _ _ _ h => h) (Or.inl ⟨by rfl, ?hy⟩) hH ?_
    case hy => (intro w9_ hS9; have T9 := (HC1.out.blk.next hS9).cell; have T8 := (HK3.out.next hS9).cell; clear hS9; go_simp; try with_reducible rfl)
    (try simp only [Bk.PU, Act.put])
    refine wpAnyH_take (i := 5) (v := ?_) rfl (by kernel_rfl) (by kernel_rfl) (by kernel_rfl) (fun _ _ _ h => h) (Or.inl ⟨by rfl, ?hy⟩) hH ?_
    case hy => (intro w9_ hS9; have T9 := (HC1.out.blk.next hS9).cell; have T8 := (HK3.out.next hS9).cell; clear hS9; go_simp; try with_reducible rfl)
    (try simp only [Bk.PU, Act.put])
    refine wpAnyH_atE ?_
    intro V0 hV0
    have S0 : Below w1.heap.size w1 V0 := by rw [hV0]; exact hH
    clear hH hV0
    refine wpAnyH_ready (rs := [6, 10]) (by kernel_rfl) (by simp) ?_
    refine AllReadyH.cons rfl (fun K hK => ?_) (AllReadyH.cons rfl (fun K hK => ?_) AllReadyH.nil)
    · go_simp
      refine (FIND.out V0 S0).mono ?_
      rintro e V1 ⟨rfl, b1⟩
      refine hK.out _ _ (S0.next b1) (fun _ => ?_)
      clear hK
      (try simp only [Bk.PU, Act.put])
      have S1 : Below w1.heap.size w1 V1 := S0.next b1
      refine wpAnyH_take (i := 7) (v := ?_) rfl (by kernel_rfl) (by kernel_rfl) (by kernel_rfl) (fun _ _ _ h => h) (Or.inl ⟨by rfl, ?hy⟩) S1 ?_
      case hy => (intro w9_ hS9; clear hS9; go_simp; try with_reducible rfl)
      (try simp only [Bk.PU, Act.put])
      refine wpAnyH_take (i := 8) (v := ?_) rfl (by kernel_rfl) (by kernel_rfl) (by kernel_rfl) (fun _ _ _ h => h) (Or.inl ⟨by rfl, ?hy⟩) S1 ?_
      case hy => (intro w9_ hS9; clear hS9; go_simp; try with_reducible rfl)
      (try simp only [Bk.PU, Act.put])
      refine wpAnyH_take (i := 9) (v := ?_) rfl (by kernel_rfl) (by kernel_rfl) (by kernel_rfl) (fun _ _ _ h => h) (Or.inl ⟨by rfl, ?hy⟩) S1 ?_
      case hy => (intro w9_ hS9; clear hS9; go_simp; try with_reducible rfl)
      (try simp only [Bk.PU, Act.put])
      refine wpAnyH_ready (rs := [10]) (by kernel_rfl) (by simp) ?_
      refine AllReadyH.cons rfl (fun K hK => ?_) (AllReadyH.nil)
      go_simp
      refine hK.out _ _ (S1.alloc S1.size _) (fun hH => ?_)
      clear hK hH
      (try simp only [Bk.PU, Act.put])
      refine wpAnyH_atE ?_
      intro V2 hV2
      have b2 : Below V1.heap.size V1 V2 := by rw [hV2]; exact (Below.refl _ _).alloc (Nat.le_refl _) _
      have S2 : Below w1.heap.size w1 V2 := S1.next b2
      have fA2 : Blk V2 V1.heap.size 79 #[.string ⟨#[]⟩, .int .u8 0, .int .i64 0, .int .i64 0] := by rw [hV2]; exact Blk.new _ _ _
      clear hV2
      refine wpAnyH_ready (rs := [11]) (by kernel_rfl) (by simp) ?_
      refine AllReadyH.cons rfl (fun K hK => ?_) (AllReadyH.nil)
      rw [if_pos (by rfl)]
      have x8 : w1.heap.size ≤ V1.heap.size := by first | exact S0.size | exact S1.size
      refine wp_store_row 79 _ _ rfl V1.heap.size _ rfl rfl 79 #[.string ⟨#[]⟩, .int .u8 0, .int .i64 0, .int .i64 0] fA2 (by rw [info_slotE]; rfl) rfl (by simp [Value.oneCell']) ?_
      refine hK.out _ _ (below_setRow S2 (by omega) _) (fun hH => ?_)
      clear hK
      (try simp only [Bk.PU, Act.put])
      refine wpAnyH_take (i := 12) (v := ?_) rfl (by kernel_rfl) (by kernel_rfl) (by kernel_rfl) (fun _ _ _ h => h) (Or.inl ⟨by rfl, ?hy⟩) hH ?_
      case hy => (intro w9_ hS9; clear hS9; go_simp; try with_reducible rfl)
      (try simp only [Bk.PU, Act.put])
      refine wpAnyH_done (by kernel_rfl) ?_ _
      go_wp2_with fail
      go_meet
      exact ⟨_, rfl, setRow_heap _ _ _ _ _ _ fA2, by omega, hH⟩
    · go_simp
      refine hK.out _ _ (S0.alloc S0.size _) (fun hH => ?_)
      clear hK hH
      (try simp only [Bk.PU, Act.put])
      refine wpAnyH_atE ?_
      intro V1 hV1
      have b1 : Below V0.heap.size V0 V1 := by rw [hV1]; exact (Below.refl _ _).alloc (Nat.le_refl _) _
      have S1 : Below w1.heap.size w1 V1 := S0.next b1
      have fA1 : Blk V1 V0.heap.size 79 #[.string ⟨#[]⟩, .int .u8 0, .int .i64 0, .int .i64 0] := by rw [hV1]; exact Blk.new _ _ _
      clear hV1
      refine wpAnyH_ready (rs := [6]) (by kernel_rfl) (by simp) ?_
      refine AllReadyH.cons rfl (fun K hK => ?_) (AllReadyH.nil)
      go_simp
      refine (FIND.out V1 S1).mono ?_
      rintro e V2 ⟨rfl, b2⟩
      refine hK.out _ _ (S1.next b2) (fun _ => ?_)
      clear hK
      (try simp only [Bk.PU, Act.put])
      have S2 : Below w1.heap.size w1 V2 := S1.next b2
      have fA2 := fA1.next b2
      refine wpAnyH_take (i := 7) (v := ?_) rfl (by kernel_rfl) (by kernel_rfl) (by kernel_rfl) (fun _ _ _ h => h) (Or.inl ⟨by rfl, ?hy⟩) S2 ?_
      case hy => (intro w9_ hS9; clear hS9; go_simp; try with_reducible rfl)
      (try simp only [Bk.PU, Act.put])
      refine wpAnyH_take (i := 8) (v := ?_) rfl (by kernel_rfl) (by kernel_rfl) (by kernel_rfl) (fun _ _ _ h => h) (Or.inl ⟨by rfl, ?hy⟩) S2 ?_
      case hy => (intro w9_ hS9; clear hS9; go_simp; try with_reducible rfl)
      (try simp only [Bk.PU, Act.put])
      refine wpAnyH_take (i := 9) (v := ?_) rfl (by kernel_rfl) (by kernel_rfl) (by kernel_rfl) (fun _ _ _ h => h) (Or.inl ⟨by rfl, ?hy⟩) S2 ?_
      case hy => (intro w9_ hS9; clear hS9; go_simp; try with_reducible rfl)
      (try simp only [Bk.PU, Act.put])
      refine wpAnyH_ready (rs := [11]) (by kernel_rfl) (by simp) ?_
      refine AllReadyH.cons rfl (fun K hK => ?_) (AllReadyH.nil)
      rw [if_pos (by rfl)]
      have x8 : w1.heap.size ≤ V0.heap.size := by first | exact S0.size | exact S1.size
      refine wp_store_row 79 _ _ rfl V0.heap.size _ rfl rfl 79 #[.string ⟨#[]⟩, .int .u8 0, .int .i64 0, .int .i64 0] fA2 (by rw [info_slotE]; rfl) rfl (by simp [Value.oneCell']) ?_
      refine hK.out _ _ (below_setRow S2 (by omega) _) (fun hH => ?_)
      clear hK
      (try simp only [Bk.PU, Act.put])
      refine wpAnyH_take (i := 12) (v := ?_) rfl (by kernel_rfl) (by kernel_rfl) (by kernel_rfl) (fun _ _ _ h => h) (Or.inl ⟨by rfl, ?hy⟩) hH ?_
      case hy => (intro w9_ hS9; clear hS9; go_simp; try with_reducible rfl)
      (try simp only [Bk.PU, Act.put])
      refine wpAnyH_done (by kernel_rfl) ?_ _
      go_wp2_with fail
      go_meet
      exact ⟨_, rfl, setRow_heap _ _ _ _ _ _ fA2, by omega, hH⟩
  case rest =>
    obtain ⟨b4, rfl, hk4, hb4, hbx⟩ := hcut
    have HC2 := Lib.hid (HC1.out.next hbx)
    have HB2 := Lib.hid (HB1.out.next hbx)
    have HBB := Lib.hid (HB.out.trans (HB2.out.mono (by have := HB.out.size; omega)))
    have HKS := Lib.hid hk4
    have x4 : w.heap.size ≤ b4 := Nat.le_trans HB1.out.size hb4
    have K3 := HK3.out.next hbx
    obtain ⟨g, o, hA2, hgB, e0, e1, e2, e3⟩ := HKY.out.cells HBB.out
    simp only at hA2
    subst hA2
    rw [Nat.zero_mul, Nat.add_zero] at e0 e1 e2 e3
    obtain ⟨z_3, T_3, F_3⟩ := K3.open_
    clear HC HC1 HK3 FIND HSL HSN HF HB HB1 hbx hk4 hb4 K3 HKY
    go_upto_region 3 with fail
    refine (HIH.out wc p l _ HBB.out HC2.out hp0 hp1 (by have := HL.out; omega)).mono ?_
    rintro en w5 ⟨q5, rfl, hc5, he5⟩
    have K4 := he5.keep HKS.out (by omega) (fun e => by have := HQO.out b4 e; omega)
    have HC5 := Lib.hid hc5
    have HE5 := Lib.hid (Emt.pre HB2.out he5)
    clear hc5 he5 T_3 F_3 z_3 HKS HIH HC2 e0 e1 e2 e3 HBB HQO
    obtain ⟨z_4, T_4, F_4⟩ := K4.open_
    clear K4
    go_upto_region 4 with (go_at_call 47; ((with_reducible refine (e_instr4 11 2 1 s.pos s.len _ _ _ (Blk.new w5 _ _)).mono ?_); rintro e w6 ⟨rfl, hb6⟩))
    refine wp_nameE ?_
    intro w7 hw7
    have hB6 : Below w5.heap.size w5 w6 := ((Below.refl _ _).alloc (Nat.le_refl _) _).next hb6
    have hb7 : Below w5.heap.size w5 w7 := hB6.next (by rw [hw7]; exact (by go_grown))
    have K6 : Blk w7 w6.heap.size 102 #[.int .u8 11, .int .i64 2, .int .i64 1, .int .i64 s.pos, .int .i64 s.len] := by rw [hw7]; exact (by repeat' (first | assumption | exact Blk.new' (by simp) _ _ | apply Blk.alloc | apply Blk.drew))
    have HK6 := Lib.hid K6
    have hC7 := HC5.out.next hb7
    clear hw7 K6 z_4 T_4 F_4
    refine wp_region_pred (n := 12) (by kernel_rfl) (by kernel_rfl) (by kernel_rfl) (PrItem cb s.pos s.len) PrItem_next ?_ ?_
    · intro i o hi ho a W G
      match i, hi, ho, G with
      | 0, _, ho, G =>
        obtain rfl := Option.some.inj ho
        exact y_move (.tmp 0) rfl (eval_tmp ((G.o 0 (by kernel_rfl)).trans rfl))
      | 1, _, ho, G =>
        obtain rfl := Option.some.inj ho
        exact y_ints2 _ _ (1) (0) rfl rfl rfl (fun v w' h => h)
      | 2, _, ho, G =>
        obtain rfl := Option.some.inj ho
        obtain ⟨v1, e1, h1⟩ := G.p 1 33 (by decide) rfl (by kernel_rfl)
        exact y_instr2 _ _ _ 13 (1) (0) v1 rfl rfl (eval_tmp e1) h1 (fun _ => rfl)
      | 3, _, ho, G =>
        obtain rfl := Option.some.inj ho
        exact y_load (.tmp 8) rfl w6.heap.size _ _ _ _ _ _ (eval_tmp ((G.o 8 (by kernel_rfl)).trans rfl)) (HK6.out.next G.b) rfl
      | 4, _, ho, G =>
        obtain rfl := Option.some.inj ho
        exact y_ints2 _ _ (3) (2) rfl rfl rfl (fun v w' h => h)
      | 5, _, ho, G =>
        obtain rfl := Option.some.inj ho
        obtain ⟨v4, e4, h4⟩ := G.p 4 36 (by decide) rfl (by kernel_rfl)
        exact y_instr2 _ _ _ 3 (3) (2) v4 rfl rfl (eval_tmp e4) h4 (fun _ => rfl)
      | 6, _, ho, G =>
        obtain rfl := Option.some.inj ho
        exact y_load (.tmp 8) rfl w6.heap.size _ _ _ _ _ _ (eval_tmp ((G.o 8 (by kernel_rfl)).trans rfl)) (HK6.out.next G.b) rfl
      | 7, _, ho, G =>
        obtain rfl := Option.some.inj ho
        exact y_ints2 _ _ (1) (0) rfl rfl rfl (fun v w' h => h)
      | 8, _, ho, G =>
        obtain rfl := Option.some.inj ho
        obtain ⟨v7, e7, h7⟩ := G.p 7 39 (by decide) rfl (by kernel_rfl)
        exact y_instr2 _ _ _ 12 (1) (0) v7 rfl rfl (eval_tmp e7) h7 (fun _ => rfl)
      | 9, _, ho, G =>
        obtain rfl := Option.some.inj ho
        exact y_ints2 _ _ (3) (0) rfl rfl rfl (fun v w' h => h)
      | 10, _, ho, G =>
        obtain rfl := Option.some.inj ho
        obtain ⟨v9, e9, h9⟩ := G.p 9 41 (by decide) rfl (by kernel_rfl)
        exact y_instr2 _ _ _ 12 (3) (0) v9 rfl rfl (eval_tmp e9) h9 (fun _ => rfl)
      | 11, _, ho, G =>
        obtain rfl := Option.some.inj ho
        obtain ⟨v2, e2, h2⟩ := G.p 2 34 (by decide) rfl (by kernel_rfl)
        obtain ⟨v3, e3, h3⟩ := G.p 3 35 (by decide) rfl (by kernel_rfl)
        obtain ⟨v5, e5, h5⟩ := G.p 5 37 (by decide) rfl (by kernel_rfl)
        obtain ⟨v6, e6, h6⟩ := G.p 6 38 (by decide) rfl (by kernel_rfl)
        obtain ⟨v8, e8, h8⟩ := G.p 8 40 (by decide) rfl (by kernel_rfl)
        obtain ⟨v10, e10, h10⟩ := G.p 10 42 (by decide) rfl (by kernel_rfl)
        exact y_ins6 _ _ _ _ _ _ _ _ _ _ _ _ rfl (eval_tmp (e2.trans (congrArg some h2))) (eval_tmp (e3.trans (congrArg some h3))) (eval_tmp (e5.trans (congrArg some h5))) (eval_tmp (e6.trans (congrArg some h6))) (eval_tmp (e8.trans (congrArg some h8))) (eval_tmp (e10.trans (congrArg some h10))) (fun v w' h => h)
    · intro o ho a W G
      obtain rfl := Option.some.inj ho
      obtain ⟨v0, e0, h0⟩ := G.p 0 32 (by decide) rfl (by kernel_rfl)
      obtain ⟨v11, e11, h11⟩ := G.p 11 43 (by decide) rfl (by kernel_rfl)
      refine y_emit _ _ _ 6 v11 rfl (eval_tmp (e0.trans (congrArg some h0))) (eval_tmp e11) h11 rfl (hC7.next G.b) (by have := HL.out; (try simp only [List.length_append, List.length_cons, List.length_nil]); omega) (fun q' w' hc he => ?_)
      refine bodyPost_end (results_none rfl _ _ _) G.d ⟨_, rfl, ?_, HE5.out.trans (Emt.pre (hb7.next G.b) he)⟩
      simpa only [List.append_assoc, List.cons_append, List.nil_append] using hc
end Go.Proofs.YtbijhlgdilkopaaGreatDoor

/- The act behind a region that drew its order. -/
set_option linter.unusedVariables false
namespace Bk
open Go Go.RowKit
def putAll (b : Array Value) (ds : List Nat) (a : Array Value) : Array Value := ds.foldl (fun arr t => arr.setIfInBounds t (b.getD t undef)) a
theorem putAll_size (b : Array Value) : ∀ (ds : List Nat) (a : Array Value), (putAll b ds a).size = a.size
  | [], a => rfl
  | t :: ds, a => by unfold putAll; rw [List.foldl_cons]; exact (putAll_size b ds _).trans (by simp)
theorem putAll_out (b : Array Value) (i : Nat) : ∀ (ds : List Nat) (a : Array Value), i ∉ ds → (putAll b ds a)[i]? = a[i]?
  | [], a, _ => rfl
  | t :: ds, a, h => by
    unfold putAll; rw [List.foldl_cons]
    refine (putAll_out b i ds _ (fun e => h (List.mem_cons_of_mem _ e))).trans ?_
    rw [Array.getElem?_setIfInBounds, if_neg (fun e => h (by rw [e]; exact List.mem_cons_self))]
theorem putAll_in (b : Array Value) (i : Nat) : ∀ (ds : List Nat) (a : Array Value), i ∈ ds → i < a.size → (putAll b ds a)[i]? = some (b.getD i undef)
  | [], a, h, _ => nomatch h
  | t :: ds, a, h, hi => by
    unfold putAll; rw [List.foldl_cons]
    by_cases e : i ∈ ds
    · exact putAll_in b i ds _ e (by simpa using hi)
    · have ht : i = t := by rcases List.mem_cons.1 h with h | h; exact h; exact absurd h e
      subst ht
      refine (putAll_out b i ds _ e).trans ?_
      rw [Array.getElem?_setIfInBounds, if_pos rfl, if_pos hi]
/-- The act is the old one with the written slots changed. -/
theorem Got.act {ops : Array Oper} {n : Nat} {Pr : Nat → Value → World → Prop} {W0 w : World} {a0 a : Act} {dep : Nat → Bool} (G : Got ops n Pr W0 a0 dep a w) (ds : List Nat) (hds : ((List.range a0.tmps.size).all fun t => !isDst ops n t || ds.contains t) = true) : a = { tmps := putAll a.tmps ds a0.tmps, defers := a0.defers } := by
  have e : a.tmps = putAll a.tmps ds a0.tmps := by
    apply Array.ext_getElem?
    intro i
    by_cases hi : i < a0.tmps.size
    · by_cases hd : i ∈ ds
      · rw [putAll_in _ i ds _ hd hi]
        have hi2 : i < a.tmps.size := by rw [G.s]; exact hi
        simp [Array.getD, hi2]
      · rw [putAll_out _ i ds _ hd]
        refine G.o i ?_
        have := List.all_eq_true.1 hds i (List.mem_range.2 hi)
        simp only [Bool.or_eq_true, Bool.not_eq_true', List.contains_iff_mem] at this
        rcases this with h | h
        · exact h
        · exact absurd h hd
    · rw [Array.getElem?_eq_none (by rw [G.s]; omega), Array.getElem?_eq_none (by rw [putAll_size]; omega)]
  obtain ⟨ts, df⟩ := a
  have hd := G.d
  simp only at hd e
  rw [hd]
  exact congrArg (fun t => { tmps := t, defers := a0.defers : Act }) e
end Bk

/- The coder: binary. Printed by gen_egq.py. -/
set_option linter.unusedVariables false
set_option linter.unusedSimpArgs false
set_option maxRecDepth 100000
set_option maxHeartbeats 4000000
namespace Go.Proofs.YtbijhlgdilkopaaGreatDoor
open Go.RowKit Bk
def PrBin3 (cb : Nat) (p : Int) : Nat → Value → World → Prop
  | 0, v, _ => v = .pointer (some ⟨cb, 0, none⟩)
  | 1, v, w => SlB #[.int .i64 1, .int .i64 0] 2 v w
  | 2, v, _ => v = insV ⟨13, 1, 0, 0, 0⟩
  | 3, v, _ => v = insV ⟨10, 1, p, 0, 0⟩
  | 4, v, w => SlB (codeCells [⟨13, 1, 0, 0, 0⟩, ⟨10, 1, p, 0, 0⟩]).toArray 2 v w
  | _, _, _ => True
theorem PrBin3_next {cb : Nat} {p : Int} : ∀ i v w w', PrBin3 cb p i v w → Below w.heap.size w w' → PrBin3 cb p i v w' := by
  intro i v w w' h hb
  match i with
  | 0 => exact h
  | 1 => exact SlB.next h hb
  | 2 => exact h
  | 3 => exact h
  | 4 => exact SlB.next h hb
  | n + 5 => trivial
def PrBin5 (cb b : Nat) (p k : Int) : Nat → Value → World → Prop
  | 0, v, _ => v = .pointer (some ⟨cb, 0, none⟩)
  | 1, v, w => SlB #[.int .i64 2, .int .i64 0] 2 v w
  | 2, v, _ => v = insV ⟨13, 2, 0, 0, 0⟩
  | 3, v, _ => v = insV ⟨10, 1, p, 0, 0⟩
  | 4, v, _ => v = .pointer (some ⟨b, 0, none⟩)
  | 5, v, _ => v = .int .u8 k
  | 6, v, _ => v = .int .i64 k
  | 7, v, w => SlB #[.int .i64 3, .int .i64 1, .int .i64 2, .int .i64 k] 4 v w
  | 8, v, _ => v = insV ⟨9, 3, 1, 2, k⟩
  | 9, v, w => SlB #[.int .i64 1, .int .i64 0] 2 v w
  | 10, v, _ => v = insV ⟨12, 1, 0, 0, 0⟩
  | 11, v, w => SlB #[.int .i64 2, .int .i64 0] 2 v w
  | 12, v, _ => v = insV ⟨12, 2, 0, 0, 0⟩
  | 13, v, w => SlB #[.int .i64 3, .int .i64 0] 2 v w
  | 14, v, _ => v = insV ⟨12, 3, 0, 0, 0⟩
  | 15, v, w => SlB (codeCells [⟨13, 2, 0, 0, 0⟩, ⟨10, 1, p, 0, 0⟩, ⟨9, 3, 1, 2, k⟩, ⟨12, 1, 0, 0, 0⟩, ⟨12, 2, 0, 0, 0⟩, ⟨12, 3, 0, 0, 0⟩]).toArray 6 v w
  | _, _, _ => True
theorem PrBin5_next {cb b : Nat} {p k : Int} : ∀ i v w w', PrBin5 cb b p k i v w → Below w.heap.size w w' → PrBin5 cb b p k i v w' := by
  intro i v w w' h hb
  match i with
  | 0 => exact h
  | 1 => exact SlB.next h hb
  | 2 => exact h
  | 3 => exact h
  | 4 => exact h
  | 5 => exact h
  | 6 => exact h
  | 7 => exact SlB.next h hb
  | 8 => exact h
  | 9 => exact SlB.next h hb
  | 10 => exact h
  | 11 => exact SlB.next h hb
  | 12 => exact h
  | 13 => exact SlB.next h hb
  | 14 => exact h
  | 15 => exact SlB.next h hb
  | n + 16 => trivial
theorem e_binary {cb : Nat} {F : Option Addr} {nf cf : Nat} {cc ss : Int} {wB : World} {B : Nat} (hBw : B ≤ wB.heap.size) (hBc : B ≤ cb) (hcc0 : 0 ≤ cc) (hcc1 : cc ≤ 1000000) {C D : Int → Prg} {x y z : Nd} (hk : 8 ≤ x.k ∧ x.k ≤ 23) (hn : x.n = 2) (hky : Kid wB B x 0 y) (hkz : Kid wB B x 1 z) {M : Int} (hM : M + 1 ≤ 1000000) (IH : ExprAt wB B cb F nf cf cc ss M C y) (JH : ExprAt wB B cb F nf cf cc ss (M + 1) D z)
    (w : World) (p : Int) (l : Prg) (q : Value) (hb : Below B wB w) (hC : Cod w cb F nf cf cc ss q l) (hp0 : 0 ≤ p) (hp1 : p ≤ M) (hl : l.length + (C p).length + (D (p + 1)).length + 2 ≤ 900000) :
    Calls Tryz.prog 52 #[.pointer (some ⟨cb, 0, none⟩), .agg #[.int .u8 x.k, .int .i64 x.num, .string x.nm, .slice x.A x.n x.cap], .int .i64 p] w fun e w' => ∃ q', e = .returned (.tuple #[]) ∧ Cod w' cb F nf cf cc ss q' (l ++ (C p ++ [⟨13, 1, 0, 0, 0⟩, ⟨10, 1, cc + p, 0, 0⟩] ++ D (p + 1) ++ [⟨13, 2, 0, 0, 0⟩, ⟨10, 1, cc + p, 0, 0⟩, ⟨9, 3, 1, 2, x.k⟩, ⟨12, 1, 0, 0, 0⟩, ⟨12, 2, 0, 0, 0⟩, ⟨12, 3, 0, 0, 0⟩])) ∧ Emt cb w w' q q' := by
  have HL := Lib.hid hl; have HIH := Lib.hid IH; have HJH := Lib.hid JH; have HKY := Lib.hid hky; have HKZ := Lib.hid hkz; have HC := Lib.hid hC; have HB := Lib.hid hb
  have hcbl := hC.blk.lt
  have hqo := fun k hk => (own_gE hC.own (k := k) hk).2
  have HQO := Lib.hid hqo
  obtain ⟨k, num, nm, A, n, cap⟩ := x
  dsimp only at *
  subst hn
  have hsum : IntKind.i64.wrap (cc + p) = cc + p := wrap_small _ (by omega) (by omega)
  clear hb hC hky hkz IH JH hl hqo
  go_enter Tryz.func52, Tryz.ntmps52
  go_upto_region 1 with fail
  refine wp_nameE ?_
  intro w1 hw1
  have hb1 : Below w.heap.size w w1 := by rw [hw1]; exact (by go_grown)
  have K4 : Blk w1 w.heap.size 24 #[.int .u8 k, .int .i64 num, .string nm, .slice A 2 cap] := by rw [hw1]; exact (by repeat' (first | assumption | exact Blk.new' (by simp) _ _ | apply Blk.alloc | apply Blk.drew))
  have HK4 := Lib.hid K4
  have HC1 := Lib.hid (HC.out.next hb1)
  have HB1 := Lib.hid hb1
  have KC := HC1.out.blk
  clear hw1 K4 hb1 HC
  obtain ⟨z_c, T_c, F_c⟩ := KC.open_
  clear KC
  go_upto_region 2 with (go_at_call 47; ((with_reducible refine (e_instr2 10 1 (cc + p) _ _ _ (Blk.new w1 _ _)).mono ?_); rintro e w2 ⟨rfl, hb2⟩))
  refine wp_nameE ?_
  intro w3 hw3
  have hB2 : Below w1.heap.size w1 w2 := ((Below.refl _ _).alloc (Nat.le_refl _) _).next hb2
  have hb3 : Below w1.heap.size w1 w3 := hB2.next (by rw [hw3]; exact (by go_grown))
  have K6 : Blk w3 w2.heap.size 102 #[.int .u8 10, .int .i64 1, .int .i64 (cc + p), .int .i64 0, .int .i64 0] := by rw [hw3]; exact (by repeat' (first | assumption | exact Blk.new' (by simp) _ _ | apply Blk.alloc | apply Blk.drew))
  have x6 : w.heap.size ≤ w2.heap.size := by have := HB1.out.size; have := hB2.size; omega
  have HK6 := Lib.hid K6
  have K4 := HK4.out.next hb3
  have HK43 := Lib.hid K4
  have HC3 := Lib.hid (HC1.out.next hb3)
  have HB3 := Lib.hid (HB1.out.next hb3)
  have HBB3 := Lib.hid (HB.out.trans (HB3.out.mono (by have := HB.out.size; omega)))
  obtain ⟨g, o, hA2, hgB, e0, e1, e2, e3⟩ := HKY.out.cells HBB3.out
  simp only at hA2
  subst hA2
  rw [Nat.zero_mul, Nat.add_zero] at e0 e1 e2 e3
  clear hw3 hb3 hb2 hB2 K6 T_c z_c F_c HC1 HK4 HB1 HKY
  obtain ⟨z_4, T_4, F_4⟩ := K4.open_
  clear K4
  go_upto_region 3 with fail
  refine (HIH.out w3 p l _ HBB3.out HC3.out hp0 (by omega) (by have := HL.out; omega)).mono ?_
  rintro en w4 ⟨q4, rfl, hc4, he4⟩
  have HK44 := Lib.hid (he4.keep HK43.out (by omega) (fun e => by have := HQO.out _ e; omega))
  have HK64 := Lib.hid (he4.keep HK6.out (by omega) (fun e => by have := HQO.out _ e; omega))
  have HO44 := Lib.hid (he4.off HK43.out.lt (fun e => by have := HQO.out _ e; omega))
  have HO64 := Lib.hid (he4.off HK6.out.lt (fun e => by have := HQO.out _ e; omega))
  have hC4 := hc4
  have HBB4 := Lib.hid (HBB3.out.trans (he4.below hBc HC3.out))
  have HE4 := Lib.hid (Emt.pre HB3.out he4)
  clear hc4 he4 T_4 F_4 z_4 HIH HC3 e0 e1 e2 e3 HK43 HK6 HQO
  go_upto_region 3 with fail
  refine wp_region_pred (n := 5) (by kernel_rfl) (by kernel_rfl) (by kernel_rfl) (PrBin3 cb (cc + p)) PrBin3_next ?_ ?_
  · intro i o hi ho a W G
    match i, hi, ho, G with
    | 0, _, ho, G =>
      obtain rfl := Option.some.inj ho
      exact y_move (.tmp 0) rfl (eval_tmp ((G.o 0 (by kernel_rfl)).trans rfl))
    | 1, _, ho, G =>
      obtain rfl := Option.some.inj ho
      exact y_ints2 _ _ (1) (0) rfl rfl rfl (fun v w' h => h)
    | 2, _, ho, G =>
      obtain rfl := Option.some.inj ho
      obtain ⟨v1, e1, h1⟩ := G.p 1 24 (by decide) rfl (by kernel_rfl)
      exact y_instr2 _ _ _ 13 (1) (0) v1 rfl rfl (eval_tmp e1) h1 (fun _ => rfl)
    | 3, _, ho, G =>
      obtain rfl := Option.some.inj ho
      exact y_load (.tmp 6) rfl w2.heap.size _ _ _ _ _ _ (eval_tmp ((G.o 6 (by kernel_rfl)).trans rfl)) (HK64.out.next G.b) rfl
    | 4, _, ho, G =>
      obtain rfl := Option.some.inj ho
      obtain ⟨v2, e2, h2⟩ := G.p 2 25 (by decide) rfl (by kernel_rfl)
      obtain ⟨v3, e3, h3⟩ := G.p 3 26 (by decide) rfl (by kernel_rfl)
      exact y_ins2 _ _ _ _ rfl (eval_tmp (e2.trans (congrArg some h2))) (eval_tmp (e3.trans (congrArg some h3))) (fun v w' h => h)
  · intro o ho a W G
    obtain rfl := Option.some.inj ho
    obtain ⟨v0, e0, h0⟩ := G.p 0 23 (by decide) rfl (by kernel_rfl)
    obtain ⟨v4, e4, h4⟩ := G.p 4 27 (by decide) rfl (by kernel_rfl)
    refine y_emit _ _ _ 2 v4 rfl (eval_tmp (e0.trans (congrArg some h0))) (eval_tmp e4) h4 rfl (hC4.next G.b) (by have := HL.out; (try simp only [List.length_append, List.length_cons, List.length_nil]); omega) (fun q' w' hc he => ?_)
    have HC5 := Lib.hid hc
    have HE5 := Lib.hid (HE4.out.trans (Emt.pre G.b he))
    have HK45 := Lib.hid (he.keep (HK44.out.next G.b) (by omega) HO44.out)
    have HK65 := Lib.hid (he.keep (HK64.out.next G.b) (by omega) HO64.out)
    have HO45 := Lib.hid (he.off (HK44.out.next G.b).lt HO44.out)
    have HO65 := Lib.hid (he.off (HK64.out.next G.b).lt HO64.out)
    have HBB5 := Lib.hid (HBB4.out.trans ((G.b.mono (by have := HBB4.out.size; omega)).trans (he.below hBc (hC4.next G.b))))
    change Exit.then _ _ .normal (Act.put _ (some 28) _) _
    rw [G.act [23, 24, 25, 26, 27] (by kernel_rfl)]
    simp only [putAll, List.foldl_cons, List.foldl_nil, Act.put, List.setIfInBounds_toArray, List.set_cons_succ, List.set_cons_zero]
    generalize a.tmps.getD 23 undef = u23
    generalize a.tmps.getD 24 undef = u24
    generalize a.tmps.getD 25 undef = u25
    generalize a.tmps.getD 26 undef = u26
    generalize a.tmps.getD 27 undef = u27
    clear G e0 h0 e4 h4 hc he HK44 HK64 HO44 HO64 HE4 hC4 HBB4 HBB3 HB3
    skip
    obtain ⟨gz, oz, hA2, hgz, e0, e1, e2, e3⟩ := HKZ.out.cells HBB5.out
    simp only at hA2
    injection hA2 with hA2
    injection hA2 with hg1 hg2
    subst hg1 hg2
    have f0 : w'.cell? ⟨g, o + 4, none⟩ = _ := e0
    have f1 : w'.cell? ⟨g, o + 5, none⟩ = _ := e1
    have f2 : w'.cell? ⟨g, o + 6, none⟩ = _ := e2
    have f3 : w'.cell? ⟨g, o + 7, none⟩ = _ := e3
    have hp9 : IntKind.i64.wrap (p + 1) = p + 1 := wrap_small _ (by omega) (by omega)
    clear e0 e1 e2 e3 HKZ
    obtain ⟨z_4, T_4, F_4⟩ := HK45.out.open_
    go_upto_region 5 with fail
    refine (HJH.out w' (p + 1) _ _ HBB5.out HC5.out (by omega) (by omega) (by have := HL.out; simp only [List.length_append, List.length_cons, List.length_nil]; omega)).mono ?_
    rintro en w6 ⟨q6, rfl, hc6, he6⟩
    have HK46 := Lib.hid (he6.keep HK45.out (by omega) HO45.out)
    have HK66 := Lib.hid (he6.keep HK65.out (by omega) HO65.out)
    have HE6 := Lib.hid (HE5.out.trans he6)
    have hC6 := hc6
    clear hc6 he6 T_4 F_4 z_4 f0 f1 f2 f3 HJH HBB5 HC5 HK45 HK65 HO45 HO65 HE5
    go_upto_region 5 with fail
    refine wp_region_pred (n := 16) (by kernel_rfl) (by kernel_rfl) (by kernel_rfl) (PrBin5 cb w.heap.size (cc + p) k) PrBin5_next ?_ ?_
    · intro i o hi ho a W G
      match i, hi, ho, G with
      | 0, _, ho, G =>
        obtain rfl := Option.some.inj ho
        exact y_move (.tmp 0) rfl (eval_tmp ((G.o 0 (by kernel_rfl)).trans rfl))
      | 1, _, ho, G =>
        obtain rfl := Option.some.inj ho
        exact y_ints2 _ _ (2) (0) rfl rfl rfl (fun v w' h => h)
      | 2, _, ho, G =>
        obtain rfl := Option.some.inj ho
        obtain ⟨v1, e1, h1⟩ := G.p 1 38 (by decide) rfl (by kernel_rfl)
        exact y_instr2 _ _ _ 13 (2) (0) v1 rfl rfl (eval_tmp e1) h1 (fun _ => rfl)
      | 3, _, ho, G =>
        obtain rfl := Option.some.inj ho
        exact y_load (.tmp 6) rfl w2.heap.size _ _ _ _ _ _ (eval_tmp ((G.o 6 (by kernel_rfl)).trans rfl)) (HK66.out.next G.b) rfl
      | 4, _, ho, G =>
        obtain rfl := Option.some.inj ho
        have ev : a.tmps[4]? = some (.pointer (some ⟨w.heap.size, 0, none⟩)) := (G.o 4 (by kernel_rfl)).trans rfl
        unfold Oper.wp execOp
        go_simp
        (try simp only [ev, Option.getD_some])
        (try go_simp)
        exact ⟨_, rfl, rfl, Below.refl _ _⟩
      | 5, _, ho, G =>
        obtain rfl := Option.some.inj ho
        obtain ⟨v4, e4, h4⟩ := G.p 4 41 (by decide) rfl (by kernel_rfl)
        have h4_ : v4 = .pointer (some ⟨w.heap.size, 0, none⟩) := h4
        subst h4_
        have ev := e4
        obtain ⟨z_4, T_4, F_4⟩ := (HK46.out.next G.b).open_
        unfold Oper.wp execOp
        go_simp
        (try simp only [ev, Option.getD_some])
        (try go_simp)
        exact ⟨_, rfl, rfl, Below.refl _ _⟩
      | 6, _, ho, G =>
        obtain rfl := Option.some.inj ho
        obtain ⟨v5, e5, h5⟩ := G.p 5 42 (by decide) rfl (by kernel_rfl)
        have h5_ : v5 = .int .u8 k := h5
        subst h5_
        have ev := e5
        have hk9 : IntKind.i64.wrap k = k := wrap_small _ (by omega) (by omega)
        unfold Oper.wp execOp
        go_simp
        (try simp only [ev, Option.getD_some])
        (try go_simp)
        exact ⟨_, rfl, rfl, Below.refl _ _⟩
      | 7, _, ho, G =>
        obtain rfl := Option.some.inj ho
        obtain ⟨v6, e6, h6⟩ := G.p 6 43 (by decide) rfl (by kernel_rfl)
        exact y_ints4 _ _ _ _ (3) (1) (2) (k) rfl rfl rfl rfl (eval_tmp (e6.trans (congrArg some h6))) (fun v w' h => h)
      | 8, _, ho, G =>
        obtain rfl := Option.some.inj ho
        obtain ⟨v7, e7, h7⟩ := G.p 7 44 (by decide) rfl (by kernel_rfl)
        exact y_instr4 _ _ _ 9 (3) (1) (2) (k) v7 rfl rfl (eval_tmp e7) h7 (fun _ => rfl)
      | 9, _, ho, G =>
        obtain rfl := Option.some.inj ho
        exact y_ints2 _ _ (1) (0) rfl rfl rfl (fun v w' h => h)
      | 10, _, ho, G =>
        obtain rfl := Option.some.inj ho
        obtain ⟨v9, e9, h9⟩ := G.p 9 46 (by decide) rfl (by kernel_rfl)
        exact y_instr2 _ _ _ 12 (1) (0) v9 rfl rfl (eval_tmp e9) h9 (fun _ => rfl)
      | 11, _, ho, G =>
        obtain rfl := Option.some.inj ho
        exact y_ints2 _ _ (2) (0) rfl rfl rfl (fun v w' h => h)
      | 12, _, ho, G =>
        obtain rfl := Option.some.inj ho
        obtain ⟨v11, e11, h11⟩ := G.p 11 48 (by decide) rfl (by kernel_rfl)
        exact y_instr2 _ _ _ 12 (2) (0) v11 rfl rfl (eval_tmp e11) h11 (fun _ => rfl)
      | 13, _, ho, G =>
        obtain rfl := Option.some.inj ho
        exact y_ints2 _ _ (3) (0) rfl rfl rfl (fun v w' h => h)
      | 14, _, ho, G =>
        obtain rfl := Option.some.inj ho
        obtain ⟨v13, e13, h13⟩ := G.p 13 50 (by decide) rfl (by kernel_rfl)
        exact y_instr2 _ _ _ 12 (3) (0) v13 rfl rfl (eval_tmp e13) h13 (fun _ => rfl)
      | 15, _, ho, G =>
        obtain rfl := Option.some.inj ho
        obtain ⟨v2, e2, h2⟩ := G.p 2 39 (by decide) rfl (by kernel_rfl)
        obtain ⟨v3, e3, h3⟩ := G.p 3 40 (by decide) rfl (by kernel_rfl)
        obtain ⟨v8, e8, h8⟩ := G.p 8 45 (by decide) rfl (by kernel_rfl)
        obtain ⟨v10, e10, h10⟩ := G.p 10 47 (by decide) rfl (by kernel_rfl)
        obtain ⟨v12, e12, h12⟩ := G.p 12 49 (by decide) rfl (by kernel_rfl)
        obtain ⟨v14, e14, h14⟩ := G.p 14 51 (by decide) rfl (by kernel_rfl)
        exact y_ins6 _ _ _ _ _ _ _ _ _ _ _ _ rfl (eval_tmp (e2.trans (congrArg some h2))) (eval_tmp (e3.trans (congrArg some h3))) (eval_tmp (e8.trans (congrArg some h8))) (eval_tmp (e10.trans (congrArg some h10))) (eval_tmp (e12.trans (congrArg some h12))) (eval_tmp (e14.trans (congrArg some h14))) (fun v w' h => h)
      | j + 16, hi, _, _ => exact absurd hi (by omega)
    · intro o ho a W G
      obtain rfl := Option.some.inj ho
      obtain ⟨v0, e0, h0⟩ := G.p 0 37 (by decide) rfl (by kernel_rfl)
      obtain ⟨v15, e15, h15⟩ := G.p 15 52 (by decide) rfl (by kernel_rfl)
      refine y_emit _ _ _ 6 v15 rfl (eval_tmp (e0.trans (congrArg some h0))) (eval_tmp e15) h15 rfl (hC6.next G.b) (by have := HL.out; simp only [List.length_append, List.length_cons, List.length_nil]; omega) (fun q' w' hc he => ?_)
      refine bodyPost_end (results_none rfl _ _ _) G.d ⟨_, rfl, ?_, HE6.out.trans (Emt.pre G.b he)⟩
      simpa only [List.append_assoc, List.cons_append, List.nil_append] using hc
  
end Go.Proofs.YtbijhlgdilkopaaGreatDoor
