/- Several texts in one: EgS EgV EgW. -/
import Derived.Test.YtbijhlgdilkopaaGreatDoorZEgI
import Derived.Test.YtbijhlgdilkopaaGreatDoorBa
set_option linter.unusedVariables false
set_option linter.unusedSimpArgs false
/- ast.Size, ast.Depth, the reference's Big. -/
set_option linter.unusedVariables false
set_option linter.unusedSimpArgs false
set_option maxRecDepth 100000
set_option maxHeartbeats 4000000
namespace Bk
open Go Go.RowKit
def Ex.kids : Ex → List Ex
  | .item _ a => [a]
  | .un _ a => [a]
  | .bin _ a b => [a, b]
  | _ => []
def Ex.sz : Ex → Nat
  | .item _ a => 1 + a.sz
  | .un _ a => 1 + a.sz
  | .bin _ a b => 1 + (a.sz + b.sz)
  | _ => 1
def Ex.dp : Ex → Nat
  | .item _ a => a.dp + 1
  | .un _ a => a.dp + 1
  | .bin _ a b => max a.dp b.dp + 1
  | _ => 1
theorem Ex.ind {P : Ex → Prop} (h : ∀ e, (∀ k ∈ e.kids, P k) → P e) : ∀ e, P e := by
  intro e
  induction e with
  | num v => exact h _ (by simp [Ex.kids])
  | var s => exact h _ (by simp [Ex.kids])
  | top s => exact h _ (by simp [Ex.kids])
  | size s => exact h _ (by simp [Ex.kids])
  | item s a ih => exact h _ (by simpa [Ex.kids] using ih)
  | un op a ih => exact h _ (by simpa [Ex.kids] using ih)
  | bin op a b iha ihb => exact h _ (by simp [Ex.kids]; exact ⟨iha, ihb⟩)
theorem Ex.kids_le (e : Ex) : e.kids.length ≤ 2 := by cases e <;> simp [Ex.kids]
/-- The sizes of the first j kids, summed. -/
def Ex.szTo (e : Ex) (j : Nat) : Nat := ((e.kids.take j).map Ex.sz).sum
def Ex.dpTo (e : Ex) (j : Nat) : Nat := ((e.kids.take j).map Ex.dp).foldl max 0
theorem Ex.sz_eq (e : Ex) : e.sz = 1 + e.szTo e.kids.length := by unfold Ex.szTo; rw [List.take_length]; cases e <;> simp [Ex.kids, Ex.sz]
theorem Ex.dp_eq (e : Ex) : e.dp = e.dpTo e.kids.length + 1 := by unfold Ex.dpTo; rw [List.take_length]; cases e <;> simp [Ex.kids, Ex.dp]
theorem Ex.szTo_succ (e : Ex) {j : Nat} {a : Ex} (h : e.kids[j]? = some a) : e.szTo (j + 1) = e.szTo j + a.sz := by
  unfold Ex.szTo
  rw [List.take_add_one, h]; simp
theorem Ex.dpTo_succ (e : Ex) {j : Nat} {a : Ex} (h : e.kids[j]? = some a) : e.dpTo (j + 1) = max (e.dpTo j) a.dp := by
  unfold Ex.dpTo
  rw [List.take_add_one, h]; simp
theorem Ex.szTo_le (e : Ex) (j : Nat) : 1 + e.szTo j ≤ e.sz := by
  rw [e.sz_eq]
  unfold Ex.szTo
  have : ((e.kids.take j).map Ex.sz).sum ≤ ((e.kids.take e.kids.length).map Ex.sz).sum := by
    rw [List.take_length]
    conv => rhs; rw [← List.take_append_drop j e.kids, List.map_append, List.sum_append]
    exact Nat.le_add_right _ _
  omega
theorem Ex.dp_le (e : Ex) : e.dp ≤ e.sz := by
  induction e with
  | num v => simp [Ex.dp, Ex.sz]
  | var s => simp [Ex.dp, Ex.sz]
  | top s => simp [Ex.dp, Ex.sz]
  | size s => simp [Ex.dp, Ex.sz]
  | item s a ih => simp only [Ex.dp, Ex.sz]; omega
  | un op a ih => simp only [Ex.dp, Ex.sz]; omega
  | bin op a b iha ihb => simp only [Ex.dp, Ex.sz]; omega
theorem Ex.kid_sz (e : Ex) {j : Nat} {a : Ex} (h : e.kids[j]? = some a) : a.sz < e.sz ∧ a.dp < e.dp := by
  cases e with
  | item s b => rcases j with _ | j <;> simp [Ex.kids] at h; subst h; simp only [Ex.sz, Ex.dp]; omega
  | un op b => rcases j with _ | j <;> simp [Ex.kids] at h; subst h; simp only [Ex.sz, Ex.dp]; omega
  | bin op b c =>
    rcases j with _ | _ | j <;> simp [Ex.kids] at h
    · subst h; simp only [Ex.sz, Ex.dp]; omega
    · subst h; simp only [Ex.sz, Ex.dp]; omega
  | num v => simp [Ex.kids] at h
  | var s => simp [Ex.kids] at h
  | top s => simp [Ex.kids] at h
  | size s => simp [Ex.kids] at h
theorem EV.kids {w : World} {B : Nat} {nb : ByteArray → Bool} {e : Ex} {x : Nd} (h : EV w B nb e x) : x.n = e.kids.length ∧ ∀ i a, e.kids[i]? = some a → ∃ y, Kid w B x i y ∧ EV w B nb a y := by
  cases e with
  | num v => exact ⟨h.2.2.2.2, fun i a ha => by simp [Ex.kids] at ha⟩
  | var s => exact ⟨h.2.2.2.2, fun i a ha => by simp [Ex.kids] at ha⟩
  | top s => exact ⟨h.2.2.2.2, fun i a ha => by simp [Ex.kids] at ha⟩
  | size s => exact ⟨h.2.2.2.2, fun i a ha => by simp [Ex.kids] at ha⟩
  | item s b =>
    obtain ⟨_, _, _, _, h5, y, h6, h7⟩ := h
    exact ⟨h5, fun i a ha => by rcases i with _ | i <;> simp [Ex.kids] at ha; subst ha; exact ⟨y, h6, h7⟩⟩
  | un op b =>
    obtain ⟨_, _, _, _, h5, y, h6, h7⟩ := h
    exact ⟨h5, fun i a ha => by rcases i with _ | i <;> simp [Ex.kids] at ha; subst ha; exact ⟨y, h6, h7⟩⟩
  | bin op b c =>
    obtain ⟨_, _, _, _, h5, y, z, h6, h7, h8, h9⟩ := h
    exact ⟨h5, fun i a ha => by
      rcases i with _ | _ | i <;> simp [Ex.kids] at ha
      · subst ha; exact ⟨y, h6, h8⟩
      · subst ha; exact ⟨z, h7, h9⟩⟩
/-- What the reference's count answers. -/
def cntL : List Int → Int → Int
  | [], s => s
  | c :: l, s => if c < 0 ∨ 1000 < s then -1 else cntL l (s + c)
def Ex.cnt : Ex → Nat → Int
  | .item _ a, p => if p = 0 then -1 else cntL [a.cnt (p - 1)] 1
  | .un _ a, p => if p = 0 then -1 else cntL [a.cnt (p - 1)] 1
  | .bin _ a b, p => if p = 0 then -1 else cntL [a.cnt (p - 1), b.cnt (p - 1)] 1
  | _, p => if p = 0 then -1 else 1
theorem Ex.cnt_zero (e : Ex) : e.cnt 0 = -1 := by cases e <;> simp [Ex.cnt]
theorem Ex.cnt_succ (e : Ex) (p : Nat) : e.cnt (p + 1) = cntL (e.kids.map fun k => k.cnt p) 1 := by cases e <;> simp [Ex.cnt, Ex.kids, cntL]
theorem Ex.cnt_sz (e : Ex) : ∀ p, 0 ≤ e.cnt p → e.cnt p = e.sz := by
  induction e with
  | num v => intro p h; unfold Ex.cnt at *; split at h <;> simp_all [Ex.sz]
  | var v => intro p h; unfold Ex.cnt at *; split at h <;> simp_all [Ex.sz]
  | top v => intro p h; unfold Ex.cnt at *; split at h <;> simp_all [Ex.sz]
  | size v => intro p h; unfold Ex.cnt at *; split at h <;> simp_all [Ex.sz]
  | item s a ih =>
    intro p h
    simp only [Ex.cnt, cntL, Ex.sz] at *
    split at h
    · omega
    · rename_i hp
      rw [if_neg hp]
      split at h
      · omega
      · rename_i hc
        rw [if_neg hc, ih _ (by omega)]; omega
  | un op a ih =>
    intro p h
    simp only [Ex.cnt, cntL, Ex.sz] at *
    split at h
    · omega
    · rename_i hp
      rw [if_neg hp]
      split at h
      · omega
      · rename_i hc
        rw [if_neg hc, ih _ (by omega)]; omega
  | bin op a b iha ihb =>
    intro p h
    simp only [Ex.cnt, cntL, Ex.sz] at *
    split at h
    · omega
    · rename_i hp
      rw [if_neg hp]
      split at h
      · omega
      · rename_i hc
        rw [if_neg hc]
        split at h
        · omega
        · rename_i hd
          rw [if_neg hd, iha _ (by omega), ihb _ (by omega)]; omega
/-- The cells of a kid. -/
theorem Kid.cells {w w' : World} {B i : Nat} {x y : Nd} (h : Kid w B x i y) (hb : Below B w w') : ∃ g o, x.A = some ⟨g, o, none⟩ ∧ g < B ∧ w'.cell? ⟨g, o + i * 4, none⟩ = some (.int .u8 y.k) ∧ w'.cell? ⟨g, o + i * 4 + 1, none⟩ = some (.int .i64 y.num) ∧ w'.cell? ⟨g, o + i * 4 + 2, none⟩ = some (.string y.nm) ∧ w'.cell? ⟨g, o + i * 4 + 3, none⟩ = some (.slice y.A y.n y.cap) := by
  obtain ⟨g, o, h1, h2, h3⟩ := h.next hb
  exact ⟨g, o, h1, h2, h3 0 _ rfl, h3 1 _ rfl, h3 2 _ rfl, h3 3 _ rfl⟩
end Bk
namespace Go.Proofs.YtbijhlgdilkopaaGreatDoor
open Go.RowKit Bk
theorem e_Size {w : World} {B : Nat} (hBw : B ≤ w.heap.size) : ∀ e : Ex, e.sz ≤ 1000000 → ∀ x, EV w B nameB e x → ∀ w', Below B w w' → Calls Tryz.prog 6 #[.agg #[.int .u8 x.k, .int .i64 x.num, .string x.nm, .slice x.A x.n x.cap]] w' fun en w'' => en = .returned (.int .i64 (e.sz : Int)) ∧ Below w'.heap.size w' w'' := by
  refine Ex.ind fun e ih hsz x hx w' hb => ?_
  obtain ⟨hn, hkid⟩ := hx.kids
  obtain ⟨k, num, nm, A, n, cap⟩ := x
  have HK := Lib.hid hkid; have HB := Lib.hid hb; have HIH := Lib.hid ih; have HN := Lib.hid hn; have HS := Lib.hid hsz
  have hn2 : n ≤ 2 := by have := e.kids_le; simp only at hn; omega
  obtain ⟨z, hz⟩ : ∃ z, e.sz = z := ⟨_, rfl⟩
  rw [hz]
  have HZ := Lib.hid hz
  clear hkid hb hx hn ih hsz hz
  dsimp only at *
  go_enter Tryz.func6, Tryz.ntmps6
  go_upto_region 1 with fail
  refine wp_nameE ?_
  intro w1 hw1
  have hB1 : Below w'.heap.size w' w1 := by rw [hw1]; exact (by go_grown)
  have K1 : Blk w1 w'.heap.size 24 #[.int .u8 k, .int .i64 num, .string nm, .slice A n cap] := by rw [hw1]; exact (by repeat' (first | assumption | exact Blk.new' (by simp) _ _ | apply Blk.alloc | apply Blk.drew))
  clear hw1
  obtain ⟨z_1, T_1, F_1⟩ := K1.open_
  go_wp2_with fail
  clear T_1 z_1 F_1
  go_loopw [3, 9] (fun v3 v9 wr => ∃ j : Nat, j ≤ n ∧ v9 = .int .i64 j ∧ v3 = .int .i64 ((1 + e.szTo j : Nat) : Int) ∧ Below w1.heap.size w1 wr) (fun _ v _ => n - (intOf v).toNat)
  case atStart => exact ⟨0, Nat.zero_le _, rfl, rfl, Below.refl _ _⟩
  case round =>
    obtain ⟨j, hj, rfl, rfl, hbr⟩ := hrel
    have hBr : Below w'.heap.size w' wr := hB1.next hbr
    have HBR := Lib.hid hbr
    clear hbr
    by_cases hjn : j < n
    · obtain ⟨a, ha⟩ : ∃ a, e.kids[j]? = some a := ⟨_, List.getElem?_eq_getElem (by have := HN.out; omega)⟩
      obtain ⟨y, hky, hvy⟩ := HK.out j a ha
      obtain ⟨g, o, hA2, hgB, c0, c1, c2, c3⟩ := hky.cells (HB.out.trans (hBr.mono (by have := HB.out.size; omega)))
      simp only at hA2
      subst hA2
      have HVY := Lib.hid hvy; have HA := Lib.hid ha
      have hss := e.szTo_succ ha
      have hle := e.szTo_le (j + 1)
      have hks := e.kid_sz ha
      have hsz := HS.out
      have hz9 : e.sz = e.sz := rfl
      have j0 : (0 : Int) ≤ (j : Int) := by omega
      have j1 : (j : Int) < (n : Int) := by omega
      have hasz : a.sz ≤ 1000000 := by omega
      have hsum : IntKind.i64.wrap (((1 + e.szTo j : Nat) : Int) + (a.sz : Int)) = ((1 + e.szTo (j + 1) : Nat) : Int) := by rw [hss, wrap_small _ (by omega) (by omega)]; omega
      obtain ⟨s0, hs0⟩ : ∃ s0, 1 + e.szTo j = s0 := ⟨_, rfl⟩
      rw [hs0] at hsum ⊢
      clear hky hvy ha hss hle hks hsz hz9 hs0
      have HSUM := Lib.hid hsum
      go_upto_region 5 with fail
      refine wp_nameE ?_
      intro w2 hw2
      have hb2 : Below wr.heap.size wr w2 := by rw [hw2]; exact (by go_grown)
      have K2 : Blk w2 wr.heap.size 24 #[.int .u8 y.k, .int .i64 y.num, .string y.nm, .slice y.A y.n y.cap] := by rw [hw2]; exact (by repeat' (first | assumption | exact Blk.new' (by simp) _ _ | apply Blk.alloc | apply Blk.drew))
      clear hw2 c0 c1 c2 c3
      obtain ⟨z_2, T_2, F_2⟩ := K2.open_
      clear K2
      go_wp2_with fail
      refine (HIH.out a (List.mem_of_getElem? HA.out) hasz y HVY.out _ (HB.out.trans ((hBr.next hb2).mono (by have := HB.out.size; omega)))).mono ?_
      rintro en w3 ⟨rfl, hb3⟩
      clear T_2 z_2 F_2
      go_wp2_with fail
      exact ⟨⟨j + 1, by omega, by go_num, by simp, (HBR.out.next hb2).next hb3⟩, by simp [intOf]; omega⟩
    · obtain rfl : j = n := by omega
      go_wp2_with fail
      go_ret
      refine ⟨?_, hBr⟩
      rw [← HZ.out, e.sz_eq, ← HN.out]
      rfl
theorem e_Depth {w : World} {B : Nat} (hBw : B ≤ w.heap.size) : ∀ e : Ex, e.sz ≤ 1000000 → ∀ x, EV w B nameB e x → ∀ w', Below B w w' → Calls Tryz.prog 26 #[.agg #[.int .u8 x.k, .int .i64 x.num, .string x.nm, .slice x.A x.n x.cap]] w' fun en w'' => en = .returned (.int .i64 (e.dp : Int)) ∧ Below w'.heap.size w' w'' := by
  refine Ex.ind fun e ih hsz x hx w' hb => ?_
  obtain ⟨hn, hkid⟩ := hx.kids
  obtain ⟨k, num, nm, A, n, cap⟩ := x
  have HK := Lib.hid hkid; have HB := Lib.hid hb; have HIH := Lib.hid ih; have HN := Lib.hid hn; have HS := Lib.hid hsz
  have hn2 : n ≤ 2 := by have := e.kids_le; simp only at hn; omega
  obtain ⟨z, hz⟩ : ∃ z, e.dp = z := ⟨_, rfl⟩
  rw [hz]
  have HZ := Lib.hid hz
  clear hkid hb hx hn ih hsz hz
  dsimp only at *
  go_enter Tryz.func26, Tryz.ntmps26
  go_upto_region 1 with fail
  refine wp_nameE ?_
  intro w1 hw1
  have hB1 : Below w'.heap.size w' w1 := by rw [hw1]; exact (by go_grown)
  have K1 : Blk w1 w'.heap.size 24 #[.int .u8 k, .int .i64 num, .string nm, .slice A n cap] := by rw [hw1]; exact (by repeat' (first | assumption | exact Blk.new' (by simp) _ _ | apply Blk.alloc | apply Blk.drew))
  clear hw1
  obtain ⟨z_1, T_1, F_1⟩ := K1.open_
  go_wp2_with fail
  clear T_1 z_1 F_1
  go_loopw [3, 9] (fun v3 v9 wr => ∃ j : Nat, j ≤ n ∧ v9 = .int .i64 j ∧ v3 = .int .i64 ((e.dpTo j : Nat) : Int) ∧ e.dpTo j ≤ 1000000 ∧ Below w1.heap.size w1 wr) (fun _ v _ => n - (intOf v).toNat)
  case atStart => exact ⟨0, Nat.zero_le _, rfl, rfl, Nat.zero_le _, Below.refl _ _⟩
  case round =>
    obtain ⟨j, hj, rfl, rfl, hdj, hbr⟩ := hrel
    have hBr : Below w'.heap.size w' wr := hB1.next hbr
    have HBR := Lib.hid hbr
    clear hbr
    by_cases hjn : j < n
    · obtain ⟨a, ha⟩ : ∃ a, e.kids[j]? = some a := ⟨_, List.getElem?_eq_getElem (by have := HN.out; omega)⟩
      obtain ⟨y, hky, hvy⟩ := HK.out j a ha
      obtain ⟨g, o, hA2, hgB, c0, c1, c2, c3⟩ := hky.cells (HB.out.trans (hBr.mono (by have := HB.out.size; omega)))
      simp only at hA2
      subst hA2
      have HVY := Lib.hid hvy; have HA := Lib.hid ha
      have hss := e.dpTo_succ ha
      have hks := e.kid_sz ha
      have hdle := e.dp_le
      have hsz := HS.out
      have hdd : e.dpTo (j + 1) ≤ 1000000 := by rw [hss]; have := a.dp_le; omega
      have j0 : (0 : Int) ≤ (j : Int) := by omega
      have j1 : (j : Int) < (n : Int) := by omega
      have hasz : a.sz ≤ 1000000 := by omega
      have hsum : max ((e.dpTo j : Nat) : Int) (a.dp : Int) = ((e.dpTo (j + 1) : Nat) : Int) := by rw [hss]; omega
      obtain ⟨s0, hs0⟩ : ∃ s0, e.dpTo j = s0 := ⟨_, rfl⟩
      rw [hs0] at hsum ⊢
      clear hky hvy ha hss hdle hks hsz hs0
      have HSUM := Lib.hid hsum
      go_upto_region 5 with fail
      refine wp_nameE ?_
      intro w2 hw2
      have hb2 : Below wr.heap.size wr w2 := by rw [hw2]; exact (by go_grown)
      have K2 : Blk w2 wr.heap.size 24 #[.int .u8 y.k, .int .i64 y.num, .string y.nm, .slice y.A y.n y.cap] := by rw [hw2]; exact (by repeat' (first | assumption | exact Blk.new' (by simp) _ _ | apply Blk.alloc | apply Blk.drew))
      clear hw2 c0 c1 c2 c3
      obtain ⟨z_2, T_2, F_2⟩ := K2.open_
      clear K2
      go_wp2_with fail
      refine (HIH.out a (List.mem_of_getElem? HA.out) hasz y HVY.out _ (HB.out.trans ((hBr.next hb2).mono (by have := HB.out.size; omega)))).mono ?_
      rintro en w3 ⟨rfl, hb3⟩
      clear T_2 z_2 F_2
      go_wp2_with fail
      exact ⟨⟨j + 1, by omega, by go_num, by simp, hdd, (HBR.out.next hb2).next hb3⟩, by simp [intOf]; omega⟩
    · obtain rfl : j = n := by omega
      go_wp2_with fail
      go_ret
      refine ⟨?_, hBr⟩
      rw [← HZ.out, e.dp_eq, ← HN.out]
      simp
theorem e_count {w : World} {B : Nat} (hBw : B ≤ w.heap.size) : ∀ p : Nat, p ≤ 100 → ∀ d x, KV w B d x → ∀ w', Below B w w' → Calls Tryz.prog 13 #[.agg #[.int .u8 x.k, .int .i64 x.num, .string x.nm, .slice x.A x.n x.cap], .int .i64 (p : Int)] w' fun en w'' => ∃ c : Int, en = .returned (.int .i64 c) ∧ (c ≤ 1001 * p ∧ -1 ≤ c ∧ ∀ e, EV w B nameB e x → e.cnt p = c) ∧ Below w'.heap.size w' w''
  | 0 => fun _ d x hx w' hb => by
    obtain ⟨k, num, nm, A, n, cap⟩ := x
    go_enter Tryz.func13, Tryz.ntmps13
    go_wp2_with fail
    go_ret
    exact ⟨_, rfl, ⟨by omega, by omega, fun e _ => e.cnt_zero⟩, by go_grown⟩
  | p + 1 => fun hp d x hx w' hb => by
    have IH := e_count hBw p (by omega)
    cases d with
    | zero => exact hx.elim
    | succ d =>
    obtain ⟨_, _, hcap, hmax, _, hkid⟩ := hx
    obtain ⟨k, num, nm, A, n, cap⟩ := x
    have HK := Lib.hid hkid; have HB := Lib.hid hb; have HIH := Lib.hid IH
    have hn : n ≤ 9223372036854775807 := by have := hcap; have := hmax; unfold maxLen at *; simp only at *; omega
    have hp1 : ¬ ((p + 1 : Nat) : Int) < 1 := by omega
    have hp2 : IntKind.i64.wrap (((p + 1 : Nat) : Int) - 1) = (p : Int) := by rw [wrap_small _ (by omega) (by omega)]; omega
    clear hkid hb hcap hmax IH
    dsimp only at *
    go_enter Tryz.func13, Tryz.ntmps13
    go_upto_region 1 with fail
    refine wp_nameE ?_
    intro w1 hw1
    have hB1 : Below w'.heap.size w' w1 := by rw [hw1]; exact (by go_grown)
    have K1 : Blk w1 w'.heap.size 24 #[.int .u8 k, .int .i64 num, .string nm, .slice A n cap] := by rw [hw1]; exact (by repeat' (first | assumption | exact Blk.new' (by simp) _ _ | apply Blk.alloc | apply Blk.drew))
    clear hw1
    have H_1 := Lib.hid K1
    clear K1
    go_wp2_with fail
    go_loopw [5, 6] (fun v5 v6 wr => ∃ (j : Nat) (s : Int), j ≤ n ∧ v6 = .int .i64 j ∧ v5 = .int .i64 s ∧ 1 ≤ s ∧ s ≤ 1000 + 1001 * p + 1 ∧ (∀ e, EV w B nameB e ⟨k, num, nm, A, n, cap⟩ → e.cnt (p + 1) = cntL ((e.kids.drop j).map fun a => a.cnt p) s) ∧ Below w1.heap.size w1 wr) (fun _ v _ => n - (intOf v).toNat)
    case atStart => exact ⟨0, 1, Nat.zero_le _, rfl, rfl, by omega, by omega, fun e _ => e.cnt_succ p, Below.refl _ _⟩
    case round =>
      obtain ⟨j, s, hj, rfl, rfl, hs1, hs2, hse, hbr⟩ := hrel
      have hBr : Below w'.heap.size w' wr := hB1.next hbr
      have HBR := Lib.hid hbr; have HSE := Lib.hid hse
      have K1 := H_1.out.next hbr
      clear hbr hse
      obtain ⟨z_1, T_1, F_1⟩ := K1.open_
      clear K1
      by_cases hjn : j < n
      · obtain ⟨y, hky, hvy⟩ := HK.out j hjn
        obtain ⟨g, o, hA2, hgB, c0, c1, c2, c3⟩ := hky.cells (HB.out.trans (hBr.mono (by have := HB.out.size; omega)))
        simp only at hA2
        subst hA2
        have HKY := Lib.hid hky; have HVY := Lib.hid hvy
        have j0 : (0 : Int) ≤ (j : Int) := by omega
        have j1 : (j : Int) < (n : Int) := by omega
        clear hky hvy
        go_wp2_with fail
        refine (HIH.out d y HVY.out _ (HB.out.trans (hBr.mono (by have := HB.out.size; omega)))).mono ?_
        rintro en w2 ⟨c, rfl, ⟨hc1, hc2, hc3⟩, hb2⟩
        have hstep : ∀ e, EV w B nameB e ⟨k, num, nm, some ⟨g, o, none⟩, n, cap⟩ → e.cnt (p + 1) = if c < 0 ∨ 1000 < s then -1 else cntL ((e.kids.drop (j + 1)).map fun a => a.cnt p) (s + c) := fun e he => by
          obtain ⟨hn', hk'⟩ := he.kids
          have hjl : j < e.kids.length := by simp only at hn'; omega
          obtain ⟨y', h1, h2⟩ := hk' j _ (List.getElem?_eq_getElem hjl)
          have h3 := hc3 _ (by rw [Kid.one HKY.out h1]; exact h2)
          rw [HSE.out e he, List.drop_eq_getElem_cons hjl, List.map_cons, cntL, h3]
        have HC3 := Lib.hid hstep
        clear hstep
        clear c0 c1 c2 c3 hc3 T_1 z_1 F_1
        by_cases hneg : c < 0
        · go_wp2_with fail
          go_ret
          exact ⟨_, rfl, ⟨by omega, by omega, fun e he => by rw [HC3.out e he, if_pos (.inl hneg)]⟩, hBr.next hb2⟩
        · have hneg' : decide (c < 0) = false := by simpa using hneg
          by_cases hbig : 1000 < s
          · go_wp2_with fail
            go_ret
            exact ⟨_, rfl, ⟨by omega, by omega, fun e he => by rw [HC3.out e he, if_pos (.inr hbig)]⟩, hBr.next hb2⟩
          · have hbig' : decide (1000 < s) = false := by simpa using hbig
            have hsum : IntKind.i64.wrap (s + c) = s + c := wrap_small _ (by omega) (by omega)
            go_wp2_with fail
            refine ⟨⟨j + 1, s + c, by omega, by go_num, by go_num, by omega, by omega, fun e he => ?_, HBR.out.next hb2⟩, by simp [intOf]; omega⟩
            rw [HC3.out e he, if_neg (by omega)]
      · obtain rfl : j = n := by omega
        go_wp2_with fail
        go_ret
        refine ⟨_, rfl, ⟨by omega, by omega, fun e he => ?_⟩, hBr⟩
        have hn' := he.kids.1
        rw [HSE.out e he, List.drop_eq_nil_of_le (by simp only at hn'; omega)]
        rfl
end Go.Proofs.YtbijhlgdilkopaaGreatDoor

/- Variables: the reference's Big and Known. -/
set_option linter.unusedVariables false
set_option linter.unusedSimpArgs false
set_option maxRecDepth 100000
set_option maxHeartbeats 4000000
namespace Bk
open Go Go.RowKit
/-- A declaration of a variable. -/
structure Vr where
  nm : ByteArray
  k : Int
  len : Int
def varCells (l : List Vr) : List Value := l.flatMap fun v => [.string v.nm, .int .u8 v.k, .int .i64 v.len]
theorem varCells_length (l : List Vr) : (varCells l).length = l.length * 3 := by
  induction l with
  | nil => rfl
  | cons a l ih => simp [varCells] at ih ⊢; omega
theorem varCells_get (l : List Vr) : ∀ i v, l[i]? = some v → (varCells l)[i * 3]? = some (.string v.nm) ∧ (varCells l)[i * 3 + 1]? = some (.int .u8 v.k) ∧ (varCells l)[i * 3 + 2]? = some (.int .i64 v.len) := by
  induction l with
  | nil => intro i v h; simp at h
  | cons a l ih =>
    intro i v h
    cases i with
    | zero => simp at h; subst h; exact ⟨rfl, rfl, rfl⟩
    | succ i =>
      have := ih i v (by simpa using h)
      have e : (i + 1) * 3 = i * 3 + 1 + 1 + 1 := by omega
      rw [e]
      exact this
/-- A slice of variables that is read. -/
def VsAt (w : World) (B : Nat) (A : Option Addr) (l : List Vr) : Prop := ∀ i v, l[i]? = some v → ∃ g o, A = some ⟨g, o, none⟩ ∧ g < B ∧ w.cell? ⟨g, o + i * 3, none⟩ = some (.string v.nm) ∧ w.cell? ⟨g, o + i * 3 + 1, none⟩ = some (.int .u8 v.k) ∧ w.cell? ⟨g, o + i * 3 + 2, none⟩ = some (.int .i64 v.len)
theorem VsAt.next {w w' : World} {B : Nat} {A : Option Addr} {l : List Vr} (h : VsAt w B A l) (hb : Below B w w') : VsAt w' B A l := fun i v hi => by
  obtain ⟨g, o, h1, h2, h3, h4, h5⟩ := h i v hi
  exact ⟨g, o, h1, h2, (hb.cell (p := ⟨g, o + i * 3, none⟩) h2).trans h3, (hb.cell (p := ⟨g, o + i * 3 + 1, none⟩) h2).trans h4, (hb.cell (p := ⟨g, o + i * 3 + 2, none⟩) h2).trans h5⟩
/-- The kind of variable that the node of an expression names; 0: none. -/
def Ex.vk : Ex → Int
  | .var _ => 1
  | .item _ _ => 2
  | .top _ => 3
  | .size _ => 3
  | _ => 0
def Ex.nam : Ex → ByteArray
  | .var s => s
  | .item s _ => s
  | .top s => s
  | .size s => s
  | _ => ByteArray.empty
/-- All variables of an expression are declared. -/
def Ex.known (vs : List Vr) : Ex → Prop
  | .var s => ∃ v ∈ vs, v.nm = s ∧ v.k = 1
  | .item s a => (∃ v ∈ vs, v.nm = s ∧ v.k = 2) ∧ a.known vs
  | .top s => ∃ v ∈ vs, v.nm = s ∧ v.k = 3
  | .size s => ∃ v ∈ vs, v.nm = s ∧ v.k = 3
  | .num _ => True
  | .un _ a => a.known vs
  | .bin _ a b => a.known vs ∧ b.known vs
theorem Ex.known_of (vs : List Vr) (e : Ex) (h1 : e.vk ≠ 0 → ∃ v ∈ vs, v.nm = e.nam ∧ v.k = e.vk) (h2 : ∀ a ∈ e.kids, a.known vs) : e.known vs := by
  cases e with
  | num v => trivial
  | var s => exact h1 (by simp [Ex.vk])
  | top s => exact h1 (by simp [Ex.vk])
  | size s => exact h1 (by simp [Ex.vk])
  | item s a => exact ⟨h1 (by simp [Ex.vk]), h2 a (by simp [Ex.kids])⟩
  | un op a => exact h2 a (by simp [Ex.kids])
  | bin op a b => exact ⟨h2 a (by simp [Ex.kids]), h2 b (by simp [Ex.kids])⟩
/-- What the node of an expression says of its kind. -/
theorem EV.kind {w : World} {B : Nat} {nb : ByteArray → Bool} {e : Ex} {x : Nd} (h : EV w B nb e x) : (x.k = 2 ∧ e.vk = 1 ∧ x.nm = e.nam) ∨ (x.k = 3 ∧ e.vk = 2 ∧ x.nm = e.nam) ∨ (x.k = 4 ∧ e.vk = 3 ∧ x.nm = e.nam) ∨ (x.k = 5 ∧ e.vk = 3 ∧ x.nm = e.nam) ∨ ((x.k == 2) = false ∧ (x.k == 3) = false ∧ (x.k == 4) = false ∧ (x.k == 5) = false ∧ e.vk = 0) := by
  cases e with
  | num v => have := h.1; exact .inr (.inr (.inr (.inr (by rw [this]; exact ⟨rfl, rfl, rfl, rfl, rfl⟩))))
  | var s => exact .inl ⟨h.1, rfl, h.2.2.1⟩
  | item s a => exact .inr (.inl ⟨h.1, rfl, h.2.2.1⟩)
  | top s => exact .inr (.inr (.inl ⟨h.1, rfl, h.2.2.1⟩))
  | size s => exact .inr (.inr (.inr (.inl ⟨h.1, rfl, h.2.2.1⟩)))
  | un op a => have h1 := h.1; have h2 := h.2.1; exact .inr (.inr (.inr (.inr ⟨by simp; omega, by simp; omega, by simp; omega, by simp; omega, rfl⟩)))
  | bin op a b => have h1 := h.1; have h2 := h.2.1; exact .inr (.inr (.inr (.inr ⟨by simp; omega, by simp; omega, by simp; omega, by simp; omega, rfl⟩)))
end Bk
namespace Go.Proofs.YtbijhlgdilkopaaGreatDoor
open Go.RowKit Bk
theorem e_Big {w : World} {B : Nat} (hBw : B ≤ w.heap.size) {d : Nat} {x : Nd} (hx : KV w B d x) (w' : World) (hb : Below B w w') :
    Calls Tryz.prog 5 #[.agg #[.int .u8 x.k, .int .i64 x.num, .string x.nm, .slice x.A x.n x.cap]] w' fun en w'' => ∃ b, en = .returned (.bool b) ∧ (b = false → ∀ e, EV w B nameB e x → e.sz ≤ 400) ∧ Below w'.heap.size w' w'' := by
  have HX := Lib.hid hx; have HB := Lib.hid hb
  obtain ⟨k, num, nm, A, n, cap⟩ := x
  clear hx hb
  go_enter Tryz.func5, Tryz.ntmps5
  go_upto_region 1 with fail
  refine wp_nameE ?_
  intro w1 hw1
  have hB1 : Below w'.heap.size w' w1 := by rw [hw1]; exact (by go_grown)
  have K1 : Blk w1 w'.heap.size 24 #[.int .u8 k, .int .i64 num, .string nm, .slice A n cap] := by rw [hw1]; exact (by repeat' (first | assumption | exact Blk.new' (by simp) _ _ | apply Blk.alloc | apply Blk.drew))
  clear hw1
  have H_1 := Lib.hid K1
  obtain ⟨z_1, T_1, F_1⟩ := K1.open_
  clear K1
  go_wp2_with fail
  refine (e_count hBw 100 (by omega) d ⟨k, num, nm, A, n, cap⟩ HX.out _ (HB.out.trans (hB1.mono (by have := HB.out.size; omega)))).mono ?_
  rintro en w2 ⟨c, rfl, ⟨hc1, hc2, hc3⟩, hb2⟩
  have K1 := H_1.out.next hb2
  have hB2 := hB1.next hb2
  have HC3 := Lib.hid hc3
  clear T_1 z_1 F_1 hc3 hb2 H_1
  obtain ⟨z_1, T_1, F_1⟩ := K1.open_
  by_cases hneg : c < 0
  · go_wp2_with fail
    go_ret
    exact ⟨true, rfl, (fun h => by cases h), hB2⟩
  · have hneg' : decide (c < 0) = false := by simpa using hneg
    go_wp2_with fail
    refine (e_count hBw 100 (by omega) d ⟨k, num, nm, A, n, cap⟩ HX.out _ (HB.out.trans (hB2.mono (by have := HB.out.size; omega)))).mono ?_
    rintro en w3 ⟨c', rfl, ⟨hc1', hc2', hc3'⟩, hb3⟩
    go_wp2_with fail
    all_goals go_ret
    all_goals refine ⟨_, rfl, fun h e he => ?_, hB2.next hb3⟩
    all_goals
      have h1 := HC3.out e he
      have h2 := hc3' e he
      have h3 := e.cnt_sz 100 (by omega)
      simp at h
      omega
theorem bytes_ext {a b : ByteArray} (h : (a.toList == b.toList) = true) : a = b := by
  have h := eq_of_beq h
  rw [Lib.toList_data, Lib.toList_data] at h
  obtain ⟨⟨x⟩⟩ := a; obtain ⟨⟨y⟩⟩ := b
  simp at h; rw [h]
end Go.Proofs.YtbijhlgdilkopaaGreatDoor

/- state.Fits of the law's cases. -/
set_option linter.unusedVariables false
set_option linter.unusedSimpArgs false
set_option maxRecDepth 100000
set_option maxHeartbeats 4000000
namespace Bk
open Go Go.RowKit
/-- A slice of ints that is read. -/
def IntsAt (w : World) (B : Nat) (A : Option Addr) (l : List Int) : Prop := ∀ i (h : i < l.length), ∃ g o, A = some ⟨g, o, none⟩ ∧ g < B ∧ w.cell? ⟨g, o + i, none⟩ = some (.int .i64 l[i])
theorem IntsAt.next {w w' : World} {B : Nat} {A : Option Addr} {l : List Int} (h : IntsAt w B A l) (hb : Below B w w') : IntsAt w' B A l := fun i hi => by
  obtain ⟨g, o, h1, h2, h3⟩ := h i hi
  exact ⟨g, o, h1, h2, (hb.cell (p := ⟨g, o + i, none⟩) h2).trans h3⟩
/-- A slice of slices of ints that is read. -/
def CsAt (w : World) (B : Nat) (A : Option Addr) (l : List (List Int)) : Prop := ∀ i c, l[i]? = some c → ∃ g o A' cap, A = some ⟨g, o, none⟩ ∧ g < B ∧ w.cell? ⟨g, o + i, none⟩ = some (.slice A' c.length cap) ∧ c.length ≤ cap ∧ (A' = none → cap = 0) ∧ IntsAt w B A' c
theorem CsAt.next {w w' : World} {B : Nat} {A : Option Addr} {l : List (List Int)} (h : CsAt w B A l) (hb : Below B w w') : CsAt w' B A l := fun i c hi => by
  obtain ⟨g, o, A', cap, h1, h2, h3, h4, h5, h6⟩ := h i c hi
  exact ⟨g, o, A', cap, h1, h2, (hb.cell (p := ⟨g, o + i, none⟩) h2).trans h3, h4, h5, h6.next hb⟩
def Vr.fixed (v : Vr) : Int := if v.k = 1 then 1 else v.len
def Vr.Ok (v : Vr) : Prop := ((v.k = 1 ∨ v.k = 3) ∧ v.len = 0) ∨ (v.k = 2 ∧ 1 ≤ v.len ∧ v.len ≤ 16)
/-- Contents that fit their declarations. -/
structure FitS (vs : List Vr) (cs : List (List Int)) : Prop where
  le : vs.length ≤ 32
  ok : ∀ v ∈ vs, v.Ok
  len : cs.length = vs.length
  stk : ∀ (i : Nat) (v : Vr) (c : List Int), vs[i]? = some v → cs[i]? = some c → v.k = 3 → c.length ≤ 1000
  fix : ∀ (i : Nat) (v : Vr) (c : List Int), vs[i]? = some v → cs[i]? = some c → v.k ≠ 3 → (c.length : Int) = v.fixed
end Bk
namespace Go.Proofs.YtbijhlgdilkopaaGreatDoor
open Go.RowKit Bk
end Go.Proofs.YtbijhlgdilkopaaGreatDoor
