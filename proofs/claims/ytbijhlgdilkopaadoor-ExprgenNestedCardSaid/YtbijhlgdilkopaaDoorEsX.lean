/- Several texts in one: EgS EgV EgW. -/
import Derived.Test.YtbijhlgdilkopaaDoorZEgI
import Derived.Test.YtbijhlgdilkopaaDoorBa
set_option linter.unusedVariables false
set_option linter.unusedSimpArgs false
/- ast.Size, ast.Depth, the reference's Big. -/
set_option linter.unusedVariables false
set_option linter.unusedSimpArgs false
set_option maxRecDepth 100000
set_option maxHeartbeats 4000000
namespace Bk
open Go Go.RowKit
def Ex.kids : Ex → List Ex
  | .item _ a => [a]
  | .un _ a => [a]
  | .bin _ a b => [a, b]
  | _ => []
def Ex.sz : Ex → Nat
  | .item _ a => 1 + a.sz
  | .un _ a => 1 + a.sz
  | .bin _ a b => 1 + (a.sz + b.sz)
  | _ => 1
def Ex.dp : Ex → Nat
  | .item _ a => a.dp + 1
  | .un _ a => a.dp + 1
  | .bin _ a b => max a.dp b.dp + 1
  | _ => 1
theorem Ex.ind {P : Ex → Prop} (h : ∀ e, (∀ k ∈ e.kids, P k) → P e) : ∀ e, P e := by
  intro e
  induction e with
  | num v => exact h _ (by simp [Ex.kids])
  | var s => exact h _ (by simp [Ex.kids])
  | top s => exact h _ (by simp [Ex.kids])
  | size s => exact h _ (by simp [Ex.kids])
  | item s a ih => exact h _ (by simpa [Ex.kids] using ih)
  | un op a ih => exact h _ (by simpa [Ex.kids] using ih)
  | bin op a b iha ihb => exact h _ (by simp [Ex.kids]; exact ⟨iha, ihb⟩)
theorem Ex.kids_le (e : Ex) : e.kids.length ≤ 2 := by cases e <;> simp [Ex.kids]
/-- The sizes of the first j kids, summed. -/
def Ex.szTo (e : Ex) (j : Nat) : Nat := ((e.kids.take j).map Ex.sz).sum
def Ex.dpTo (e : Ex) (j : Nat) : Nat := ((e.kids.take j).map Ex.dp).foldl max 0
theorem Ex.sz_eq (e : Ex) : e.sz = 1 + e.szTo e.kids.length := by unfold Ex.szTo; rw [List.take_length]; cases e <;> simp [Ex.kids, Ex.sz]
theorem Ex.dp_eq (e : Ex) : e.dp = e.dpTo e.kids.length + 1 := by unfold Ex.dpTo; rw [List.take_length]; cases e <;> simp [Ex.kids, Ex.dp]
theorem Ex.szTo_succ (e : Ex) {j : Nat} {a : Ex} (h : e.kids[j]? = some a) : e.szTo (j + 1) = e.szTo j + a.sz := by
  unfold Ex.szTo
  rw [List.take_add_one, h]; simp
theorem Ex.dpTo_succ (e : Ex) {j : Nat} {a : Ex} (h : e.kids[j]? = some a) : e.dpTo (j + 1) = max (e.dpTo j) a.dp := by
  unfold Ex.dpTo
  rw [List.take_add_one, h]; simp
theorem Ex.szTo_le (e : Ex) (j : Nat) : 1 + e.szTo j ≤ e.sz := by
  rw [e.sz_eq]
  unfold Ex.szTo
  have : ((e.kids.take j).map Ex.sz).sum ≤ ((e.kids.take e.kids.length).map Ex.sz).sum := by
    rw [List.take_length]
    conv => rhs; rw [← List.take_append_drop j e.kids, List.map_append, List.sum_append]
    exact Nat.le_add_right _ _
  omega
theorem Ex.dp_le (e : Ex) : e.dp ≤ e.sz := by
  induction e with
  | num v => simp [Ex.dp, Ex.sz]
  | var s => simp [Ex.dp, Ex.sz]
  | top s => simp [Ex.dp, Ex.sz]
  | size s => simp [Ex.dp, Ex.sz]
  | item s a ih => simp only [Ex.dp, Ex.sz]; omega
  | un op a ih => simp only [Ex.dp, Ex.sz]; omega
  | bin op a b iha ihb => simp only [Ex.dp, Ex.sz]; omega
theorem Ex.kid_sz (e : Ex) {j : Nat} {a : Ex} (h : e.kids[j]? = some a) : a.sz < e.sz ∧ a.dp < e.dp := by
  cases e with
  | item s b => rcases j with _ | j <;> simp [Ex.kids] at h; subst h; simp only [Ex.sz, Ex.dp]; omega
  | un op b => rcases j with _ | j <;> simp [Ex.kids] at h; subst h; simp only [Ex.sz, Ex.dp]; omega
  | bin op b c =>
    rcases j with _ | _ | j <;> simp [Ex.kids] at h
    · subst h; simp only [Ex.sz, Ex.dp]; omega
    · subst h; simp only [Ex.sz, Ex.dp]; omega
  | num v => simp [Ex.kids] at h
  | var s => simp [Ex.kids] at h
  | top s => simp [Ex.kids] at h
  | size s => simp [Ex.kids] at h
theorem EV.kids {w : World} {B : Nat} {nb : ByteArray → Bool} {e : Ex} {x : Nd} (h : EV w B nb e x) : x.n = e.kids.length ∧ ∀ i a, e.kids[i]? = some a → ∃ y, Kid w B x i y ∧ EV w B nb a y := by
  cases e with
  | num v => exact ⟨h.2.2.2.2, fun i a ha => by simp [Ex.kids] at ha⟩
  | var s => exact ⟨h.2.2.2.2, fun i a ha => by simp [Ex.kids] at ha⟩
  | top s => exact ⟨h.2.2.2.2, fun i a ha => by simp [Ex.kids] at ha⟩
  | size s => exact ⟨h.2.2.2.2, fun i a ha => by simp [Ex.kids] at ha⟩
  | item s b =>
    obtain ⟨_, _, _, _, h5, y, h6, h7⟩ := h
    exact ⟨h5, fun i a ha => by rcases i with _ | i <;> simp [Ex.kids] at ha; subst ha; exact ⟨y, h6, h7⟩⟩
  | un op b =>
    obtain ⟨_, _, _, _, h5, y, h6, h7⟩ := h
    exact ⟨h5, fun i a ha => by rcases i with _ | i <;> simp [Ex.kids] at ha; subst ha; exact ⟨y, h6, h7⟩⟩
  | bin op b c =>
    obtain ⟨_, _, _, _, h5, y, z, h6, h7, h8, h9⟩ := h
    exact ⟨h5, fun i a ha => by
      rcases i with _ | _ | i <;> simp [Ex.kids] at ha
      · subst ha; exact ⟨y, h6, h8⟩
      · subst ha; exact ⟨z, h7, h9⟩⟩
/-- What the reference's count answers. -/
def cntL : List Int → Int → Int
  | [], s => s
  | c :: l, s => if c < 0 ∨ 1000 < s then -1 else cntL l (s + c)
def Ex.cnt : Ex → Nat → Int
  | .item _ a, p => if p = 0 then -1 else cntL [a.cnt (p - 1)] 1
  | .un _ a, p => if p = 0 then -1 else cntL [a.cnt (p - 1)] 1
  | .bin _ a b, p => if p = 0 then -1 else cntL [a.cnt (p - 1), b.cnt (p - 1)] 1
  | _, p => if p = 0 then -1 else 1
theorem Ex.cnt_zero (e : Ex) : e.cnt 0 = -1 := by cases e <;> simp [Ex.cnt]
theorem Ex.cnt_succ (e : Ex) (p : Nat) : e.cnt (p + 1) = cntL (e.kids.map fun k => k.cnt p) 1 := by cases e <;> simp [Ex.cnt, Ex.kids, cntL]
theorem Ex.cnt_sz (e : Ex) : ∀ p, 0 ≤ e.cnt p → e.cnt p = e.sz := by
  induction e with
  | num v => intro p h; unfold Ex.cnt at *; split at h <;> simp_all [Ex.sz]
  | var v => intro p h; unfold Ex.cnt at *; split at h <;> simp_all [Ex.sz]
  | top v => intro p h; unfold Ex.cnt at *; split at h <;> simp_all [Ex.sz]
  | size v => intro p h; unfold Ex.cnt at *; split at h <;> simp_all [Ex.sz]
  | item s a ih =>
    intro p h
    simp only [Ex.cnt, cntL, Ex.sz] at *
    split at h
    · omega
    · rename_i hp
      rw [if_neg hp]
      split at h
      · omega
      · rename_i hc
        rw [if_neg hc, ih _ (by omega)]; omega
  | un op a ih =>
    intro p h
    simp only [Ex.cnt, cntL, Ex.sz] at *
    split at h
    · omega
    · rename_i hp
      rw [if_neg hp]
      split at h
      · omega
      · rename_i hc
        rw [if_neg hc, ih _ (by omega)]; omega
  | bin op a b iha ihb =>
    intro p h
    simp only [Ex.cnt, cntL, Ex.sz] at *
    split at h
    · omega
    · rename_i hp
      rw [if_neg hp]
      split at h
      · omega
      · rename_i hc
        rw [if_neg hc]
        split at h
        · omega
        · rename_i hd
          rw [if_neg hd, iha _ (by omega), ihb _ (by omega)]; omega
/-- The cells of a kid. -/
theorem Kid.cells {w w' : World} {B i : Nat} {x y : Nd} (h : Kid w B x i y) (hb : Below B w w') : ∃ g o, x.A = some ⟨g, o, none⟩ ∧ g < B ∧ w'.cell? ⟨g, o + i * 4, none⟩ = some (.int .u8 y.k) ∧ w'.cell? ⟨g, o + i * 4 + 1, none⟩ = some (.int .i64 y.num) ∧ w'.cell? ⟨g, o + i * 4 + 2, none⟩ = some (.string y.nm) ∧ w'.cell? ⟨g, o + i * 4 + 3, none⟩ = some (.slice y.A y.n y.cap) := by
  obtain ⟨g, o, h1, h2, h3⟩ := h.next hb
  exact ⟨g, o, h1, h2, h3 0 _ rfl, h3 1 _ rfl, h3 2 _ rfl, h3 3 _ rfl⟩
end Bk
namespace Go.Proofs.YtbijhlgdilkopaaDoor
open Go.RowKit Bk
theorem e_Size {w : World} {B : Nat} (hBw : B ≤ w.heap.size) : ∀ e : Ex, e.sz ≤ 1000000 → ∀ x, EV w B nameB e x → ∀ w', Below B w w' → Calls Tryd.prog 19 #[.agg #[.int .u8 x.k, .int .i64 x.num, .string x.nm, .slice x.A x.n x.cap]] w' fun en w'' => en = .returned (.int .i64 (e.sz : Int)) ∧ Below w'.heap.size w' w'' := by
  refine Ex.ind fun e ih hsz x hx w' hb => ?_
  obtain ⟨hn, hkid⟩ := hx.kids
  obtain ⟨k, num, nm, A, n, cap⟩ := x
  have HK := Lib.hid hkid; have HB := Lib.hid hb; have HIH := Lib.hid ih; have HN := Lib.hid hn; have HS := Lib.hid hsz
  have hn2 : n ≤ 2 := by have := e.kids_le; simp only at hn; omega
  obtain ⟨z, hz⟩ : ∃ z, e.sz = z := ⟨_, rfl⟩
  rw [hz]
  have HZ := Lib.hid hz
  clear hkid hb hx hn ih hsz hz
  dsimp only at *
  go_enter Tryd.func19, Tryd.ntmps19
  go_upto_region 1 with fail
  refine wp_nameE ?_
  intro w1 hw1
  have hB1 : Below w'.heap.size w' w1 := by rw [hw1]; exact (by go_grown)
  have K1 : Blk w1 w'.heap.size 24 #[.int .u8 k, .int .i64 num, .string nm, .slice A n cap] := by rw [hw1]; exact (by repeat' (first | assumption | exact Blk.new' (by simp) _ _ | apply Blk.alloc | apply Blk.drew))
  clear hw1
  obtain ⟨z_1, T_1, F_1⟩ := K1.open_
  go_wp2_with fail
  clear T_1 z_1 F_1
  go_loopw [3, 9] (fun v3 v9 wr => ∃ j : Nat, j ≤ n ∧ v9 = .int .i64 j ∧ v3 = .int .i64 ((1 + e.szTo j : Nat) : Int) ∧ Below w1.heap.size w1 wr) (fun _ v _ => n - (intOf v).toNat)
  case atStart => exact ⟨0, Nat.zero_le _, rfl, rfl, Below.refl _ _⟩
  case round =>
    obtain ⟨j, hj, rfl, rfl, hbr⟩ := hrel
    have hBr : Below w'.heap.size w' wr := hB1.next hbr
    have HBR := Lib.hid hbr
    clear hbr
    by_cases hjn : j < n
    · obtain ⟨a, ha⟩ : ∃ a, e.kids[j]? = some a := ⟨_, List.getElem?_eq_getElem (by have := HN.out; omega)⟩
      obtain ⟨y, hky, hvy⟩ := HK.out j a ha
      obtain ⟨g, o, hA2, hgB, c0, c1, c2, c3⟩ := hky.cells (HB.out.trans (hBr.mono (by have := HB.out.size; omega)))
      simp only at hA2
      subst hA2
      have HVY := Lib.hid hvy; have HA := Lib.hid ha
      have hss := e.szTo_succ ha
      have hle := e.szTo_le (j + 1)
      have hks := e.kid_sz ha
      have hsz := HS.out
      have hz9 : e.sz = e.sz := rfl
      have j0 : (0 : Int) ≤ (j : Int) := by omega
      have j1 : (j : Int) < (n : Int) := by omega
      have hasz : a.sz ≤ 1000000 := by omega
      have hsum : IntKind.i64.wrap (((1 + e.szTo j : Nat) : Int) + (a.sz : Int)) = ((1 + e.szTo (j + 1) : Nat) : Int) := by rw [hss, wrap_small _ (by omega) (by omega)]; omega
      obtain ⟨s0, hs0⟩ : ∃ s0, 1 + e.szTo j = s0 := ⟨_, rfl⟩
      rw [hs0] at hsum ⊢
      clear hky hvy ha hss hle hks hsz hz9 hs0
      have HSUM := Lib.hid hsum
      go_upto_region 5 with fail
      refine wp_nameE ?_
      intro w2 hw2
      have hb2 : Below wr.heap.size wr w2 := by rw [hw2]; exact (by go_grown)
      have K2 : Blk w2 wr.heap.size 24 #[.int .u8 y.k, .int .i64 y.num, .string y.nm, .slice y.A y.n y.cap] := by rw [hw2]; exact (by repeat' (first | assumption | exact Blk.new' (by simp) _ _ | apply Blk.alloc | apply Blk.drew))
      clear hw2 c0 c1 c2 c3
      obtain ⟨z_2, T_2, F_2⟩ := K2.open_
      clear K2
      go_wp2_with fail
      refine (HIH.out a (List.mem_of_getElem? HA.out) hasz y HVY.out _ (HB.out.trans ((hBr.next hb2).mono (by have := HB.out.size; omega)))).mono ?_
      rintro en w3 ⟨rfl, hb3⟩
      clear T_2 z_2 F_2
      go_wp2_with fail
      exact ⟨⟨j + 1, by omega, by go_num, by simp, (HBR.out.next hb2).next hb3⟩, by simp [intOf]; omega⟩
    · obtain rfl : j = n := by omega
      go_wp2_with fail
      go_ret
      refine ⟨?_, hBr⟩
      rw [← HZ.out, e.sz_eq, ← HN.out]
      rfl
theorem e_Depth {w : World} {B : Nat} (hBw : B ≤ w.heap.size) : ∀ e : Ex, e.sz ≤ 1000000 → ∀ x, EV w B nameB e x → ∀ w', Below B w w' → Calls Tryd.prog 23 #[.agg #[.int .u8 x.k, .int .i64 x.num, .string x.nm, .slice x.A x.n x.cap]] w' fun en w'' => en = .returned (.int .i64 (e.dp : Int)) ∧ Below w'.heap.size w' w'' := by
  refine Ex.ind fun e ih hsz x hx w' hb => ?_
  obtain ⟨hn, hkid⟩ := hx.kids
  obtain ⟨k, num, nm, A, n, cap⟩ := x
  have HK := Lib.hid hkid; have HB := Lib.hid hb; have HIH := Lib.hid ih; have HN := Lib.hid hn; have HS := Lib.hid hsz
  have hn2 : n ≤ 2 := by have := e.kids_le; simp only at hn; omega
  obtain ⟨z, hz⟩ : ∃ z, e.dp = z := ⟨_, rfl⟩
  rw [hz]
  have HZ := Lib.hid hz
  clear hkid hb hx hn ih hsz hz
  dsimp only at *
  go_enter Tryd.func23, Tryd.ntmps23
  go_upto_region 1 with fail
  refine wp_nameE ?_
  intro w1 hw1
  have hB1 : Below w'.heap.size w' w1 := by rw [hw1]; exact (by go_grown)
  have K1 : Blk w1 w'.heap.size 24 #[.int .u8 k, .int .i64 num, .string nm, .slice A n cap] := by rw [hw1]; exact (by repeat' (first | assumption | exact Blk.new' (by simp) _ _ | apply Blk.alloc | apply Blk.drew))
  clear hw1
  obtain ⟨z_1, T_1, F_1⟩ := K1.open_
  go_wp2_with fail
  clear T_1 z_1 F_1
  go_loopw [3, 9] (fun v3 v9 wr => ∃ j : Nat, j ≤ n ∧ v9 = .int .i64 j ∧ v3 = .int .i64 ((e.dpTo j : Nat) : Int) ∧ e.dpTo j ≤ 1000000 ∧ Below w1.heap.size w1 wr) (fun _ v _ => n - (intOf v).toNat)
  case atStart => exact ⟨0, Nat.zero_le _, rfl, rfl, Nat.zero_le _, Below.refl _ _⟩
  case round =>
    obtain ⟨j, hj, rfl, rfl, hdj, hbr⟩ := hrel
    have hBr : Below w'.heap.size w' wr := hB1.next hbr
    have HBR := Lib.hid hbr
    clear hbr
    by_cases hjn : j < n
    · obtain ⟨a, ha⟩ : ∃ a, e.kids[j]? = some a := ⟨_, List.getElem?_eq_getElem (by have := HN.out; omega)⟩
      obtain ⟨y, hky, hvy⟩ := HK.out j a ha
      obtain ⟨g, o, hA2, hgB, c0, c1, c2, c3⟩ := hky.cells (HB.out.trans (hBr.mono (by have := HB.out.size; omega)))
      simp only at hA2
      subst hA2
      have HVY := Lib.hid hvy; have HA := Lib.hid ha
      have hss := e.dpTo_succ ha
      have hks := e.kid_sz ha
      have hdle := e.dp_le
      have hsz := HS.out
      have hdd : e.dpTo (j + 1) ≤ 1000000 := by rw [hss]; have := a.dp_le; omega
      have j0 : (0 : Int) ≤ (j : Int) := by omega
      have j1 : (j : Int) < (n : Int) := by omega
      have hasz : a.sz ≤ 1000000 := by omega
      have hsum : max ((e.dpTo j : Nat) : Int) (a.dp : Int) = ((e.dpTo (j + 1) : Nat) : Int) := by rw [hss]; omega
      obtain ⟨s0, hs0⟩ : ∃ s0, e.dpTo j = s0 := ⟨_, rfl⟩
      rw [hs0] at hsum ⊢
      clear hky hvy ha hss hdle hks hsz hs0
      have HSUM := Lib.hid hsum
      go_upto_region 5 with fail
      refine wp_nameE ?_
      intro w2 hw2
      have hb2 : Below wr.heap.size wr w2 := by rw [hw2]; exact (by go_grown)
      have K2 : Blk w2 wr.heap.size 24 #[.int .u8 y.k, .int .i64 y.num, .string y.nm, .slice y.A y.n y.cap] := by rw [hw2]; exact (by repeat' (first | assumption | exact Blk.new' (by simp) _ _ | apply Blk.alloc | apply Blk.drew))
      clear hw2 c0 c1 c2 c3
      obtain ⟨z_2, T_2, F_2⟩ := K2.open_
      clear K2
      go_wp2_with fail
      refine (HIH.out a (List.mem_of_getElem? HA.out) hasz y HVY.out _ (HB.out.trans ((hBr.next hb2).mono (by have := HB.out.size; omega)))).mono ?_
      rintro en w3 ⟨rfl, hb3⟩
      clear T_2 z_2 F_2
      go_wp2_with fail
      exact ⟨⟨j + 1, by omega, by go_num, by simp, hdd, (HBR.out.next hb2).next hb3⟩, by simp [intOf]; omega⟩
    · obtain rfl : j = n := by omega
      go_wp2_with fail
      go_ret
      refine ⟨?_, hBr⟩
      rw [← HZ.out, e.dp_eq, ← HN.out]
      simp
theorem e_count {w : World} {B : Nat} (hBw : B ≤ w.heap.size) : ∀ p : Nat, p ≤ 100 → ∀ d x, KV w B d x → ∀ w', Below B w w' → Calls Tryd.prog 45 #[.agg #[.int .u8 x.k, .int .i64 x.num, .string x.nm, .slice x.A x.n x.cap], .int .i64 (p : Int)] w' fun en w'' => ∃ c : Int, en = .returned (.int .i64 c) ∧ (c ≤ 1001 * p ∧ -1 ≤ c ∧ ∀ e, EV w B nameB e x → e.cnt p = c) ∧ Below w'.heap.size w' w''
  | 0 => fun _ d x hx w' hb => by
    obtain ⟨k, num, nm, A, n, cap⟩ := x
    go_enter Tryd.func45, Tryd.ntmps45
    go_wp2_with fail
    go_ret
    exact ⟨_, rfl, ⟨by omega, by omega, fun e _ => e.cnt_zero⟩, by go_grown⟩
  | p + 1 => fun hp d x hx w' hb => by
    have IH := e_count hBw p (by omega)
    cases d with
    | zero => exact hx.elim
    | succ d =>
    obtain ⟨_, _, hcap, hmax, _, hkid⟩ := hx
    obtain ⟨k, num, nm, A, n, cap⟩ := x
    have HK := Lib.hid hkid; have HB := Lib.hid hb; have HIH := Lib.hid IH
    have hn : n ≤ 9223372036854775807 := by have := hcap; have := hmax; unfold maxLen at *; simp only at *; omega
    have hp1 : ¬ ((p + 1 : Nat) : Int) < 1 := by omega
    have hp2 : IntKind.i64.wrap (((p + 1 : Nat) : Int) - 1) = (p : Int) := by rw [wrap_small _ (by omega) (by omega)]; omega
    clear hkid hb hcap hmax IH
    dsimp only at *
    go_enter Tryd.func45, Tryd.ntmps45
    go_upto_region 1 with fail
    refine wp_nameE ?_
    intro w1 hw1
    have hB1 : Below w'.heap.size w' w1 := by rw [hw1]; exact (by go_grown)
    have K1 : Blk w1 w'.heap.size 24 #[.int .u8 k, .int .i64 num, .string nm, .slice A n cap] := by rw [hw1]; exact (by repeat' (first | assumption | exact Blk.new' (by simp) _ _ | apply Blk.alloc | apply Blk.drew))
    clear hw1
    have H_1 := Lib.hid K1
    clear K1
    go_wp2_with fail
    go_loopw [5, 6] (fun v5 v6 wr => ∃ (j : Nat) (s : Int), j ≤ n ∧ v6 = .int .i64 j ∧ v5 = .int .i64 s ∧ 1 ≤ s ∧ s ≤ 1000 + 1001 * p + 1 ∧ (∀ e, EV w B nameB e ⟨k, num, nm, A, n, cap⟩ → e.cnt (p + 1) = cntL ((e.kids.drop j).map fun a => a.cnt p) s) ∧ Below w1.heap.size w1 wr) (fun _ v _ => n - (intOf v).toNat)
    case atStart => exact ⟨0, 1, Nat.zero_le _, rfl, rfl, by omega, by omega, fun e _ => e.cnt_succ p, Below.refl _ _⟩
    case round =>
      obtain ⟨j, s, hj, rfl, rfl, hs1, hs2, hse, hbr⟩ := hrel
      have hBr : Below w'.heap.size w' wr := hB1.next hbr
      have HBR := Lib.hid hbr; have HSE := Lib.hid hse
      have K1 := H_1.out.next hbr
      clear hbr hse
      obtain ⟨z_1, T_1, F_1⟩ := K1.open_
      clear K1
      by_cases hjn : j < n
      · obtain ⟨y, hky, hvy⟩ := HK.out j hjn
        obtain ⟨g, o, hA2, hgB, c0, c1, c2, c3⟩ := hky.cells (HB.out.trans (hBr.mono (by have := HB.out.size; omega)))
        simp only at hA2
        subst hA2
        have HKY := Lib.hid hky; have HVY := Lib.hid hvy
        have j0 : (0 : Int) ≤ (j : Int) := by omega
        have j1 : (j : Int) < (n : Int) := by omega
        clear hky hvy
        go_wp2_with fail
        refine (HIH.out d y HVY.out _ (HB.out.trans (hBr.mono (by have := HB.out.size; omega)))).mono ?_
        rintro en w2 ⟨c, rfl, ⟨hc1, hc2, hc3⟩, hb2⟩
        have hstep : ∀ e, EV w B nameB e ⟨k, num, nm, some ⟨g, o, none⟩, n, cap⟩ → e.cnt (p + 1) = if c < 0 ∨ 1000 < s then -1 else cntL ((e.kids.drop (j + 1)).map fun a => a.cnt p) (s + c) := fun e he => by
          obtain ⟨hn', hk'⟩ := he.kids
          have hjl : j < e.kids.length := by simp only at hn'; omega
          obtain ⟨y', h1, h2⟩ := hk' j _ (List.getElem?_eq_getElem hjl)
          have h3 := hc3 _ (by rw [Kid.one HKY.out h1]; exact h2)
          rw [HSE.out e he, List.drop_eq_getElem_cons hjl, List.map_cons, cntL, h3]
        have HC3 := Lib.hid hstep
        clear hstep
        clear c0 c1 c2 c3 hc3 T_1 z_1 F_1
        by_cases hneg : c < 0
        · go_wp2_with fail
          go_ret
          exact ⟨_, rfl, ⟨by omega, by omega, fun e he => by rw [HC3.out e he, if_pos (.inl hneg)]⟩, hBr.next hb2⟩
        · have hneg' : decide (c < 0) = false := by simpa using hneg
          by_cases hbig : 1000 < s
          · go_wp2_with fail
            go_ret
            exact ⟨_, rfl, ⟨by omega, by omega, fun e he => by rw [HC3.out e he, if_pos (.inr hbig)]⟩, hBr.next hb2⟩
          · have hbig' : decide (1000 < s) = false := by simpa using hbig
            have hsum : IntKind.i64.wrap (s + c) = s + c := wrap_small _ (by omega) (by omega)
            go_wp2_with fail
            refine ⟨⟨j + 1, s + c, by omega, by go_num, by go_num, by omega, by omega, fun e he => ?_, HBR.out.next hb2⟩, by simp [intOf]; omega⟩
            rw [HC3.out e he, if_neg (by omega)]
      · obtain rfl : j = n := by omega
        go_wp2_with fail
        go_ret
        refine ⟨_, rfl, ⟨by omega, by omega, fun e he => ?_⟩, hBr⟩
        have hn' := he.kids.1
        rw [HSE.out e he, List.drop_eq_nil_of_le (by simp only at hn'; omega)]
        rfl
end Go.Proofs.YtbijhlgdilkopaaDoor

/- Variables: the reference's Big and Known. -/
set_option linter.unusedVariables false
set_option linter.unusedSimpArgs false
set_option maxRecDepth 100000
set_option maxHeartbeats 4000000
namespace Bk
open Go Go.RowKit
/-- A declaration of a variable. -/
structure Vr where
  nm : ByteArray
  k : Int
  len : Int
def varCells (l : List Vr) : List Value := l.flatMap fun v => [.string v.nm, .int .u8 v.k, .int .i64 v.len]
theorem varCells_length (l : List Vr) : (varCells l).length = l.length * 3 := by
  induction l with
  | nil => rfl
  | cons a l ih => simp [varCells] at ih ⊢; omega
theorem varCells_get (l : List Vr) : ∀ i v, l[i]? = some v → (varCells l)[i * 3]? = some (.string v.nm) ∧ (varCells l)[i * 3 + 1]? = some (.int .u8 v.k) ∧ (varCells l)[i * 3 + 2]? = some (.int .i64 v.len) := by
  induction l with
  | nil => intro i v h; simp at h
  | cons a l ih =>
    intro i v h
    cases i with
    | zero => simp at h; subst h; exact ⟨rfl, rfl, rfl⟩
    | succ i =>
      have := ih i v (by simpa using h)
      have e : (i + 1) * 3 = i * 3 + 1 + 1 + 1 := by omega
      rw [e]
      exact this
/-- A slice of variables that is read. -/
def VsAt (w : World) (B : Nat) (A : Option Addr) (l : List Vr) : Prop := ∀ i v, l[i]? = some v → ∃ g o, A = some ⟨g, o, none⟩ ∧ g < B ∧ w.cell? ⟨g, o + i * 3, none⟩ = some (.string v.nm) ∧ w.cell? ⟨g, o + i * 3 + 1, none⟩ = some (.int .u8 v.k) ∧ w.cell? ⟨g, o + i * 3 + 2, none⟩ = some (.int .i64 v.len)
theorem VsAt.next {w w' : World} {B : Nat} {A : Option Addr} {l : List Vr} (h : VsAt w B A l) (hb : Below B w w') : VsAt w' B A l := fun i v hi => by
  obtain ⟨g, o, h1, h2, h3, h4, h5⟩ := h i v hi
  exact ⟨g, o, h1, h2, (hb.cell (p := ⟨g, o + i * 3, none⟩) h2).trans h3, (hb.cell (p := ⟨g, o + i * 3 + 1, none⟩) h2).trans h4, (hb.cell (p := ⟨g, o + i * 3 + 2, none⟩) h2).trans h5⟩
/-- The kind of variable that the node of an expression names; 0: none. -/
def Ex.vk : Ex → Int
  | .var _ => 1
  | .item _ _ => 2
  | .top _ => 3
  | .size _ => 3
  | _ => 0
def Ex.nam : Ex → ByteArray
  | .var s => s
  | .item s _ => s
  | .top s => s
  | .size s => s
  | _ => ByteArray.empty
/-- All variables of an expression are declared. -/
def Ex.known (vs : List Vr) : Ex → Prop
  | .var s => ∃ v ∈ vs, v.nm = s ∧ v.k = 1
  | .item s a => (∃ v ∈ vs, v.nm = s ∧ v.k = 2) ∧ a.known vs
  | .top s => ∃ v ∈ vs, v.nm = s ∧ v.k = 3
  | .size s => ∃ v ∈ vs, v.nm = s ∧ v.k = 3
  | .num _ => True
  | .un _ a => a.known vs
  | .bin _ a b => a.known vs ∧ b.known vs
theorem Ex.known_of (vs : List Vr) (e : Ex) (h1 : e.vk ≠ 0 → ∃ v ∈ vs, v.nm = e.nam ∧ v.k = e.vk) (h2 : ∀ a ∈ e.kids, a.known vs) : e.known vs := by
  cases e with
  | num v => trivial
  | var s => exact h1 (by simp [Ex.vk])
  | top s => exact h1 (by simp [Ex.vk])
  | size s => exact h1 (by simp [Ex.vk])
  | item s a => exact ⟨h1 (by simp [Ex.vk]), h2 a (by simp [Ex.kids])⟩
  | un op a => exact h2 a (by simp [Ex.kids])
  | bin op a b => exact ⟨h2 a (by simp [Ex.kids]), h2 b (by simp [Ex.kids])⟩
/-- What the node of an expression says of its kind. -/
theorem EV.kind {w : World} {B : Nat} {nb : ByteArray → Bool} {e : Ex} {x : Nd} (h : EV w B nb e x) : (x.k = 2 ∧ e.vk = 1 ∧ x.nm = e.nam) ∨ (x.k = 3 ∧ e.vk = 2 ∧ x.nm = e.nam) ∨ (x.k = 4 ∧ e.vk = 3 ∧ x.nm = e.nam) ∨ (x.k = 5 ∧ e.vk = 3 ∧ x.nm = e.nam) ∨ ((x.k == 2) = false ∧ (x.k == 3) = false ∧ (x.k == 4) = false ∧ (x.k == 5) = false ∧ e.vk = 0) := by
  cases e with
  | num v => have := h.1; exact .inr (.inr (.inr (.inr (by rw [this]; exact ⟨rfl, rfl, rfl, rfl, rfl⟩))))
  | var s => exact .inl ⟨h.1, rfl, h.2.2.1⟩
  | item s a => exact .inr (.inl ⟨h.1, rfl, h.2.2.1⟩)
  | top s => exact .inr (.inr (.inl ⟨h.1, rfl, h.2.2.1⟩))
  | size s => exact .inr (.inr (.inr (.inl ⟨h.1, rfl, h.2.2.1⟩)))
  | un op a => have h1 := h.1; have h2 := h.2.1; exact .inr (.inr (.inr (.inr ⟨by simp; omega, by simp; omega, by simp; omega, by simp; omega, rfl⟩)))
  | bin op a b => have h1 := h.1; have h2 := h.2.1; exact .inr (.inr (.inr (.inr ⟨by simp; omega, by simp; omega, by simp; omega, by simp; omega, rfl⟩)))
end Bk
namespace Go.Proofs.YtbijhlgdilkopaaDoor
open Go.RowKit Bk
theorem e_Big {w : World} {B : Nat} (hBw : B ≤ w.heap.size) {d : Nat} {x : Nd} (hx : KV w B d x) (w' : World) (hb : Below B w w') :
    Calls Tryd.prog 21 #[.agg #[.int .u8 x.k, .int .i64 x.num, .string x.nm, .slice x.A x.n x.cap]] w' fun en w'' => ∃ b, en = .returned (.bool b) ∧ (b = false → ∀ e, EV w B nameB e x → e.sz ≤ 400) ∧ Below w'.heap.size w' w'' := by
  have HX := Lib.hid hx; have HB := Lib.hid hb
  obtain ⟨k, num, nm, A, n, cap⟩ := x
  clear hx hb
  go_enter Tryd.func21, Tryd.ntmps21
  go_upto_region 1 with fail
  refine wp_nameE ?_
  intro w1 hw1
  have hB1 : Below w'.heap.size w' w1 := by rw [hw1]; exact (by go_grown)
  have K1 : Blk w1 w'.heap.size 24 #[.int .u8 k, .int .i64 num, .string nm, .slice A n cap] := by rw [hw1]; exact (by repeat' (first | assumption | exact Blk.new' (by simp) _ _ | apply Blk.alloc | apply Blk.drew))
  clear hw1
  have H_1 := Lib.hid K1
  obtain ⟨z_1, T_1, F_1⟩ := K1.open_
  clear K1
  go_wp2_with fail
  refine (e_count hBw 100 (by omega) d ⟨k, num, nm, A, n, cap⟩ HX.out _ (HB.out.trans (hB1.mono (by have := HB.out.size; omega)))).mono ?_
  rintro en w2 ⟨c, rfl, ⟨hc1, hc2, hc3⟩, hb2⟩
  have K1 := H_1.out.next hb2
  have hB2 := hB1.next hb2
  have HC3 := Lib.hid hc3
  clear T_1 z_1 F_1 hc3 hb2 H_1
  obtain ⟨z_1, T_1, F_1⟩ := K1.open_
  by_cases hneg : c < 0
  · go_wp2_with fail
    go_ret
    exact ⟨true, rfl, (fun h => by cases h), hB2⟩
  · have hneg' : decide (c < 0) = false := by simpa using hneg
    go_wp2_with fail
    refine (e_count hBw 100 (by omega) d ⟨k, num, nm, A, n, cap⟩ HX.out _ (HB.out.trans (hB2.mono (by have := HB.out.size; omega)))).mono ?_
    rintro en w3 ⟨c', rfl, ⟨hc1', hc2', hc3'⟩, hb3⟩
    go_wp2_with fail
    all_goals go_ret
    all_goals refine ⟨_, rfl, fun h e he => ?_, hB2.next hb3⟩
    all_goals
      have h1 := HC3.out e he
      have h2 := hc3' e he
      have h3 := e.cnt_sz 100 (by omega)
      simp at h
      omega
theorem bytes_ext {a b : ByteArray} (h : (a.toList == b.toList) = true) : a = b := by
  have h := eq_of_beq h
  rw [Lib.toList_data, Lib.toList_data] at h
  obtain ⟨⟨x⟩⟩ := a; obtain ⟨⟨y⟩⟩ := b
  simp at h; rw [h]
theorem e_Known {w : World} {B : Nat} (hBw : B ≤ w.heap.size) (V : Option Addr) (nv cv : Nat) (vs : List Vr) (hv : VsAt w B V vs) (hnv : vs.length = nv) (hnv2 : nv ≤ 1000000) : ∀ e : Ex, ∀ x, EV w B nameB e x → ∀ w', Below B w w' → Calls Tryd.prog 25 #[.agg #[.int .u8 x.k, .int .i64 x.num, .string x.nm, .slice x.A x.n x.cap], .slice V nv cv] w' fun en w'' => ∃ b, en = .returned (.bool b) ∧ (b = true → e.known vs) ∧ Below w'.heap.size w' w'' := by
  have HV := Lib.hid hv; have HNV := Lib.hid hnv
  clear hv hnv
  refine Ex.ind fun e ih x hx w' hb => ?_
  obtain ⟨hn, hkid⟩ := hx.kids
  have hkind := hx.kind
  obtain ⟨k, num, nm, A, n, cap⟩ := x
  have HK := Lib.hid hkid; have HB := Lib.hid hb; have HIH := Lib.hid ih; have HN := Lib.hid hn; have HKN := Lib.hid hkind
  have hn2 : n ≤ 2 := by have := e.kids_le; simp only at hn; omega
  clear hkid hb hx hn ih hkind
  dsimp only at *
  go_enter Tryd.func25, Tryd.ntmps25
  go_upto_region 1 with fail
  refine wp_nameE ?_
  intro w1 hw1
  have hB1 : Below w'.heap.size w' w1 := by rw [hw1]; exact (by go_grown)
  have K1 : Blk w1 w'.heap.size 24 #[.int .u8 k, .int .i64 num, .string nm, .slice A n cap] := by rw [hw1]; exact (by repeat' (first | assumption | exact Blk.new' (by simp) _ _ | apply Blk.alloc | apply Blk.drew))
  clear hw1
  have H_1 := Lib.hid K1
  obtain ⟨z_1, T_1, F_1⟩ := K1.open_
  clear K1
  rcases HKN.out with ⟨rfl, hkd, hnm⟩ | ⟨rfl, hkd, hnm⟩ | ⟨rfl, hkd, hnm⟩ | ⟨rfl, hkd, hnm⟩ | ⟨q2, q3, q4, q5, hkd⟩
  rotate_right 1
  · have HKD := Lib.hid hkd
    clear hkd
    go_wp2_with fail
    clear T_1 z_1 F_1
    go_loopw [8] (fun v8 wr => ∃ i : Nat, i ≤ n ∧ v8 = .int .i64 i ∧ (∀ k a, k < i → e.kids[k]? = some a → a.known vs) ∧ Below w1.heap.size w1 wr) (fun v _ => n - (intOf v).toNat)
    case atStart => exact ⟨0, Nat.zero_le _, rfl, fun k a hk => absurd hk (Nat.not_lt_zero _), Below.refl _ _⟩
    case round =>
      obtain ⟨i, hi, rfl, hpre, hbr⟩ := hrel
      have hBr : Below w'.heap.size w' wr := hB1.next hbr
      have HBR := Lib.hid hbr; have HP := Lib.hid hpre
      have K1 := H_1.out.next hbr
      clear hbr hpre
      obtain ⟨z_1, T_1, F_1⟩ := K1.open_
      clear K1
      by_cases hin : i < n
      · obtain ⟨a, ha⟩ : ∃ a, e.kids[i]? = some a := ⟨_, List.getElem?_eq_getElem (by have := HN.out; omega)⟩
        obtain ⟨y, hky, hvy⟩ := HK.out i a ha
        obtain ⟨g, o, hA2, hgB, c0, c1, c2, c3⟩ := hky.cells (HB.out.trans (hBr.mono (by have := HB.out.size; omega)))
        simp only at hA2
        subst hA2
        have HA := Lib.hid ha
        have j0 : (0 : Int) ≤ (i : Int) := by omega
        have j1 : (i : Int) < (n : Int) := by omega
        have hcall := HIH.out a (List.mem_of_getElem? ha) y hvy wr (HB.out.trans (hBr.mono (by have := HB.out.size; omega)))
        have HCALL := Lib.hid hcall
        clear hky hvy ha hcall
        go_wp2_with fail
        refine HCALL.out.mono ?_
        rintro en w2 ⟨b, rfl, hbk, hb2⟩
        have HBK := Lib.hid hbk
        clear c0 c1 c2 c3 T_1 z_1 F_1 hbk
        cases b
        · go_wp2_with fail
          go_ret
          exact ⟨false, rfl, (fun h => by cases h), hBr.next hb2⟩
        · go_wp2_with fail
          exact ⟨⟨i + 1, by omega, by go_num, (fun k a' hk ha' => (Nat.lt_succ_iff_lt_or_eq.1 hk).elim (fun h => HP.out k a' h ha') (fun h => by subst h; rw [HA.out] at ha'; injection ha' with ha'; subst ha'; exact HBK.out (by trivial))), HBR.out.next hb2⟩, by simp [intOf]; omega⟩
      · obtain rfl : i = n := by omega
        go_wp2_with fail
        go_ret
        exact ⟨true, rfl, (fun _ => e.known_of vs (fun h => absurd HKD.out h) (fun a ha => by
          obtain ⟨k, hk⟩ := List.getElem?_of_mem ha
          exact HP.out k a (by have := (List.getElem?_eq_some_iff.1 hk).1; have := HN.out; omega) hk)), hBr⟩
  all_goals
    have HKD := Lib.hid hkd; have HNM := Lib.hid hnm
    clear hkd hnm
    go_wp2_with fail
    clear T_1 z_1 F_1
    go_loopw [6, 7] (fun v6 v7 wr => ∃ (f : Bool) (j : Nat), j ≤ nv ∧ v6 = .bool f ∧ v7 = .int .i64 j ∧ (f = true → ∃ v ∈ vs, v.nm = e.nam ∧ v.k = e.vk) ∧ Below w1.heap.size w1 wr) (fun _ v _ => nv - (intOf v).toNat)
    case atStart => exact ⟨false, 0, Nat.zero_le _, rfl, rfl, (fun h => by cases h), Below.refl _ _⟩
    case round =>
      obtain ⟨f, j, hj, rfl, rfl, hf, hbr⟩ := hrel
      have HF := Lib.hid hf; have HBRv := Lib.hid hbr
      have K1 := H_1.out.next hbr
      have hBrv : Below w'.heap.size w' wr := hB1.next hbr
      clear hf hbr
      obtain ⟨z_1, T_1, F_1⟩ := K1.open_
      clear K1
      by_cases hjn : j < nv
      · obtain ⟨v, hvj⟩ : ∃ v, vs[j]? = some v := ⟨_, List.getElem?_eq_getElem (by have := HNV.out; omega)⟩
        obtain ⟨g, o, hA2, hgB, c0, c1, c2⟩ := (HV.out.next HB.out) j v hvj
        subst hA2
        have hgw : g < w'.heap.size := by have := HB.out.size; omega
        have d0 := (hBrv.cell (p := ⟨g, o + j * 3, none⟩) hgw).trans c0
        have d1 := (hBrv.cell (p := ⟨g, o + j * 3 + 1, none⟩) hgw).trans c1
        have HVJ := Lib.hid hvj
        have j0 : (0 : Int) ≤ (j : Int) := by omega
        have j1 : (j : Int) < (nv : Int) := by omega
        clear hvj c0 c1 c2
        cases f
        · obtain ⟨q, hq⟩ : ∃ q, (v.nm.toList == nm.toList) = q := ⟨_, rfl⟩
          cases q
          · go_wp2_with fail
            go_quiet (fail)
            go_wp2_with fail
            exact ⟨⟨false, j + 1, by omega, rfl, by go_num, (fun h => by cases h), Bk.drewN_ HBRv.out _⟩, by simp [intOf]; omega⟩
          · have HQ := Lib.hid hq
            go_wp2_with fail
            go_quiet (fail)
            go_wp2_with fail
            exact ⟨⟨_, j + 1, by omega, rfl, by go_num, (fun h => ⟨v, List.mem_of_getElem? HVJ.out, by rw [← HNM.out]; exact bytes_ext HQ.out, by rw [HKD.out]; simpa using h⟩), Bk.drewN_ HBRv.out _⟩, by simp [intOf]; omega⟩
        · go_wp2_with fail
          go_quiet (fail)
          go_wp2_with fail
          exact ⟨⟨true, j + 1, by omega, rfl, by go_num, (fun _ => HF.out (by trivial)), Bk.drewN_ HBRv.out _⟩, by simp [intOf]; omega⟩
      · obtain rfl : j = nv := by omega
        cases f
        · go_wp2_with fail
          go_ret
          exact ⟨false, rfl, (fun h => by cases h), hBrv⟩
        · go_wp2_with fail
          clear T_1 z_1 F_1
          go_loopw [8] (fun v8 wr => ∃ i : Nat, i ≤ n ∧ v8 = .int .i64 i ∧ (∀ k a, k < i → e.kids[k]? = some a → a.known vs) ∧ Below w1.heap.size w1 wr) (fun v _ => n - (intOf v).toNat)
          case atStart => exact ⟨0, Nat.zero_le _, rfl, fun k a hk => absurd hk (Nat.not_lt_zero _), HBRv.out⟩
          case round =>
            obtain ⟨i, hi, rfl, hpre, hbr⟩ := hrel
            have hBr : Below w'.heap.size w' wr := hB1.next hbr
            have HBR := Lib.hid hbr; have HP := Lib.hid hpre
            have K1 := H_1.out.next hbr
            clear hbr hpre
            obtain ⟨z_1, T_1, F_1⟩ := K1.open_
            clear K1
            by_cases hin : i < n
            · obtain ⟨a, ha⟩ : ∃ a, e.kids[i]? = some a := ⟨_, List.getElem?_eq_getElem (by have := HN.out; omega)⟩
              obtain ⟨y, hky, hvy⟩ := HK.out i a ha
              obtain ⟨g, o, hA2, hgB, c0, c1, c2, c3⟩ := hky.cells (HB.out.trans (hBr.mono (by have := HB.out.size; omega)))
              simp only at hA2
              subst hA2
              have HA := Lib.hid ha
              have j0 : (0 : Int) ≤ (i : Int) := by omega
              have j1 : (i : Int) < (n : Int) := by omega
              have hcall := HIH.out a (List.mem_of_getElem? ha) y hvy wr (HB.out.trans (hBr.mono (by have := HB.out.size; omega)))
              have HCALL := Lib.hid hcall
              clear hky hvy ha hcall
              go_wp2_with fail
              refine HCALL.out.mono ?_
              rintro en w2 ⟨b, rfl, hbk, hb2⟩
              have HBK := Lib.hid hbk
              clear c0 c1 c2 c3 T_1 z_1 F_1 hbk
              cases b
              · go_wp2_with fail
                go_ret
                exact ⟨false, rfl, (fun h => by cases h), hBr.next hb2⟩
              · go_wp2_with fail
                exact ⟨⟨i + 1, by omega, by go_num, (fun k a' hk ha' => (Nat.lt_succ_iff_lt_or_eq.1 hk).elim (fun h => HP.out k a' h ha') (fun h => by subst h; rw [HA.out] at ha'; injection ha' with ha'; subst ha'; exact HBK.out (by trivial))), HBR.out.next hb2⟩, by simp [intOf]; omega⟩
            · obtain rfl : i = n := by omega
              go_wp2_with fail
              go_ret
              exact ⟨true, rfl, (fun _ => e.known_of vs (fun _ => HF.out (by trivial)) (fun a ha => by
                obtain ⟨k, hk⟩ := List.getElem?_of_mem ha
                exact HP.out k a (by have := (List.getElem?_eq_some_iff.1 hk).1; have := HN.out; omega) hk)), hBr⟩
end Go.Proofs.YtbijhlgdilkopaaDoor

/- state.Fits of the law's cases. -/
set_option linter.unusedVariables false
set_option linter.unusedSimpArgs false
set_option maxRecDepth 100000
set_option maxHeartbeats 4000000
namespace Bk
open Go Go.RowKit
/-- A slice of ints that is read. -/
def IntsAt (w : World) (B : Nat) (A : Option Addr) (l : List Int) : Prop := ∀ i (h : i < l.length), ∃ g o, A = some ⟨g, o, none⟩ ∧ g < B ∧ w.cell? ⟨g, o + i, none⟩ = some (.int .i64 l[i])
theorem IntsAt.next {w w' : World} {B : Nat} {A : Option Addr} {l : List Int} (h : IntsAt w B A l) (hb : Below B w w') : IntsAt w' B A l := fun i hi => by
  obtain ⟨g, o, h1, h2, h3⟩ := h i hi
  exact ⟨g, o, h1, h2, (hb.cell (p := ⟨g, o + i, none⟩) h2).trans h3⟩
/-- A slice of slices of ints that is read. -/
def CsAt (w : World) (B : Nat) (A : Option Addr) (l : List (List Int)) : Prop := ∀ i c, l[i]? = some c → ∃ g o A' cap, A = some ⟨g, o, none⟩ ∧ g < B ∧ w.cell? ⟨g, o + i, none⟩ = some (.slice A' c.length cap) ∧ c.length ≤ cap ∧ (A' = none → cap = 0) ∧ IntsAt w B A' c
theorem CsAt.next {w w' : World} {B : Nat} {A : Option Addr} {l : List (List Int)} (h : CsAt w B A l) (hb : Below B w w') : CsAt w' B A l := fun i c hi => by
  obtain ⟨g, o, A', cap, h1, h2, h3, h4, h5, h6⟩ := h i c hi
  exact ⟨g, o, A', cap, h1, h2, (hb.cell (p := ⟨g, o + i, none⟩) h2).trans h3, h4, h5, h6.next hb⟩
def Vr.fixed (v : Vr) : Int := if v.k = 1 then 1 else v.len
def Vr.Ok (v : Vr) : Prop := ((v.k = 1 ∨ v.k = 3) ∧ v.len = 0) ∨ (v.k = 2 ∧ 1 ≤ v.len ∧ v.len ≤ 16)
/-- Contents that fit their declarations. -/
structure FitS (vs : List Vr) (cs : List (List Int)) : Prop where
  le : vs.length ≤ 32
  ok : ∀ v ∈ vs, v.Ok
  len : cs.length = vs.length
  stk : ∀ (i : Nat) (v : Vr) (c : List Int), vs[i]? = some v → cs[i]? = some c → v.k = 3 → c.length ≤ 1000
  fix : ∀ (i : Nat) (v : Vr) (c : List Int), vs[i]? = some v → cs[i]? = some c → v.k ≠ 3 → (c.length : Int) = v.fixed
end Bk
namespace Go.Proofs.YtbijhlgdilkopaaDoor
open Go.RowKit Bk
theorem e_fixed (v : Vr) (w : World) : Calls Tryd.prog 50 #[.agg #[.string v.nm, .int .u8 v.k, .int .i64 v.len]] w fun e w' => e = .returned (.int .i64 v.fixed) ∧ Below w.heap.size w w' := by
  obtain ⟨nm, k, len⟩ := v
  unfold Vr.fixed
  dsimp only
  by_cases h : k = 1
  · subst h
    go_enter Tryd.func50, Tryd.ntmps50
    go_wp2_with fail
    go_ret
    exact ⟨by simp, by go_grown⟩
  · have h' : (k == 1) = false := by simpa using h
    rw [if_neg h]
    go_enter Tryd.func50, Tryd.ntmps50
    go_wp2_with fail
    go_ret
    exact ⟨rfl, by go_grown⟩
theorem e_valid {w : World} {B : Nat} (hBw : B ≤ w.heap.size) (V : Option Addr) (nv cv : Nat) (vs : List Vr) (hv : VsAt w B V vs) (hnv : vs.length = nv) (w' : World) (hb : Below B w w') :
    Calls Tryd.prog 49 #[.slice V nv cv] w' fun e w'' => ∃ b, e = .returned (.bool b) ∧ (b = true → vs.length ≤ 32 ∧ ∀ v ∈ vs, v.Ok) ∧ Below w'.heap.size w' w'' := by
  have HV := Lib.hid hv; have HNV := Lib.hid hnv; have HB := Lib.hid hb
  clear hv hnv hb
  by_cases hbig : 32 < nv
  · have h1 : (32 : Int) < (nv : Int) := by omega
    go_enter Tryd.func49, Tryd.ntmps49
    go_wp2_with fail
    go_ret
    exact ⟨false, rfl, (fun h => by cases h), by go_grown⟩
  have h1 : ¬ (32 : Int) < (nv : Int) := by omega
  go_enter Tryd.func49, Tryd.ntmps49
  go_wp2_with fail
  go_loopw [10] (fun v10 wr => ∃ j : Nat, j ≤ nv ∧ v10 = .int .i64 j ∧ (∀ i v, i < j → vs[i]? = some v → v.Ok) ∧ Below w'.heap.size w' wr) (fun v _ => nv - (intOf v).toNat)
  case atStart => exact ⟨0, Nat.zero_le _, rfl, (fun i v hi => absurd hi (Nat.not_lt_zero _)), Below.refl _ _⟩
  case round =>
    obtain ⟨j, hj, rfl, hpre, hbr⟩ := hrel
    have HP := Lib.hid hpre; have HBR := Lib.hid hbr
    clear hpre
    by_cases hjn : j < nv
    · obtain ⟨v, hvj⟩ : ∃ v, vs[j]? = some v := ⟨_, List.getElem?_eq_getElem (by have := HNV.out; omega)⟩
      obtain ⟨g, o, hA2, hgB, c0, c1, c2⟩ := (HV.out.next HB.out) j v hvj
      subst hA2
      have hgw : g < w'.heap.size := by have := HB.out.size; omega
      have d0 := (hbr.cell (p := ⟨g, o + j * 3, none⟩) hgw).trans c0
      have d1 := (hbr.cell (p := ⟨g, o + j * 3 + 1, none⟩) hgw).trans c1
      have d2 := (hbr.cell (p := ⟨g, o + j * 3 + 2, none⟩) hgw).trans c2
      have HVJ := Lib.hid hvj
      obtain ⟨nm, k, len⟩ := v
      dsimp only at d0 d1 d2
      have j0 : (0 : Int) ≤ (j : Int) := by omega
      have j1 : (j : Int) < (nv : Int) := by omega
      clear hvj c0 c1 c2 hbr
      have NEXT : (Vr.mk nm k len).Ok → ∀ i v, i < j + 1 → vs[i]? = some v → v.Ok := fun hok i v hi hiv => (Nat.lt_succ_iff_lt_or_eq.1 hi).elim (fun h => HP.out i v h hiv) (fun h => by subst h; rw [HVJ.out] at hiv; injection hiv with hiv; subst hiv; exact hok)
      have HNEXT := Lib.hid NEXT
      clear NEXT
      go_upto_region 6 with fail
      refine wp_nameE ?_
      intro w2 hw2
      have hb2 : Below wr.heap.size wr w2 := by rw [hw2]; exact (by go_grown)
      have K2 : Blk w2 wr.heap.size 64 #[.string nm, .int .u8 k, .int .i64 len] := by rw [hw2]; exact (by repeat' (first | assumption | exact Blk.new' (by simp) _ _ | apply Blk.alloc | apply Blk.drew))
      clear hw2 d0 d1 d2
      obtain ⟨z_2, T_2, F_2⟩ := K2.open_
      clear K2
      have hBn := HBR.out.next hb2
      have hBn' : Below w'.heap.size w' w2 := hBn
      rcases (show k = 1 ∨ k = 3 ∨ k = 2 ∨ ((k == 1) = false ∧ (k == 3) = false ∧ (k == 2) = false) by
        by_cases h1 : k = 1
        · exact .inl h1
        by_cases h3 : k = 3
        · exact .inr (.inl h3)
        by_cases h2 : k = 2
        · exact .inr (.inr (.inl h2))
        exact .inr (.inr (.inr ⟨by simpa using h1, by simpa using h3, by simpa using h2⟩))) with rfl | rfl | rfl | ⟨q1, q3, q2⟩
      · by_cases hl : len = 0
        · subst hl
          go_wp2_with fail
          exact ⟨⟨j + 1, by omega, by go_num, HNEXT.out (.inl ⟨.inl rfl, rfl⟩), hBn⟩, by simp [intOf]; omega⟩
        · have hl' : (len != 0) = true := by simpa using hl
          go_wp2_with fail
          go_ret
          exact ⟨false, rfl, (fun h => by cases h), hBn⟩
      · by_cases hl : len = 0
        · subst hl
          go_wp2_with fail
          exact ⟨⟨j + 1, by omega, by go_num, HNEXT.out (.inl ⟨.inr rfl, rfl⟩), hBn⟩, by simp [intOf]; omega⟩
        · have hl' : (len != 0) = true := by simpa using hl
          go_wp2_with fail
          go_ret
          exact ⟨false, rfl, (fun h => by cases h), hBn⟩
      · by_cases hl : len < 1
        · go_wp2_with fail
          go_ret
          exact ⟨false, rfl, (fun h => by cases h), hBn⟩
        · have hl' : decide (len < 1) = false := by simpa using hl
          by_cases hm : 16 < len
          · go_wp2_with fail
            go_ret
            exact .inl ⟨rfl, hBn⟩
          · have hm' : decide (16 < len) = false := by simpa using hm
            go_wp2_with fail
            exact ⟨⟨j + 1, by omega, by go_num, HNEXT.out (.inr ⟨rfl, (by show 1 ≤ len; omega), (by show len ≤ 16; omega)⟩), hBn⟩, by simp [intOf]; omega⟩
      · go_wp2_with fail
        go_ret
        exact ⟨false, rfl, (fun h => by cases h), hBn⟩
    · obtain rfl : j = nv := by omega
      go_wp2_with fail
      go_ret
      exact ⟨true, rfl, (fun _ => ⟨by rw [HNV.out]; omega, fun v hv => by
        obtain ⟨i, hi⟩ := List.getElem?_of_mem hv
        exact HP.out i v (by have := (List.getElem?_eq_some_iff.1 hi).1; have := HNV.out; omega) hi⟩), HBR.out⟩
theorem e_Fits {w : World} {B : Nat} (hBw : B ≤ w.heap.size) (V : Option Addr) (nv cv : Nat) (vs : List Vr) (hv : VsAt w B V vs) (hnv : vs.length = nv) (C : Option Addr) (nc cc : Nat) (cs : List (List Int)) (hc : CsAt w B C cs) (hnc : cs.length = nc) (w' : World) (hb : Below B w w') :
    Calls Tryd.prog 24 #[.slice V nv cv, .agg #[.slice C nc cc, .slice none 0 0, .slice none 0 0]] w' fun e w'' => ∃ b, e = .returned (.bool b) ∧ (b = true → FitS vs cs) ∧ Below w'.heap.size w' w'' := by
  have HV := Lib.hid hv; have HNV := Lib.hid hnv; have HB := Lib.hid hb; have HC := Lib.hid hc; have HNC := Lib.hid hnc
  clear hv hnv hb hc hnc
  go_enter Tryd.func24, Tryd.ntmps24
  go_upto_region 1 with fail
  refine wp_nameE ?_
  intro w1 hw1
  have hB1 : Below w'.heap.size w' w1 := by rw [hw1]; exact (by go_grown)
  have K1 : Blk w1 w'.heap.size 68 #[.slice C nc cc, .slice none 0 0, .slice none 0 0] := by rw [hw1]; exact (by repeat' (first | assumption | exact Blk.new' (by simp) _ _ | apply Blk.alloc | apply Blk.drew))
  clear hw1
  have H_1 := Lib.hid K1
  clear K1
  go_wp2_with fail
  refine (e_valid hBw V nv cv vs HV.out HNV.out _ (HB.out.trans (hB1.mono (by have := HB.out.size; omega)))).mono ?_
  rintro en w2 ⟨b, rfl, hval, hb2⟩
  have HVAL := Lib.hid hval
  have K1 := H_1.out.next hb2
  have hB2 := hB1.next hb2
  clear hval hb2 H_1
  have H_1 := Lib.hid K1
  obtain ⟨z_1, T_1, F_1⟩ := K1.open_
  clear K1
  cases b
  · go_wp2_with fail
    go_ret
    exact ⟨false, rfl, (fun h => by cases h), hB2⟩
  obtain ⟨h32, hok⟩ := HVAL.out (by trivial)
  have HOK := Lib.hid hok
  clear hok HVAL
  by_cases hcv : nc = nv
  rotate_left
  · have hcv' : ((nc : Int) != (nv : Int)) = true := by simp; omega
    go_wp2_with fail
    go_ret
    exact ⟨false, rfl, (fun h => by cases h), hB2⟩
  subst hcv
  have hcv' : ((nc : Int) != (nc : Int)) = false := by simp
  have hn32 : nc ≤ 32 := by have := HNV.out; omega
  go_wp2_with fail
  clear T_1 z_1 F_1
  go_loopw [32] (fun v32 wr => ∃ j : Nat, j ≤ nc ∧ v32 = .int .i64 j ∧ (∀ (i : Nat) (v : Vr) (c : List Int), i < j → vs[i]? = some v → cs[i]? = some c → (v.k = 3 → c.length ≤ 1000) ∧ (v.k ≠ 3 → (c.length : Int) = v.fixed)) ∧ Below w2.heap.size w2 wr) (fun v _ => nc - (intOf v).toNat)
  case atStart => exact ⟨0, Nat.zero_le _, rfl, (fun i v c hi => absurd hi (Nat.not_lt_zero _)), Below.refl _ _⟩
  case round =>
    obtain ⟨j, hj, rfl, hpre, hbr⟩ := hrel
    have HP := Lib.hid hpre; have HBR := Lib.hid hbr
    have hBr : Below w'.heap.size w' wr := hB2.next hbr
    clear hpre
    by_cases hjn : j < nc
    · obtain ⟨v, hvj⟩ : ∃ v, vs[j]? = some v := ⟨_, List.getElem?_eq_getElem (by have := HNV.out; omega)⟩
      obtain ⟨c, hcj⟩ : ∃ c, cs[j]? = some c := ⟨_, List.getElem?_eq_getElem (by have := HNC.out; omega)⟩
      obtain ⟨g, o, hA2, hgB, c0, c1, c2⟩ := (HV.out.next HB.out) j v hvj
      obtain ⟨g', o', A', cap', hA3, hgB', c3, hcc, hca, hints⟩ := (HC.out.next HB.out) j c hcj
      subst hA2; subst hA3
      have hgw : g < w'.heap.size := by have := HB.out.size; omega
      have hgw' : g' < w'.heap.size := by have := HB.out.size; omega
      have d0 := (hBr.cell (p := ⟨g, o + j * 3, none⟩) hgw).trans c0
      have d1 := (hBr.cell (p := ⟨g, o + j * 3 + 1, none⟩) hgw).trans c1
      have d2 := (hBr.cell (p := ⟨g, o + j * 3 + 2, none⟩) hgw).trans c2
      have HD3 := Lib.hid ((hBr.cell (p := ⟨g', o' + j, none⟩) hgw').trans c3)
      have HVJ := Lib.hid hvj; have HCJ := Lib.hid hcj
      have NEXT : ((v.k = 3 → c.length ≤ 1000) ∧ (v.k ≠ 3 → (c.length : Int) = v.fixed)) → ∀ (i : Nat) (v' : Vr) (c' : List Int), i < j + 1 → vs[i]? = some v' → cs[i]? = some c' → (v'.k = 3 → c'.length ≤ 1000) ∧ (v'.k ≠ 3 → (c'.length : Int) = v'.fixed) := fun hok i v' c' hi hiv hic => (Nat.lt_succ_iff_lt_or_eq.1 hi).elim (fun h => HP.out i v' c' h hiv hic) (fun h => by
        subst h
        rw [HVJ.out] at hiv; injection hiv with hiv; subst hiv
        rw [HCJ.out] at hic; injection hic with hic; subst hic; exact hok)
      have HNEXT := Lib.hid NEXT
      have hfx := fun w => e_fixed v w
      have HFX := Lib.hid hfx
      have j0 : (0 : Int) ≤ (j : Int) := by omega
      have j1 : (j : Int) < (nc : Int) := by omega
      have j2 : (j : Int) < (nc : Int) := by omega
      have K1 := H_1.out.next hbr
      clear hvj hcj c0 c1 c2 c3 hbr NEXT hints hca hcc hfx
      go_upto_region 6 with fail
      refine wp_nameE ?_
      intro w3 hw3
      have hb3 : Below wr.heap.size wr w3 := by rw [hw3]; exact (by go_grown)
      have K3 : Blk w3 wr.heap.size 64 #[.string v.nm, .int .u8 v.k, .int .i64 v.len] := by rw [hw3]; exact (by repeat' (first | assumption | exact Blk.new' (by simp) _ _ | apply Blk.alloc | apply Blk.drew))
      have hd3 : w3.cell? ⟨g', o' + j, none⟩ = some (.slice A' c.length cap') := (hb3.cell (p := ⟨g', o' + j, none⟩) (by have := hBr.size; show g' < _; omega)).trans HD3.out
      replace K1 := K1.next hb3
      have hBn := HBR.out.next hb3
      have hBn' := hB2.next hBn
      clear hw3 d0 d1 d2
      have H_1' := Lib.hid K1; have H_3 := Lib.hid K3; have HD4 := Lib.hid hd3
      obtain ⟨z_1, T_1, F_1⟩ := K1.open_
      obtain ⟨z_3, T_3, F_3⟩ := K3.open_
      clear K1 K3
      by_cases hk3 : v.k = 3
      · have hk3' : (v.k == 3) = true := by simpa using hk3
        by_cases hbig : 1000 < c.length
        · have hbig' : (1000 : Int) < (c.length : Int) := by omega
          go_wp2_with fail
          go_ret
          exact ⟨false, rfl, (fun h => by cases h), hBn'⟩
        · have hbig' : ¬ (1000 : Int) < (c.length : Int) := by omega
          go_wp2_with fail
          exact ⟨⟨j + 1, by omega, by go_num, HNEXT.out ⟨fun _ => by omega, fun h => absurd hk3 h⟩, hBn⟩, by simp [intOf]; omega⟩
      · have hk3' : (v.k == 3) = false := by simpa using hk3
        obtain ⟨fx, hfx⟩ : ∃ fx, v.fixed = fx := ⟨_, rfl⟩
        have HFX' : Hid (∀ w, Calls Tryd.prog 50 #[.agg #[.string v.nm, .int .u8 v.k, .int .i64 v.len]] w fun e w' => e = .returned (.int .i64 fx) ∧ Below w.heap.size w w') := Lib.hid (by rw [← hfx]; exact HFX.out)
        have HFV := Lib.hid hfx
        clear hfx
        have hg3 : g' < w3.heap.size := by have := hBn'.size; omega
        go_wp2_with fail
        clear T_1 z_1 F_1 T_3 z_3 F_3 hd3
        by_cases hlen : (c.length : Int) = fx
        · have hl' : ((c.length : Int) != fx) = false := by simpa using hlen
          refine wp_region_grow (by kernel_rfl) (by kernel_rfl) ?_; intro W hW; have hneW : Nonempty (Grw W) := ⟨⟨W, Below.refl _ _⟩⟩; have HBz := Lib.hid (fun z => Below.next (show Below w'.heap.size w' W by (rw [hW]; exact hBn')) (grow_below W z))
          have t1 := fun z => (H_1'.out.next (w' := grow W z) (by rw [← hW]; exact grow_below W z)).cell
          have t3 := fun z => (H_3.out.next (w' := grow W z) (by rw [← hW]; exact grow_below W z)).cell
          have ez := cell_grow hW hg3 HD4.out
          have HW := Lib.hid hW; clear hW
          repeat (go_big_quiet_step ((go_at_call 50; with_reducible exact quiet_grow (HFX'.out _))))
          clear t1 t3 ez
          refine wpQuiet_nil ?_
          rintro _ ⟨z, rfl⟩
          have hb5 := grow_below W z
          generalize grow W z = w5 at hb5 ⊢
          rw [HW.out] at hb5
          clear HW HBz hneW
          go_wp2_with fail
          exact ⟨⟨j + 1, by omega, by go_num, HNEXT.out ⟨fun h => absurd h hk3, fun _ => by rw [HFV.out]; exact hlen⟩, hBn.next hb5⟩, by simp [intOf]; omega⟩
        · have hl' : ((c.length : Int) != fx) = true := by simpa using hlen
          refine wp_region_grow (by kernel_rfl) (by kernel_rfl) ?_; intro W hW; have hneW : Nonempty (Grw W) := ⟨⟨W, Below.refl _ _⟩⟩; have HBz := Lib.hid (fun z => Below.next (show Below w'.heap.size w' W by (rw [hW]; exact hBn')) (grow_below W z))
          have t1 := fun z => (H_1'.out.next (w' := grow W z) (by rw [← hW]; exact grow_below W z)).cell
          have t3 := fun z => (H_3.out.next (w' := grow W z) (by rw [← hW]; exact grow_below W z)).cell
          have ez := cell_grow hW hg3 HD4.out
          have HW := Lib.hid hW; clear hW
          repeat (go_big_quiet_step ((go_at_call 50; with_reducible exact quiet_grow (HFX'.out _))))
          clear t1 t3 ez
          refine wpQuiet_nil ?_
          rintro _ ⟨z, rfl⟩
          have hb5 := grow_below W z
          generalize grow W z = w5 at hb5 ⊢
          rw [HW.out] at hb5
          clear HW HBz hneW
          go_wp2_with fail
          go_ret
          exact ⟨false, rfl, (fun h => by cases h), hBn'.next hb5⟩
    · obtain rfl : j = nc := by omega
      go_wp2_with fail
      go_ret
      exact ⟨true, rfl, (fun _ => ⟨h32, HOK.out, by rw [HNC.out, HNV.out], fun i v c hv hc => (HP.out i v c (by have := (List.getElem?_eq_some_iff.1 hv).1; have := HNV.out; omega) hv hc).1, fun i v c hv hc => (HP.out i v c (by have := (List.getElem?_eq_some_iff.1 hv).1; have := HNV.out; omega) hv hc).2⟩), hBr⟩
end Go.Proofs.YtbijhlgdilkopaaDoor
