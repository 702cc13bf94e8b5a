/- Blocks and statements of package ast, as far as the law ExprgenNames lays them. -/
import Derived.Test.YtbijhlgdilkopaaGreatDoorZNmA
set_option linter.unusedVariables false
set_option linter.unusedSimpArgs false
set_option maxRecDepth 100000
set_option maxHeartbeats 4000000
namespace Go.Proofs.YtbijhlgdilkopaaGreatDoor
open Go.RowKit Bk
def allTo (r : Nat → Bool) : Nat → Bool
  | 0 => true
  | n + 1 => allTo r n && r n
theorem allTo_false {r : Nat → Bool} {j n : Nat} (h : j < n) (hr : r j = false) : allTo r n = false := by
  induction n with
  | zero => omega
  | succ n ih =>
    simp only [allTo]
    by_cases e : j = n
    · subst e; rw [hr, Bool.and_false]
    · rw [ih (by omega), Bool.false_and]
/-- A node's size: some number. -/
theorem e_SizeK {w : World} {B : Nat} (hBw : B ≤ w.heap.size) : ∀ (d : Nat) (x : Nd), KV w B d x → ∀ w', Below B w w' → Calls Tryz.prog 6 #[.agg #[.int .u8 x.k, .int .i64 x.num, .string x.nm, .slice x.A x.n x.cap]] w' fun en w'' => (∃ v : Int, en = .returned (.int .i64 v)) ∧ Below w'.heap.size w' w''
  | 0, _, h => h.elim
  | d + 1, x, hx => fun w' hb => by
    have IH := e_SizeK hBw d
    obtain ⟨_, _, hcap, hmax, _, hkid⟩ := hx
    obtain ⟨k, num, nm, A, n, cap⟩ := x
    have HK := Lib.hid hkid; have HB := Lib.hid hb; have HIH := Lib.hid IH
    have hn2 : n ≤ 9223372036854775807 := by unfold maxLen at hmax; dsimp only at hcap hmax; omega
    clear hkid hb IH hcap hmax
    dsimp only at *
    go_enter Tryz.func6, Tryz.ntmps6
    go_upto_region 1 with fail
    refine wp_nameE ?_
    intro w1 hw1
    have hB1 : Below w'.heap.size w' w1 := by rw [hw1]; exact (by go_grown)
    have K1 : Blk w1 w'.heap.size 24 #[.int .u8 k, .int .i64 num, .string nm, .slice A n cap] := by rw [hw1]; exact (by repeat' (first | assumption | exact Blk.new' (by simp) _ _ | apply Blk.alloc | apply Blk.drew))
    clear hw1
    obtain ⟨z_1, T_1, F_1⟩ := K1.open_
    go_wp2_with fail
    clear T_1 z_1 F_1
    go_loopw [3, 9] (fun v3 v9 wr => ∃ (j : Nat) (s : Int), j ≤ n ∧ v9 = .int .i64 j ∧ v3 = .int .i64 s ∧ Below w1.heap.size w1 wr) (fun _ v _ => n - (intOf v).toNat)
    case atStart => exact ⟨0, 1, Nat.zero_le _, rfl, rfl, Below.refl _ _⟩
    case round =>
      obtain ⟨j, s, hj, rfl, rfl, hbr⟩ := hrel
      have hBr : Below w'.heap.size w' wr := hB1.next hbr
      have HBR := Lib.hid hbr
      clear hbr
      by_cases hjn : j < n
      · obtain ⟨y, hky, hvy⟩ := HK.out j hjn
        obtain ⟨g, o, hA2, hgB, c0, c1, c2, c3⟩ := hky.cells (HB.out.trans (hBr.mono (by have := HB.out.size; omega)))
        simp only at hA2
        subst hA2
        have HVY := Lib.hid hvy
        have j0 : (0 : Int) ≤ (j : Int) := by omega
        have j1 : (j : Int) < (n : Int) := by omega
        clear hky hvy
        go_upto_region 5 with fail
        refine wp_nameE ?_
        intro w2 hw2
        have hb2 : Below wr.heap.size wr w2 := by rw [hw2]; exact (by go_grown)
        have K2 : Blk w2 wr.heap.size 24 #[.int .u8 y.k, .int .i64 y.num, .string y.nm, .slice y.A y.n y.cap] := by rw [hw2]; exact (by repeat' (first | assumption | exact Blk.new' (by simp) _ _ | apply Blk.alloc | apply Blk.drew))
        clear hw2 c0 c1 c2 c3
        obtain ⟨z_2, T_2, F_2⟩ := K2.open_
        clear K2
        go_wp2_with fail
        refine (HIH.out y HVY.out _ (HB.out.trans ((hBr.next hb2).mono (by have := HB.out.size; omega)))).mono ?_
        rintro en w3 ⟨⟨c, rfl⟩, hb3⟩
        clear T_2 z_2 F_2
        go_wp2_with fail
        exact ⟨⟨j + 1, _, by omega, by go_num, rfl, (HBR.out.next hb2).next hb3⟩, by simp [intOf]; omega⟩
      · obtain rfl : j = n := by omega
        go_wp2_with fail
        go_ret
        exact ⟨⟨_, rfl⟩, hBr⟩
/-- A list of nodes, each of which is a statement as r says. -/
theorem e_everyS {w : World} {B : Nat} (hBw : B ≤ w.heap.size) (x : Nd) (hn : x.n ≤ 1000) (r : Nat → Bool) (hkid : ∀ i, i < x.n → ∃ y, Kid w B x i y ∧ ∀ W, Below B w W → Calls Tryz.prog 63 #[.agg #[.int .u8 y.k, .int .i64 y.num, .string y.nm, .slice y.A y.n y.cap]] W fun en w'' => en = .returned (.bool (r i)) ∧ Below W.heap.size W w'') (w' : World) (hb : Below B w w') :
    Calls Tryz.prog 62 #[.slice x.A x.n x.cap, .func (.func 63) #[] #[]] w' fun en w'' => en = .returned (.bool (allTo r x.n)) ∧ Below w'.heap.size w' w'' := by
  obtain ⟨k, num, nm, A, n, cap⟩ := x
  have HK := Lib.hid hkid; have HB := Lib.hid hb
  have HAF : Hid (∀ j, j < n → r j = false → allTo r n = false) := Lib.hid fun j h1 h2 => allTo_false h1 h2
  obtain ⟨rr, hrr⟩ : ∃ rr, allTo r n = rr := ⟨_, rfl⟩
  have HRR := Lib.hid hrr
  dsimp only at *
  rw [hrr] at HAF ⊢
  clear hkid hb hrr
  go_enter Tryz.func62, Tryz.ntmps62
  go_wp2_with fail
  go_loopw [9] (fun v9 wr => ∃ j : Nat, j ≤ n ∧ v9 = .int .i64 j ∧ allTo r j = true ∧ Below w'.heap.size w' wr) (fun v _ => n - (intOf v).toNat)
  case atStart => exact ⟨0, Nat.zero_le _, rfl, rfl, Below.refl _ _⟩
  case round =>
    obtain ⟨j, hj, rfl, hall, hbr⟩ := hrel
    have HBR := Lib.hid hbr; have HALL := Lib.hid hall
    clear hbr hall
    by_cases hjn : j < n
    · obtain ⟨y, hky, hoy⟩ := HK.out j hjn
      obtain ⟨g, o, hA2, hgB, c0, c1, c2, c3⟩ := hky.cells (HB.out.trans (HBR.out.mono (by have := HB.out.size; omega)))
      simp only at hA2
      subst hA2
      have HOY := Lib.hid hoy
      have j0 : (0 : Int) ≤ (j : Int) := by omega
      have j1 : (j : Int) < (n : Int) := by omega
      clear hky hoy
      go_upto_region 4 with fail
      refine wp_nameE ?_
      intro w2 hw2
      have hb2 : Below wr.heap.size wr w2 := by rw [hw2]; exact (by go_grown)
      have K2 : Blk w2 wr.heap.size 24 #[.int .u8 y.k, .int .i64 y.num, .string y.nm, .slice y.A y.n y.cap] := by rw [hw2]; exact (by repeat' (first | assumption | exact Blk.new' (by simp) _ _ | apply Blk.alloc | apply Blk.drew))
      have HB2 := Lib.hid (HBR.out.next hb2)
      clear hw2 c0 c1 c2 c3 hb2
      obtain ⟨z_2, T_2, F_2⟩ := K2.open_
      clear K2
      go_wp2_with fail
      refine (HOY.out w2 (HB.out.trans (HB2.out.mono (by have := HB.out.size; omega)))).mono ?_
      rintro en w3 ⟨rfl, hb3⟩
      obtain ⟨rj, hrj⟩ : ∃ rj, r j = rj := ⟨_, rfl⟩
      have HRJ := Lib.hid hrj
      have HB3 := Lib.hid (HB2.out.next hb3)
      rw [hrj]
      clear T_2 z_2 F_2 hb3 hrj
      cases rj with
      | false =>
        obtain rfl : rr = false := HAF.out j hjn HRJ.out
        go_wp2_with fail
        go_ret
        exact ⟨rfl, HB3.out⟩
      | true =>
        go_wp2_with fail
        exact ⟨⟨j + 1, by omega, by go_num, by simp only [allTo]; rw [HALL.out, HRJ.out]; rfl, HB3.out⟩, by simp [intOf]; omega⟩
    · obtain rfl : j = n := by omega
      obtain rfl : rr = true := by rw [← HRR.out]; exact HALL.out
      go_wp2_with fail
      go_ret
      exact ⟨rfl, HBR.out⟩
/-- A node whose kids are tested one by one. -/
theorem e_kidsG {w : World} {B : Nat} (hBw : B ≤ w.heap.size) (x : Nd) (m : Nat) (hn : x.n = m) (hm : m ≤ 1000) (fn : Nat → FuncId) (r : Nat → Bool) (heg : ∀ i, i < m → ∀ args W, (callFunc (fn i) args).run Tryz.prog W = .ok (.enter (fn i) args) W)
    (hkid : ∀ i, i < m → ∃ y, Kid w B x i y ∧ ∀ W, Below B w W → Calls Tryz.prog (fn i) #[.agg #[.int .u8 y.k, .int .i64 y.num, .string y.nm, .slice y.A y.n y.cap]] W fun en w'' => en = .returned (.bool (r i)) ∧ Below W.heap.size W w'') (w' : World) (hb : Below B w w') (h : Nat) (t : TypeId) (fs : Array Value) (hf : Blk w' h t fs) (hfs : ∀ i, i < m → fs[i]? = some (.func (.func (fn i)) #[] #[])) :
    Calls Tryz.prog 43 #[.agg #[.int .u8 x.k, .int .i64 x.num, .string x.nm, .slice x.A x.n x.cap], .slice (some ⟨h, 0, none⟩) m m] w' fun en w'' => en = .returned (.bool (allTo r m)) ∧ Below w'.heap.size w' w'' := by
  obtain ⟨k, num, nm, A, n, cap⟩ := x
  have HK := Lib.hid hkid; have HB := Lib.hid hb; have HF := Lib.hid hf; have HFS := Lib.hid hfs; have HEG := Lib.hid heg
  have hlt := hf.lt
  have HAF : Hid (∀ j, j < m → r j = false → allTo r m = false) := Lib.hid fun j h1 h2 => allTo_false h1 h2
  obtain ⟨rr, hrr⟩ : ∃ rr, allTo r m = rr := ⟨_, rfl⟩
  have HRR := Lib.hid hrr
  dsimp only at *
  rw [hrr] at HAF ⊢
  have hn' : ((n : Int) != (m : Int)) = false := by simp; omega
  have HN := Lib.hid hn
  clear hkid hb hf hfs hrr hn heg
  go_enter Tryz.func43, Tryz.ntmps43
  go_upto_region 1 with fail
  refine wp_nameE ?_
  intro w1 hw1
  have hB1 : Below w'.heap.size w' w1 := by rw [hw1]; exact (by go_grown)
  have K1 : Blk w1 w'.heap.size 24 #[.int .u8 k, .int .i64 num, .string nm, .slice A n cap] := by rw [hw1]; exact (by repeat' (first | assumption | exact Blk.new' (by simp) _ _ | apply Blk.alloc | apply Blk.drew))
  clear hw1
  obtain ⟨z_1, T_1, F_1⟩ := K1.open_; have H_1 := Lib.hid K1; clear K1
  go_wp2_with fail
  clear T_1 z_1 F_1
  go_loopw [15] (fun v15 wr => ∃ j : Nat, j ≤ m ∧ v15 = .int .i64 j ∧ allTo r j = true ∧ Below w1.heap.size w1 wr) (fun v _ => m - (intOf v).toNat)
  case atStart => exact ⟨0, Nat.zero_le _, rfl, rfl, Below.refl _ _⟩
  case round =>
    obtain ⟨j, hj, rfl, hall, hbr⟩ := hrel
    have HBR := Lib.hid hbr; have HALL := Lib.hid hall
    have hBr : Below w'.heap.size w' wr := hB1.next hbr
    clear hbr hall
    by_cases hjm : j < m
    · obtain ⟨y, hky, hoy⟩ := HK.out j hjm
      obtain ⟨g, o, hA2, hgB, c0, c1, c2, c3⟩ := hky.cells (HB.out.trans (hBr.mono (by have := HB.out.size; omega)))
      simp only at hA2
      subst hA2
      have HOY := Lib.hid hoy
      have K2 := H_1.out.next HBR.out
      obtain ⟨z_2, T_2, F_2⟩ := K2.open_
      have cf : wr.cell? ⟨h, j, none⟩ = some (.func (.func (fn j)) #[] #[]) := ((HF.out.next hBr).cell j).trans (HFS.out j hjm)
      have j0 : (0 : Int) ≤ (j : Int) := by omega
      have j1 : (j : Int) < (m : Int) := by omega
      have j2 : (j : Int) < (n : Int) := by have := HN.out; omega
      have eg' := HEG.out j hjm
      obtain ⟨fj, hfj⟩ : ∃ fj, fn j = fj := ⟨_, rfl⟩
      rw [hfj] at cf eg' HOY
      clear hky hoy K2 hfj
      go_wp2_with fail
      refine (HOY.out _ (HB.out.trans (hBr.mono (by have := HB.out.size; omega)))).mono ?_
      rintro en w2 ⟨rfl, hb2⟩
      obtain ⟨rj, hrj⟩ : ∃ rj, r j = rj := ⟨_, rfl⟩
      have HRJ := Lib.hid hrj
      have HB3 := Lib.hid (HBR.out.next hb2)
      rw [hrj]
      clear T_2 z_2 F_2 cf c0 c1 c2 c3 hrj
      cases rj with
      | false =>
        obtain rfl : rr = false := HAF.out j hjm HRJ.out
        go_wp2_with fail
        go_ret
        exact ⟨rfl, hBr.next hb2⟩
      | true =>
        go_wp2_with fail
        exact ⟨⟨j + 1, by omega, by go_num, by simp only [allTo]; rw [HALL.out, HRJ.out]; rfl, HB3.out⟩, by simp [intOf]; omega⟩
    · obtain rfl : j = m := by omega
      obtain rfl : rr = true := by rw [← HRR.out]; exact HALL.out
      go_wp2_with fail
      go_ret
      exact ⟨rfl, hBr⟩
end Go.Proofs.YtbijhlgdilkopaaGreatDoor
