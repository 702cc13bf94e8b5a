/- The walk of the law PeepholeVanishes. -/
import Derived.Test.YtfobnkgfbdmakaaDoorAppC
import Derived.Test.YtfobnkgfbdmakaaDoorLawO
import Derived.Test.YtfobnkgfbdmakaaDoorVan
set_option linter.unusedVariables false
namespace Go.Proofs.YtfobnkgfbdmakaaDoor
open Go.RowKit Bk

/-- Code and the last k of its inverse. -/
def bothAt (l : Prg) (k : Nat) : Prg := l ++ ((l.drop (l.length - k)).map Ins.inverse).reverse
theorem bothAt_zero (l : Prg) : bothAt l 0 = l := by simp [bothAt]
theorem bothAt_all (l : Prg) : bothAt l l.length = both l := by simp [bothAt, both]
theorem bothAt_succ (l : Prg) (k : Nat) (h : k < l.length) : bothAt l (k + 1) = bothAt l k ++ [(l.getD (l.length - 1 - k) default).inverse] := by
  have e : l.length - (k + 1) = l.length - 1 - k := by omega
  have e2 : l.length - k = l.length - 1 - k + 1 := by omega
  have h1 : l.drop (l.length - (k + 1)) = l.getD (l.length - 1 - k) default :: l.drop (l.length - k) := by
    rw [e, e2, List.drop_eq_getElem_cons (by omega)]
    simp [List.getD_eq_getElem?_getD, show l.length - 1 - k < l.length by omega]
  unfold bothAt
  rw [h1, List.map_cons, List.reverse_cons, ← List.append_assoc]
theorem bothAt_length (l : Prg) (k : Nat) (h : k ≤ l.length) : (bothAt l k).length = l.length + k := by simp [bothAt]; omega

/-- The image's code with the piece put in, behind i rounds. -/
def yAt (c b : Prg) (k : Nat) : Nat → Prg
  | 0 => []
  | i + 1 => yAt c b k i ++ (if i = k then b else []) ++ [re (sh k b.length) (c.getD i default)]
theorem yAt_eq (c b : Prg) (k : Nat) (hk : k ≤ c.length) : ∀ i, i ≤ c.length → yAt c b k i = if i ≤ k then (c.take i).map (re (sh k b.length)) else (c.take k).map (re (sh k b.length)) ++ b ++ ((c.take i).drop k).map (re (sh k b.length)) := by
  intro i
  induction i with
  | zero => intro _; rw [if_pos (by omega)]; simp [yAt]
  | succ i ih =>
    intro hi
    have e : c.take (i + 1) = c.take i ++ [c.getD i default] := by
      rw [List.take_add_one]; simp [List.getD_eq_getElem?_getD, show i < c.length by omega]
    rw [yAt, ih (by omega), e]
    rcases Nat.lt_trichotomy i k with h | h | h
    · rw [if_pos (by omega), if_neg (by omega), if_pos (by omega)]; simp
    · subst h
      rw [if_pos (by omega), if_pos rfl, if_neg (by omega)]
      rw [List.drop_append_of_le_length (by simp; omega), List.drop_eq_nil_of_le (by simp; omega)]
      simp
    · rw [if_neg (by omega), if_neg (by omega), if_neg (by omega), List.drop_append_of_le_length (by simp; omega)]
      simp
theorem yAt_all (c b : Prg) (k : Nat) (hk : k ≤ c.length) : yAt c b k c.length ++ (if k = c.length then b else []) = insC c b k := by
  rw [yAt_eq c b k hk _ (Nat.le_refl _), List.take_length]
  unfold insC
  rcases Nat.eq_or_lt_of_le hk with h | h
  · rw [if_pos (by omega), if_pos h, h]; simp
  · rw [if_neg (by omega), if_neg (by omega)]; simp
theorem both_wf {l : Prg} (h : CodeWf l) : ∀ y ∈ both l, y.Wf := by
  intro y hy
  have at_ : ∀ x ∈ l, x.Wf := by
    intro x hx
    obtain ⟨k, hk, e⟩ := List.getElem_of_mem hx
    have := h k hk
    simpa [List.getD_eq_getElem?_getD, hk, e] using this
  unfold both at hy
  rcases List.mem_append.1 hy with h1 | h1
  · exact at_ y h1
  · rw [List.mem_reverse] at h1
    obtain ⟨x, hx, rfl⟩ := List.mem_map.1 h1
    have w := at_ x hx
    have r := inv_range x.op w.op0 w.op1
    exact ⟨r.1, r.2, w.a0, w.a1, w.b0, w.b1, w.c0, w.c1, w.d0, w.d1⟩
theorem ins_wf {im : Img} (h : im.check.2 = 0) (hw : CodeWf im.code) {l : Prg} (hw1 : CodeWf l) {k : Nat} (hk : k ≤ im.code.length) (hc : ∀ x ∈ l, cancels x x.inverse = true) (hl : im.code.length + (both l).length ≤ 65536) : CodeWf (insC im.code (both l) k) := by
  have E := ins_emb h hw hk (both_ctl hc) hl
  obtain ⟨hg, _⟩ := valid_good h
  intro i hi
  by_cases hin : ∃ j, upF k (both l).length j = i
  · obtain ⟨j, rfl⟩ := hin
    have hj := (E.len j).2 hi
    rw [insC_up _ _ _ hk j hj]
    have w := hw j hj
    unfold re
    split
    · rename_i ht
      obtain ⟨t, e, h1, _⟩ := hg _ (mem_getD hj) ht
      rw [e, sh_up]
      have hb : upF k (both l).length t ≤ 65536 := by unfold upF; split <;> omega
      generalize upF k (both l).length t = s at *
      have ha : -9223372036854775808 ≤ retA (im.code.getD j default).op (im.code.getD j default).a (s : Nat) ∧ retA (im.code.getD j default).op (im.code.getD j default).a (s : Nat) ≤ 9223372036854775807 := by
        unfold retA; have := w.a0; have := w.a1; split <;> omega
      have hb2 : -9223372036854775808 ≤ retB (im.code.getD j default).op (im.code.getD j default).b (s : Nat) ∧ retB (im.code.getD j default).op (im.code.getD j default).b (s : Nat) ≤ 9223372036854775807 := by
        unfold retB; have := w.b0; have := w.b1; split <;> omega
      exact ⟨w.op0, w.op1, ha.1, ha.2, hb2.1, hb2.2, w.c0, w.c1, w.d0, w.d1⟩
    · exact w
  · exact both_wf hw1 _ (insC_mid _ _ _ hk i hi (fun j e => hin ⟨j, e⟩))
theorem cell_far (w : World) (p : Addr) (u : Value) {b : Nat} (o : Nat) (h : b ≠ p.block) : (w.setCell p u).cell? ⟨b, o, none⟩ = w.cell? ⟨b, o, none⟩ := World.cell?_of_block (Below.heap_setCell w p u b h)
theorem own_nil {w : World} {base : Nat} {e : TypeId} {size n n' c : Nat} {A : Option Addr} {xs : List Value} (h : w.ownsRow base e size (.slice A n' c) n xs) : A = none → n' = 0 ∧ c = 0 := by
  rintro rfl
  rcases h.2 with ⟨hv, _⟩ | ⟨g, cap, cur, hv, _⟩
  · simp at hv; exact hv
  · simp at hv
theorem own_lt {w : World} {base : Nat} {e : TypeId} {size n : Nat} {v : Value} {xs : List Value} (h : w.ownsRow base e size v n xs) {g : Nat} (hg : v.ownBlock = some g) : g < w.heap.size := by
  rcases h.2 with ⟨rfl, _⟩ | ⟨g', cap, cur, rfl, _, hh, _⟩
  · cases hg
  · injection hg with hg
    subst hg
    rcases Nat.lt_or_ge g' w.heap.size with hlt | hge
    · exact hlt
    · rw [Array.getElem?_eq_none hge] at hh; cases hh

set_option maxRecDepth 100000 in
set_option maxHeartbeats 8000000 in
theorem c_lawVanishes (A : Option Addr) (n cap : Nat) (im : Img) (A1 : Option Addr) (n1 cap1 : Nat) (l : Prg) (x : Int) (w : World)
    (hC : Rd w (· < w.heap.size) 5 A n (codeCells im.code)) (hw : CodeWf im.code) (hC1 : Rd w (· < w.heap.size) 5 A1 n1 (codeCells l)) (hw1 : CodeWf l) (hA1 : A1 = none → n1 = 0 ∧ cap1 = 0) (hx0 : 0 ≤ x) (hx1 : x ≤ 255) (hTab : TableAt w) :
    Calls Tryd.prog 4 #[.agg #[.slice A n cap, .int .i64 im.mem, .int .i64 im.stacks], .slice A1 n1 cap1, .int .u8 x] w fun e w' => e = .returned (.bool true) ∧ Below w.heap.size w w' := by
  have hn : n = im.code.length := by have := hC.1; rw [codeCells_length] at this; omega
  have hn1 : n1 = l.length := by have := hC1.1; rw [codeCells_length] at this; omega
  obtain ⟨v, hv⟩ : ∃ v, (decide (n ≤ 90) && im.valid) = v := ⟨_, rfl⟩
  have HN := Lib.hid hn; have HT := Lib.hid hTab; have HC := Lib.hid hC; have HV := Lib.hid hv; have HN1 := Lib.hid hn1; have HC1 := Lib.hid hC1; have HA1 := Lib.hid hA1
  clear hn hTab hC hv hn1 hC1 hA1
  cases v with
  | false =>
    go_enter Tryd.func4, Tryd.ntmps4
    go_wp2_with fail
    refine (c_awake _ (HT.out.next (by repeat' (first | (with_reducible assumption) | (with_reducible exact Below.refl _ _) | (with_reducible refine Below.alloc ?_ ?_ _) | (with_reducible refine Bk.drewN_ ?_ _) | (with_reducible refine Below.drew ?_) | (with_reducible refine Below.setCell ?_ ?_ _) | go_size)))).mono ?_
    rintro e w1 ⟨rfl, hb1⟩
    have hB1 : Below w.heap.size w w1 := Below.trans (by repeat' (first | (with_reducible assumption) | (with_reducible exact Below.refl _ _) | (with_reducible refine Below.alloc ?_ ?_ _) | (with_reducible refine Bk.drewN_ ?_ _) | (with_reducible refine Below.drew ?_) | (with_reducible refine Below.setCell ?_ ?_ _) | go_size)) (hb1.mono (by go_size))
    have K_1 : Blk w1 (w.heap.size) 30 #[.slice A n cap, .int .i64 im.mem, .int .i64 im.stacks] := Blk.next (by repeat' (first | with_reducible exact H_1.out | with_reducible exact K0_1 | (refine Blk.new' ?_ _ _; simp; done) | with_reducible refine Blk.alloc ?_ _ | with_reducible refine Blk.drewN ?_ _ | with_reducible refine Blk.drew ?_)) hb1; (try clear H_1); (try clear T_1); (try clear z_1); (try clear F_1); obtain ⟨z_1, T_1, F_1⟩ := K_1.open_; have H_1 := Lib.hid K_1; clear K_1
    clear hb1
    go_wp2_with fail
    refine (c_smallV _ _ _ im _ HV.out (HC.out.next (by repeat' (first | (with_reducible assumption) | (with_reducible exact Below.refl _ _) | (with_reducible refine Below.alloc ?_ ?_ _) | (with_reducible refine Bk.drewN_ ?_ _) | (with_reducible refine Below.drew ?_) | (with_reducible refine Below.setCell ?_ ?_ _) | go_size))) hw (HT.out.next (by repeat' (first | (with_reducible assumption) | (with_reducible exact Below.refl _ _) | (with_reducible refine Below.alloc ?_ ?_ _) | (with_reducible refine Bk.drewN_ ?_ _) | (with_reducible refine Below.drew ?_) | (with_reducible refine Below.setCell ?_ ?_ _) | go_size)))).mono ?_
    rintro e w2 ⟨rfl, hb2⟩
    have hB2 : Below w.heap.size w w2 := Below.trans (by repeat' (first | (with_reducible assumption) | (with_reducible exact Below.refl _ _) | (with_reducible refine Below.alloc ?_ ?_ _) | (with_reducible refine Bk.drewN_ ?_ _) | (with_reducible refine Below.drew ?_) | (with_reducible refine Below.setCell ?_ ?_ _) | go_size)) (hb2.mono (by go_size))
    have K_1 : Blk w2 (w.heap.size) 30 #[.slice A n cap, .int .i64 im.mem, .int .i64 im.stacks] := Blk.next (by repeat' (first | with_reducible exact H_1.out | with_reducible exact K0_1 | (refine Blk.new' ?_ _ _; simp; done) | with_reducible refine Blk.alloc ?_ _ | with_reducible refine Blk.drewN ?_ _ | with_reducible refine Blk.drew ?_)) hb2; (try clear H_1); (try clear T_1); (try clear z_1); (try clear F_1); obtain ⟨z_1, T_1, F_1⟩ := K_1.open_; have H_1 := Lib.hid K_1; clear K_1
    clear hb2
    go_wp2_with fail
    refine (c_awake _ (HT.out.next (by repeat' (first | (with_reducible assumption) | (with_reducible exact Below.refl _ _) | (with_reducible refine Below.alloc ?_ ?_ _) | (with_reducible refine Bk.drewN_ ?_ _) | (with_reducible refine Below.drew ?_) | (with_reducible refine Below.setCell ?_ ?_ _) | go_size)))).mono ?_
    rintro e w3 ⟨rfl, hb3⟩
    have hB3 : Below w.heap.size w w3 := Below.trans (by repeat' (first | (with_reducible assumption) | (with_reducible exact Below.refl _ _) | (with_reducible refine Below.alloc ?_ ?_ _) | (with_reducible refine Bk.drewN_ ?_ _) | (with_reducible refine Below.drew ?_) | (with_reducible refine Below.setCell ?_ ?_ _) | go_size)) (hb3.mono (by go_size))
    go_wp2_with fail
    go_ret
    exact ⟨rfl, hB3⟩
  | true =>
    by_cases h1 : n1 ≤ 90
    · have hgt : decide ((90 : Int) < (n1 : Int)) = false := by simp; omega
      obtain ⟨h90, hck⟩ := small_check HV.out
      have HCK := Lib.hid hck
      clear hck
      go_enter Tryd.func4, Tryd.ntmps4
      go_wp2_with fail
      refine (c_awake _ (HT.out.next (by repeat' (first | (with_reducible assumption) | (with_reducible exact Below.refl _ _) | (with_reducible refine Below.alloc ?_ ?_ _) | (with_reducible refine Bk.drewN_ ?_ _) | (with_reducible refine Below.drew ?_) | (with_reducible refine Below.setCell ?_ ?_ _) | go_size)))).mono ?_
      rintro e w1 ⟨rfl, hb1⟩
      have hB1 : Below w.heap.size w w1 := Below.trans (by repeat' (first | (with_reducible assumption) | (with_reducible exact Below.refl _ _) | (with_reducible refine Below.alloc ?_ ?_ _) | (with_reducible refine Bk.drewN_ ?_ _) | (with_reducible refine Below.drew ?_) | (with_reducible refine Below.setCell ?_ ?_ _) | go_size)) (hb1.mono (by go_size))
      have K_1 : Blk w1 (w.heap.size) 30 #[.slice A n cap, .int .i64 im.mem, .int .i64 im.stacks] := Blk.next (by repeat' (first | with_reducible exact H_1.out | with_reducible exact K0_1 | (refine Blk.new' ?_ _ _; simp; done) | with_reducible refine Blk.alloc ?_ _ | with_reducible refine Blk.drewN ?_ _ | with_reducible refine Blk.drew ?_)) hb1; (try clear H_1); (try clear T_1); (try clear z_1); (try clear F_1); obtain ⟨z_1, T_1, F_1⟩ := K_1.open_; have H_1 := Lib.hid K_1; clear K_1
      clear hb1
      go_wp2_with fail
      refine (c_smallV _ _ _ im _ HV.out (HC.out.next (by repeat' (first | (with_reducible assumption) | (with_reducible exact Below.refl _ _) | (with_reducible refine Below.alloc ?_ ?_ _) | (with_reducible refine Bk.drewN_ ?_ _) | (with_reducible refine Below.drew ?_) | (with_reducible refine Below.setCell ?_ ?_ _) | go_size))) hw (HT.out.next (by repeat' (first | (with_reducible assumption) | (with_reducible exact Below.refl _ _) | (with_reducible refine Below.alloc ?_ ?_ _) | (with_reducible refine Bk.drewN_ ?_ _) | (with_reducible refine Below.drew ?_) | (with_reducible refine Below.setCell ?_ ?_ _) | go_size)))).mono ?_
      rintro e w2 ⟨rfl, hb2⟩
      have hB2 : Below w.heap.size w w2 := Below.trans (by repeat' (first | (with_reducible assumption) | (with_reducible exact Below.refl _ _) | (with_reducible refine Below.alloc ?_ ?_ _) | (with_reducible refine Bk.drewN_ ?_ _) | (with_reducible refine Below.drew ?_) | (with_reducible refine Below.setCell ?_ ?_ _) | go_size)) (hb2.mono (by go_size))
      have K_1 : Blk w2 (w.heap.size) 30 #[.slice A n cap, .int .i64 im.mem, .int .i64 im.stacks] := Blk.next (by repeat' (first | with_reducible exact H_1.out | with_reducible exact K0_1 | (refine Blk.new' ?_ _ _; simp; done) | with_reducible refine Blk.alloc ?_ _ | with_reducible refine Blk.drewN ?_ _ | with_reducible refine Blk.drew ?_)) hb2; (try clear H_1); (try clear T_1); (try clear z_1); (try clear F_1); obtain ⟨z_1, T_1, F_1⟩ := K_1.open_; have H_1 := Lib.hid K_1; clear K_1
      clear hb2
      have y1 := z_1
      have HI2 := H_1
      go_wp2_with (at_builtin; go_must (refine wpList_append_code rfl _ _ rfl w2.heap.size _ 0 [] rfl (World.ownsRow_made w2 #[] 0 (Nat.le_refl _) (Nat.zero_le _) rfl) A1 n1 cap1 l rfl HA1.out (HC1.out.next (by repeat' (first | (with_reducible assumption) | (with_reducible exact Below.refl _ _) | (with_reducible refine Below.alloc ?_ ?_ _) | (with_reducible refine Bk.drewN_ ?_ _) | (with_reducible refine Below.drew ?_) | (with_reducible refine Below.setCell ?_ ?_ _) | go_size))) (by omega) (by simp) ?_))
      intro v3 w3 ho3' hg3
      have ho3 : w3.ownsRow w2.heap.size 23 5 v3 n1 (codeCells l) := by simpa using ho3'
      have hb3 : Below w2.heap.size w2 w3 := Below.trans (by repeat' (first | (with_reducible assumption) | (with_reducible exact Below.refl _ _) | (with_reducible refine Below.alloc ?_ ?_ _) | (with_reducible refine Bk.drewN_ ?_ _) | (with_reducible refine Below.drew ?_) | (with_reducible refine Below.setCell ?_ ?_ _) | go_size)) (below_grown (B := w2.heap.size) hg3 (by simp) (by intro k hk; simp [Value.ownBlock] at hk; omega))
      have hB3 : Below w.heap.size w w3 := Below.trans (by repeat' (first | (with_reducible assumption) | (with_reducible exact Below.refl _ _) | (with_reducible refine Below.alloc ?_ ?_ _) | (with_reducible refine Bk.drewN_ ?_ _) | (with_reducible refine Below.drew ?_) | (with_reducible refine Below.setCell ?_ ?_ _) | go_size)) (hb3.mono (by go_size))
      have K_1 : Blk w3 (w.heap.size) 30 #[.slice A n cap, .int .i64 im.mem, .int .i64 im.stacks] := Blk.next (by repeat' (first | with_reducible exact H_1.out | with_reducible exact K0_1 | (refine Blk.new' ?_ _ _; simp; done) | with_reducible refine Blk.alloc ?_ _ | with_reducible refine Blk.drewN ?_ _ | with_reducible refine Blk.drew ?_)) hb3; (try clear H_1); (try clear T_1); (try clear z_1); (try clear F_1); obtain ⟨z_1, T_1, F_1⟩ := K_1.open_; have H_1 := Lib.hid K_1; clear K_1
      have HO3 := Lib.hid ho3
      have HB23 := Lib.hid hb3
      clear ho3' hg3 hb3 ho3
      have hB23 : Below w2.heap.size w2 w3 := HB23.out
      go_wp2_with fail
      go_loopw [7, 8] (fun v7 v8 wr => ∃ k : Nat, k ≤ n1 ∧ v8 = .int .i64 ((n1 : Int) - 1 - (k : Int)) ∧ wr.ownsRow w2.heap.size 23 5 v7 (n1 + k) (codeCells (bothAt l k)) ∧ (∀ j, n1 - k ≤ j → j < n1 → cancels (l.getD j default) (l.getD j default).inverse = true) ∧ Below w2.heap.size w2 wr) (fun _ v8 _ => (intOf v8 + 1).toNat)
      case atStart => exact ⟨0, Nat.zero_le _, by go_num, by rw [bothAt_zero]; exact HO3.out, fun j h1 h2 => by omega, hB23⟩
      case round =>
        obtain ⟨k, hk, rfl, hown, hcan, hBr⟩ := hrel
        have hB : Below w.heap.size w wr := hB2.next hBr
        have hBs := hB.size
        have hBrs := hBr.size
        have K1 := HI2.out.next hBr
        clear T_1 z_1 F_1 H_1
        have HO := Lib.hid hown; have HCan := Lib.hid hcan
        have hOB : ∀ g, u7.ownBlock = some g → w2.heap.size ≤ g := fun g hg => own_block_ge hown hg
        have HOB := Lib.hid hOB
        have HBr := Lib.hid hBr
        clear hown hcan hOB
        by_cases hlt : k < n1
        · obtain ⟨jn, hjn⟩ : ∃ jn : Nat, (n1 : Int) - 1 - (k : Int) = (jn : Int) := ⟨n1 - 1 - k, by omega⟩
          rw [hjn]
          have hjn' : jn = n1 - 1 - k := by omega
          have hjl : jn < n1 := by omega
          obtain ⟨b1, off1, rfl, hbw1, _⟩ := HC1.out.2 (by omega)
          have hbw : b1 < wr.heap.size := by omega
          obtain ⟨x0, x1, x2, x3, x4⟩ := (HC1.out.below hB (fun _ h => h)).insAt (k := jn) (HN1.out ▸ hjl)
          have hxo0 := hw1.op0 jn
          have hxo1 := (hw1 jn (HN1.out ▸ hjl)).op1
          have hsucc := bothAt_succ l k (HN1.out ▸ hlt)
          have e1 : l.length - 1 - k = jn := by rw [← HN1.out]; omega
          rw [e1] at hsucc
          have hcj : ∀ j, n1 - (k + 1) ≤ j → j < n1 → cancels (l.getD jn default) (l.getD jn default).inverse = true → cancels (l.getD j default) (l.getD j default).inverse = true := by
            intro j h1 h2 h3
            rcases Nat.lt_or_ge j (n1 - k) with h | h
            · have : j = jn := by omega
              rw [this]; exact h3
            · exact HCan.out j h h2
          generalize hy : l.getD jn default = y at *
          have HY := Lib.hid (And.intro x0 (And.intro x1 (And.intro x2 (And.intro x3 x4))))
          have HSucc := Lib.hid hsucc; have HCJ := Lib.hid hcj; have HJN := Lib.hid hjn; have HJN' := Lib.hid hjn'
          obtain ⟨vv, hvv⟩ : ∃ vv, validB y.op y.a y.b y.c y.d = vv := ⟨_, rfl⟩
          obtain ⟨cc, hcc⟩ : ∃ cc, cancels ⟨y.op, y.a, y.b, y.c, y.d⟩ ⟨inv y.op, y.a, y.b, y.c, y.d⟩ = cc := ⟨_, rfl⟩
          have HVV := Lib.hid hvv; have HCC := Lib.hid hcc
          have j1 : (0 : Int) ≤ (jn : Int) := by omega
          have j2 : (jn : Int) < (n1 : Int) := by omega
          have j3 : ¬ n1 ≤ jn := by omega
          clear x0 x1 x2 x3 x4 hsucc hcj hjn hjn' e1 hvv hcc hy K1
          cases vv with
          | false =>
            go_wp2_with fail
            refine wp_region_grow (by kernel_rfl) (by kernel_rfl) ?_; intro W hW; have hneW : Nonempty (Grw W) := ⟨⟨W, Below.refl _ _⟩⟩; have HBz := Lib.hid (fun z => Below.next (show Below w.heap.size w W by (rw [hW]; exact (by repeat' (first | (with_reducible assumption) | (with_reducible exact Below.refl _ _) | (with_reducible refine Below.alloc ?_ ?_ _) | (with_reducible refine Bk.drewN_ ?_ _) | (with_reducible refine Below.drew ?_) | (with_reducible refine Below.setCell ?_ ?_ _) | go_size)))) (grow_below W z))
            have k0 := cell_grow hW hbw HY.out.1; have k1 := cell_grow hW hbw HY.out.2.1; have k2 := cell_grow hW hbw HY.out.2.2.1; have k3 := cell_grow hW hbw HY.out.2.2.2.1; have k4 := cell_grow hW hbw HY.out.2.2.2.2; have HW := Lib.hid hW; clear hW
            repeat (go_big_quiet_step ((first | (go_at_call 12; with_reducible exact quiet_grow (c_Valid' _ _ _ _ _ HVV.out hxo0 _ (HT.out.next (HBz.out _)))))))
            clear k0 k1 k2 k3 k4
            refine wpQuiet_nil ?_; rintro _ ⟨z, rfl⟩; have hb1 := grow_below W z; have hB1 := HBz.out z; generalize grow W z = w1 at hb1 hB1 ⊢; have hW := HW.out; clear HW HBz hneW; subst hW; obtain ⟨hc1, hf1⟩ := bcell hb1; obtain ⟨hcA1, hfA1⟩ := bcell hB1; have HB1 := Lib.hid hb1; clear hb1
            clear hc1 hf1 hcA1 hfA1
            go_wp2_with fail
            go_ret
            exact ⟨rfl, hB1⟩
          | true =>
            cases cc with
            | false =>
              go_wp2_with fail
              refine wp_region_grow (by kernel_rfl) (by kernel_rfl) ?_; intro W hW; have hneW : Nonempty (Grw W) := ⟨⟨W, Below.refl _ _⟩⟩; have HBz := Lib.hid (fun z => Below.next (show Below w.heap.size w W by (rw [hW]; exact (by repeat' (first | (with_reducible assumption) | (with_reducible exact Below.refl _ _) | (with_reducible refine Below.alloc ?_ ?_ _) | (with_reducible refine Bk.drewN_ ?_ _) | (with_reducible refine Below.drew ?_) | (with_reducible refine Below.setCell ?_ ?_ _) | go_size)))) (grow_below W z))
              have k0 := cell_grow hW hbw HY.out.1; have k1 := cell_grow hW hbw HY.out.2.1; have k2 := cell_grow hW hbw HY.out.2.2.1; have k3 := cell_grow hW hbw HY.out.2.2.2.1; have k4 := cell_grow hW hbw HY.out.2.2.2.2; have HW := Lib.hid hW; clear hW
              repeat (go_big_quiet_step ((first | (go_at_call 12; with_reducible exact quiet_grow (c_Valid' _ _ _ _ _ HVV.out hxo0 _ (HT.out.next (HBz.out _)))) | (go_at_call 10; with_reducible exact quiet_grow (c_Inverse _ _ _ _ _ hxo0 hxo1 _)) | (go_at_call 11; with_reducible exact quiet_grow (c_Cancels' _ _ _ _ _ _ _ _ _ _ HCC.out hxo0 hxo1 _ (HT.out.next (HBz.out _)))))))
              clear k0 k1 k2 k3 k4
              refine wpQuiet_nil ?_; rintro _ ⟨z, rfl⟩; have hb1 := grow_below W z; have hB1 := HBz.out z; generalize grow W z = w1 at hb1 hB1 ⊢; have hW := HW.out; clear HW HBz hneW; subst hW; obtain ⟨hc1, hf1⟩ := bcell hb1; obtain ⟨hcA1, hfA1⟩ := bcell hB1; have HB1 := Lib.hid hb1; clear hb1
              clear hc1 hf1 hcA1 hfA1
              go_wp2_with fail
              go_ret
              exact ⟨rfl, hB1⟩
            | true =>
              go_wp2_with fail
              refine wp_region_grow (by kernel_rfl) (by kernel_rfl) ?_; intro W hW; have hneW : Nonempty (Grw W) := ⟨⟨W, Below.refl _ _⟩⟩; have HBz := Lib.hid (fun z => Below.next (show Below w.heap.size w W by (rw [hW]; exact (by repeat' (first | (with_reducible assumption) | (with_reducible exact Below.refl _ _) | (with_reducible refine Below.alloc ?_ ?_ _) | (with_reducible refine Bk.drewN_ ?_ _) | (with_reducible refine Below.drew ?_) | (with_reducible refine Below.setCell ?_ ?_ _) | go_size)))) (grow_below W z))
              have k0 := cell_grow hW hbw HY.out.1; have k1 := cell_grow hW hbw HY.out.2.1; have k2 := cell_grow hW hbw HY.out.2.2.1; have k3 := cell_grow hW hbw HY.out.2.2.2.1; have k4 := cell_grow hW hbw HY.out.2.2.2.2; have HW := Lib.hid hW; clear hW
              repeat (go_big_quiet_step ((first | (go_at_call 12; with_reducible exact quiet_grow (c_Valid' _ _ _ _ _ HVV.out hxo0 _ (HT.out.next (HBz.out _)))) | (go_at_call 10; with_reducible exact quiet_grow (c_Inverse _ _ _ _ _ hxo0 hxo1 _)) | (go_at_call 11; with_reducible exact quiet_grow (c_Cancels' _ _ _ _ _ _ _ _ _ _ HCC.out hxo0 hxo1 _ (HT.out.next (HBz.out _)))))))
              clear k0 k1 k2 k3 k4
              refine wpQuiet_nil ?_; rintro _ ⟨z, rfl⟩; have hb1 := grow_below W z; have hB1 := HBz.out z; generalize grow W z = w1 at hb1 hB1 ⊢; have hW := HW.out; clear HW HBz hneW; subst hW; obtain ⟨hc1, hf1⟩ := bcell hb1; obtain ⟨hcA1, hfA1⟩ := bcell hB1; have HB1 := Lib.hid hb1; clear hb1
              clear hc1 hf1 hcA1 hfA1
              have x0 := (HB1.out.cell (p := ⟨b1, _, none⟩) hbw).trans HY.out.1
              have x1 := (HB1.out.cell (p := ⟨b1, _, none⟩) hbw).trans HY.out.2.1
              have x2 := (HB1.out.cell (p := ⟨b1, _, none⟩) hbw).trans HY.out.2.2.1
              have x3 := (HB1.out.cell (p := ⟨b1, _, none⟩) hbw).trans HY.out.2.2.2.1
              have x4 := (HB1.out.cell (p := ⟨b1, _, none⟩) hbw).trans HY.out.2.2.2.2
              have O1 := own_below HO.out HB1.out (Nat.le_refl _)
              have HO1 := Lib.hid O1
              have hs1 := HB1.out.size
              clear O1
              go_wp2_with fail
              refine (c_Inverse _ _ _ _ _ hxo0 hxo1 _).mono ?_
              rintro e w5 ⟨rfl, hb5⟩
              have hB5 : Below w.heap.size w w5 := Below.trans (by repeat' (first | (with_reducible assumption) | (with_reducible exact Below.refl _ _) | (with_reducible refine Below.alloc ?_ ?_ _) | (with_reducible refine Bk.drewN_ ?_ _) | (with_reducible refine Below.drew ?_) | (with_reducible refine Below.setCell ?_ ?_ _) | go_size)) (hb5.mono (by go_size))
              have hB25 : Below w2.heap.size w2 w5 := Below.trans (HBr.out.next HB1.out) (hb5.mono (by omega))
              have O5 := own_below HO1.out hb5 (Nat.le_refl _)
              have HO5 := Lib.hid O5
              have hs5 := hb5.size
              clear O5 hb5 x0 x1 x2 x3 x4
              go_wp2_with (at_builtin; go_must (refine wpList_append_code rfl _ _ rfl w2.heap.size u7 (n1 + k) (bothAt l k) rfl (HO5.out.alloc _) _ 1 1 [⟨inv y.op, y.a, y.b, y.c, y.d⟩] rfl (fun h => by cases h) (Rd.new (by simp) (by rfl)) (by omega) (by simp; omega) ?_))
              intro v6 w6 ho6 hg6
              have hB6 : Below w.heap.size w w6 := Below.trans (by repeat' (first | (with_reducible assumption) | (with_reducible exact Below.refl _ _) | (with_reducible refine Below.alloc ?_ ?_ _) | (with_reducible refine Bk.drewN_ ?_ _) | (with_reducible refine Below.drew ?_) | (with_reducible refine Below.setCell ?_ ?_ _) | go_size)) (below_grown (B := w.heap.size) hg6 (by simp; omega) (fun g hg => by have := HOB.out g hg; omega))
              have hB26 : Below w2.heap.size w2 w6 := Below.trans (by repeat' (first | (with_reducible assumption) | (with_reducible exact Below.refl _ _) | (with_reducible refine Below.alloc ?_ ?_ _) | (with_reducible refine Bk.drewN_ ?_ _) | (with_reducible refine Below.drew ?_) | (with_reducible refine Below.setCell ?_ ?_ _) | go_size)) (below_grown (B := w2.heap.size) hg6 (by simp; omega) (fun g hg => HOB.out g hg))
              have HO6 := Lib.hid ho6
              clear hg6 ho6
              go_wp2_with fail
              refine ⟨⟨k + 1, by omega, by rw [show (n1 : Int) - 1 - ((k + 1 : Nat) : Int) = (jn : Int) - 1 from by have := HJN.out; omega], ?_, fun j h1 h2 => HCJ.out j h1 h2 HCC.out, hB26⟩, by simp [intOf]⟩
              rw [HSucc.out]
              exact HO6.out
        · obtain rfl : k = n1 := by omega
          rw [show (k : Int) - 1 - (k : Int) = -1 from by omega]
          obtain ⟨z_1, T_1, F_1⟩ := K1.open_
          have H_1 := Lib.hid K1
          clear K1
          have hall : ∀ y ∈ l, cancels y y.inverse = true := by
            intro y hy
            obtain ⟨j, hj, e⟩ := List.getElem_of_mem hy
            have := HCan.out j (by omega) (by rw [HN1.out]; exact hj)
            simpa [List.getD_eq_getElem?_getD, hj, e] using this
          have hown := HO.out
          rw [show bothAt l k = both l from by rw [HN1.out]; exact bothAt_all l] at hown
          obtain ⟨A7, cap7, rfl⟩ := own_form hown
          have hA7 := own_nil hown
          have hR7 := (Rd.of_own hown).mono (D' := (· < wr.heap.size)) fun _ h => h.2
          have hblen : (both l).length = k + k := by have := hown.1; rw [codeCells_length] at this; omega
          have HAll := Lib.hid hall; have HA7 := Lib.hid hA7; have HR7 := Lib.hid hR7; have HBL := Lib.hid hblen
          obtain ⟨kk, hkk, hkn⟩ : ∃ kk : Nat, x % ((n : Int) + 1) = (kk : Int) ∧ kk ≤ n := by
            have h1 := Int.emod_nonneg x (show (n : Int) + 1 ≠ 0 by omega)
            have h2 := Int.emod_lt_of_pos x (show (0 : Int) < (n : Int) + 1 by omega)
            exact ⟨(x % ((n : Int) + 1)).toNat, by omega, by omega⟩
          have HKK := Lib.hid hkk
          clear hall hown hA7 hR7 hblen hkk HO HOB HCan
          generalize hm7 : k + k = m7 at *
          have hm180 : m7 ≤ 180 := by omega
          have hgd := (valid_good HCK.out).1
          have HGD := Lib.hid hgd
          clear hgd hm7
          go_wp2_with fail
          rw [HKK.out]
          obtain ⟨wo, rfl⟩ : ∃ wo : World, wo = wr := ⟨_, rfl⟩
          go_loopw [84] (fun v84 wq => ∃ (i : Nat) (vy : Value), i ≤ n ∧ v84 = .int .i64 i ∧ Below wo.heap.size wo wq ∧ Blk wq wo.heap.size 30 #[vy, .int .i64 im.mem, .int .i64 im.stacks] ∧
            wq.ownsRow (wo.heap.size + 1) 23 5 vy (yAt im.code (both l) kk i).length (codeCells (yAt im.code (both l) kk i))) (fun v84 _ => n - (intOf v84).toNat)
          case atStart => exact ⟨0, .slice none 0 0, Nat.zero_le _, rfl, by repeat' (first | (with_reducible assumption) | (with_reducible exact Below.refl _ _) | (with_reducible refine Below.alloc ?_ ?_ _) | (with_reducible refine Bk.drewN_ ?_ _) | (with_reducible refine Below.drew ?_) | (with_reducible refine Below.setCell ?_ ?_ _) | go_size), by repeat' (first | with_reducible assumption | (refine Blk.new' ?_ _ _; simp; done) | refine Blk.alloc ?_ _ | refine Blk.drewN ?_ _ | refine Blk.drew ?_), ⟨by simp [yAt, codeCells], .inl ⟨rfl, rfl⟩⟩⟩
          case round =>
            obtain ⟨i, vy, hi, rfl, hBq, hY, hoy⟩ := hrel
            have hBw : Below w.heap.size w wr := hB.next hBq
            have hs1 := hBq.size
            have hs2 := hBw.size
            have gY := hY.lt
            have hOB : ∀ g, vy.ownBlock = some g → wo.heap.size + 1 ≤ g := fun g hg => own_block_ge hoy hg
            have hOL : ∀ g, vy.ownBlock = some g → g < wr.heap.size := fun g hg => own_lt hoy hg
            have HOB2 := Lib.hid hOB; have HOL := Lib.hid hOL; have HOY := Lib.hid hoy; have HY := Lib.hid hY; have HBq := Lib.hid hBq
            have HR7b := Lib.hid (HR7.out.next hBq)
            clear hOB hOL hoy hBq
            by_cases hlt : i < n
            · obtain ⟨b, off, rfl, hbb, _⟩ := HC.out.2 (by omega)
              obtain ⟨x0, x1, x2, x3, x4⟩ := (HC.out.below hBw (fun _ h => h)).insAt (k := i) (HN.out ▸ hlt)
              have hstep : yAt im.code (both l) kk (i + 1) = yAt im.code (both l) kk i ++ (if i = kk then both l else []) ++ [re (sh kk (both l).length) (im.code.getD i default)] := rfl
              have hmem := mem_getD (c := im.code) (k := i) (HN.out ▸ hlt)
              have hgz := HGD.out _ hmem
              generalize hz : im.code.getD i default = z at *
              obtain ⟨⟨t, ok⟩, ht⟩ : ∃ p, targetP z.op z.a z.b = p := ⟨_, rfl⟩
              have HZ := Lib.hid hz; have HSt := Lib.hid hstep; have HTG := Lib.hid ht; have HGZ := Lib.hid hgz
              have i1 : (0 : Int) ≤ (i : Int) := by omega
              have i2 : (i : Int) < (n : Int) := by omega
              have i3 : ¬ n ≤ i := by omega
              clear hz hstep ht hgz hmem hY
              go_wp2_with fail
              refine (c_Target' _ _ _ _ _ HTG.out _).mono ?_
              rintro e w5 ⟨rfl, hb5⟩
              have hB5 : Below w.heap.size w w5 := Below.trans (by repeat' (first | (with_reducible assumption) | (with_reducible exact Below.refl _ _) | (with_reducible refine Below.alloc ?_ ?_ _) | (with_reducible refine Bk.drewN_ ?_ _) | (with_reducible refine Below.drew ?_) | (with_reducible refine Below.setCell ?_ ?_ _) | go_size)) (hb5.mono (by go_size))
              have KX : Blk w5 wr.heap.size 23 #[.int .u8 (z.op), .int .i64 (z.a), .int .i64 (z.b), .int .i64 (z.c), .int .i64 (z.d)] := Blk.next (by repeat' (first | with_reducible assumption | (refine Blk.new' ?_ _ _; simp; done) | refine Blk.alloc ?_ _ | refine Blk.drewN ?_ _ | refine Blk.drew ?_)) hb5
              have KY := (HY.out.alloc _).next hb5
              have O5 := own_below (HOY.out.alloc _) hb5 (Nat.le_refl _)
              have R5 := HR7b.out.next (Below.trans (by repeat' (first | (with_reducible assumption) | (with_reducible exact Below.refl _ _) | (with_reducible refine Below.alloc ?_ ?_ _) | (with_reducible refine Bk.drewN_ ?_ _) | (with_reducible refine Below.drew ?_) | (with_reducible refine Below.setCell ?_ ?_ _) | go_size)) (hb5.mono (by go_size)) : Below wr.heap.size wr w5)
              have s5 := hb5.size
              have HKX := Lib.hid KX; have HKY := Lib.hid KY; have HO5 := Lib.hid O5; have HR5 := Lib.hid R5
              obtain ⟨zX, TX, FX⟩ := KX.open_
              obtain ⟨zY, TY, FY⟩ := KY.open_
              have hbw5 := hb5
              clear KX KY O5 R5 hb5 x0 x1 x2 x3 x4
              have hcase : (ok = false ∧ re (sh kk (both l).length) z = z) ∨ (∃ tn : Nat, ok = true ∧ t = (tn : Int) ∧ tn < n ∧ tn < kk ∧ re (sh kk (both l).length) z = z) ∨ (∃ tn : Nat, ok = true ∧ t = (tn : Int) ∧ tn < n ∧ kk ≤ tn ∧ re (sh kk (both l).length) z = z.retarget ((tn : Int) + (m7 : Int))) := by
                have hzt : z.target = (t, ok) := HTG.out
                cases ok with
                | false => exact .inl ⟨rfl, by rw [re, if_neg (by unfold tgt; rw [hzt]; simp)]⟩
                | true =>
                  have htg : tgt z = true := by unfold tgt; rw [hzt]
                  obtain ⟨tn, e1, e2, _⟩ := HGZ.out htg
                  rw [hzt] at e1
                  simp only at e1
                  have htn : tn < n := by have := HN.out; omega
                  refine .inr ?_
                  rcases Nat.lt_or_ge tn kk with h | h
                  · refine .inl ⟨tn, rfl, e1, htn, h, ?_⟩
                    rw [re, if_pos htg, hzt, e1]
                    unfold sh
                    rw [if_neg (by omega), ← e1]
                    have := ret_self htg
                    rw [hzt] at this
                    exact this
                  · refine .inr ⟨tn, rfl, e1, htn, h, ?_⟩
                    rw [re, if_pos htg, hzt, e1]
                    unfold sh
                    rw [if_pos (by omega), HBL.out]
              have hfar : wr.heap.size ≠ wo.heap.size := by omega
              obtain ⟨zc, hzc⟩ : ∃ zc, re (sh kk (both l).length) z = zc := ⟨_, rfl⟩
              have HZC := Lib.hid hzc
              have hlen : (yAt im.code (both l) kk i).length ≤ i + (both l).length := by
                rw [yAt_eq im.code (both l) kk (by have := HN.out; omega) i (by have := HN.out; omega)]
                split <;> simp <;> omega
              have HLen := Lib.hid hlen
              have hBO : Below wo.heap.size wo w5 := HBq.out.next (Below.trans (by repeat' (first | (with_reducible assumption) | (with_reducible exact Below.refl _ _) | (with_reducible refine Below.alloc ?_ ?_ _) | (with_reducible refine Bk.drewN_ ?_ _) | (with_reducible refine Below.drew ?_) | (with_reducible refine Below.setCell ?_ ?_ _) | go_size)) (hbw5.mono (by simp)))
              clear hzc hlen
              rcases hcase with ⟨rfl, hz'⟩ | ⟨tn, rfl, rfl, htn, hlk, hz'⟩ | ⟨tn, rfl, rfl, htn, hlk, hz'⟩
              · have hzz : zc = z := by rw [← HZC.out, hz']
                subst hzz
                clear hz'
                by_cases hik : i = kk
                · have hik1 : ((i : Int) == (kk : Int)) = true := by simp [hik]
                  have HIK := Lib.hid hik; clear hik
                  go_wp2_with (at_builtin; go_must (refine wpList_append_code rfl (.tmp 110) (.tmp 111) rfl (wo.heap.size + 1) _ _ (yAt im.code (both l) kk i) rfl HO5.out A7 m7 cap7 (both l) rfl HA7.out HR5.out (by have := HLen.out; have := HBL.out; omega) (by omega) ?_)); intro v6 w6 ho6 hg6; obtain ⟨A6, c6, rfl⟩ := own_form ho6; have KX6 := HKX.out.grown hg6 (by intro h; have := HOL.out _ h.symm; omega); have KY6 := HKY.out.grown hg6 (by intro h; have := HOB2.out _ h.symm; omega); have hBO6 : Below wo.heap.size wo w6 := Below.trans (by repeat' (first | (with_reducible assumption) | (with_reducible exact Below.refl _ _) | (with_reducible refine Below.alloc ?_ ?_ _) | (with_reducible refine Bk.drewN_ ?_ _) | (with_reducible refine Below.drew ?_) | (with_reducible refine Below.setCell ?_ ?_ _) | go_size)) (below_grown (B := wo.heap.size) hg6 (by omega) (fun g hg => by have := HOB2.out g hg; omega)); have hOB6 := fun g hg => own_block_ge ho6 (k := g) hg; have HOBQ := Lib.hid hOB6; have HOQ := Lib.hid (own_setCell (o := 0) (u := .slice A6 ((yAt im.code (both l) kk i).length + m7) c6) ho6 (show wo.heap.size < wo.heap.size + 1 by omega)); have HKQ := Lib.hid (KY6.set_ 0 (.slice A6 ((yAt im.code (both l) kk i).length + m7) c6)); obtain ⟨zX6, TX6, FX6⟩ := KX6.open_; obtain ⟨zY6, TY6, FY6⟩ := KY6.open_; clear KX6 KY6 ho6 hg6 hOB6
                  go_wp2_with (at_builtin; go_must (refine wpList_append_code rfl (.tmp 115) (.tmp 117) rfl (wo.heap.size + 1) _ _ _ rfl (HOQ.out.alloc _) _ 1 1 [zc] rfl (fun h => by cases h) (Rd.new (by first | rfl | simp) (by rfl)) (by (try simp only [List.length_append]); have := HLen.out; have := HBL.out; omega) (by (try simp); omega) ?_)); intro v8 w8 ho8 hg8; obtain ⟨A8, c8, rfl⟩ := own_form ho8; have KY8 := (HKQ.out.alloc _).grown hg8 (by intro h; have := HOBQ.out _ h.symm; omega); have hb8 : Below wo.heap.size wo w8 := Below.trans (by repeat' (first | (with_reducible assumption) | (with_reducible exact Below.refl _ _) | (with_reducible refine Below.alloc ?_ ?_ _) | (with_reducible refine Bk.drewN_ ?_ _) | (with_reducible refine Below.drew ?_) | (with_reducible refine Below.setCell ?_ ?_ _) | go_size)) (below_grown (B := wo.heap.size) hg8 (by simp; omega) (fun g hg => by have := HOBQ.out g hg; omega)); obtain ⟨zQ, TQ, FQ⟩ := KY8.open_; have HK8 := Lib.hid KY8; have HO8 := Lib.hid ho8; clear KY8 ho8 hg8; go_wp2_with fail; refine ⟨⟨i + 1, _, by omega, by go_num, by repeat' (first | (with_reducible assumption) | (with_reducible exact Below.refl _ _) | (with_reducible refine Below.alloc ?_ ?_ _) | (with_reducible refine Bk.drewN_ ?_ _) | (with_reducible refine Below.drew ?_) | (with_reducible refine Below.setCell ?_ ?_ _) | go_size), by simpa using HK8.out.set_ 0 _, ?_⟩, by simp [intOf]; omega⟩
                  rw [HSt.out, if_pos HIK.out, HZC.out]
                  exact own_setCell (by simpa [HBL.out, Nat.add_assoc] using HO8.out) (by omega)
                · have hik1 : ((i : Int) == (kk : Int)) = false := by simp; omega
                  have HIK := Lib.hid hik; clear hik
                  have HOQ := HO5
                  have HKQ := HKY
                  have HOBQ := HOB2
                  go_wp2_with (at_builtin; go_must (refine wpList_append_code rfl (.tmp 115) (.tmp 117) rfl (wo.heap.size + 1) _ _ _ rfl (HOQ.out.alloc _) _ 1 1 [zc] rfl (fun h => by cases h) (Rd.new (by first | rfl | simp) (by rfl)) (by (try simp only [List.length_append]); have := HLen.out; have := HBL.out; omega) (by (try simp); omega) ?_)); intro v8 w8 ho8 hg8; obtain ⟨A8, c8, rfl⟩ := own_form ho8; have KY8 := (HKQ.out.alloc _).grown hg8 (by intro h; have := HOBQ.out _ h.symm; omega); have hb8 : Below wo.heap.size wo w8 := Below.trans (by repeat' (first | (with_reducible assumption) | (with_reducible exact Below.refl _ _) | (with_reducible refine Below.alloc ?_ ?_ _) | (with_reducible refine Bk.drewN_ ?_ _) | (with_reducible refine Below.drew ?_) | (with_reducible refine Below.setCell ?_ ?_ _) | go_size)) (below_grown (B := wo.heap.size) hg8 (by simp; omega) (fun g hg => by have := HOBQ.out g hg; omega)); obtain ⟨zQ, TQ, FQ⟩ := KY8.open_; have HK8 := Lib.hid KY8; have HO8 := Lib.hid ho8; clear KY8 ho8 hg8; go_wp2_with fail; refine ⟨⟨i + 1, _, by omega, by go_num, by repeat' (first | (with_reducible assumption) | (with_reducible exact Below.refl _ _) | (with_reducible refine Below.alloc ?_ ?_ _) | (with_reducible refine Bk.drewN_ ?_ _) | (with_reducible refine Below.drew ?_) | (with_reducible refine Below.setCell ?_ ?_ _) | go_size), by simpa using HK8.out.set_ 0 _, ?_⟩, by simp [intOf]; omega⟩
                  rw [HSt.out, if_neg HIK.out, List.append_nil, HZC.out]
                  exact own_setCell (by simpa [HBL.out, Nat.add_assoc] using HO8.out) (by omega)
              · have hzz : zc = z := by rw [← HZC.out, hz']
                subst hzz
                clear hz'
                have hlk1 : decide ((kk : Int) ≤ (tn : Int)) = false := by simp; omega
                by_cases hik : i = kk
                · have hik1 : ((i : Int) == (kk : Int)) = true := by simp [hik]
                  have HIK := Lib.hid hik; clear hik
                  go_wp2_with (at_builtin; go_must (refine wpList_append_code rfl (.tmp 110) (.tmp 111) rfl (wo.heap.size + 1) _ _ (yAt im.code (both l) kk i) rfl HO5.out A7 m7 cap7 (both l) rfl HA7.out HR5.out (by have := HLen.out; have := HBL.out; omega) (by omega) ?_)); intro v6 w6 ho6 hg6; obtain ⟨A6, c6, rfl⟩ := own_form ho6; have KX6 := HKX.out.grown hg6 (by intro h; have := HOL.out _ h.symm; omega); have KY6 := HKY.out.grown hg6 (by intro h; have := HOB2.out _ h.symm; omega); have hBO6 : Below wo.heap.size wo w6 := Below.trans (by repeat' (first | (with_reducible assumption) | (with_reducible exact Below.refl _ _) | (with_reducible refine Below.alloc ?_ ?_ _) | (with_reducible refine Bk.drewN_ ?_ _) | (with_reducible refine Below.drew ?_) | (with_reducible refine Below.setCell ?_ ?_ _) | go_size)) (below_grown (B := wo.heap.size) hg6 (by omega) (fun g hg => by have := HOB2.out g hg; omega)); have hOB6 := fun g hg => own_block_ge ho6 (k := g) hg; have HOBQ := Lib.hid hOB6; have HOQ := Lib.hid (own_setCell (o := 0) (u := .slice A6 ((yAt im.code (both l) kk i).length + m7) c6) ho6 (show wo.heap.size < wo.heap.size + 1 by omega)); have HKQ := Lib.hid (KY6.set_ 0 (.slice A6 ((yAt im.code (both l) kk i).length + m7) c6)); obtain ⟨zX6, TX6, FX6⟩ := KX6.open_; obtain ⟨zY6, TY6, FY6⟩ := KY6.open_; clear KX6 KY6 ho6 hg6 hOB6
                  go_wp2_with (at_builtin; go_must (refine wpList_append_code rfl (.tmp 115) (.tmp 117) rfl (wo.heap.size + 1) _ _ _ rfl (HOQ.out.alloc _) _ 1 1 [zc] rfl (fun h => by cases h) (Rd.new (by first | rfl | simp) (by rfl)) (by (try simp only [List.length_append]); have := HLen.out; have := HBL.out; omega) (by (try simp); omega) ?_)); intro v8 w8 ho8 hg8; obtain ⟨A8, c8, rfl⟩ := own_form ho8; have KY8 := (HKQ.out.alloc _).grown hg8 (by intro h; have := HOBQ.out _ h.symm; omega); have hb8 : Below wo.heap.size wo w8 := Below.trans (by repeat' (first | (with_reducible assumption) | (with_reducible exact Below.refl _ _) | (with_reducible refine Below.alloc ?_ ?_ _) | (with_reducible refine Bk.drewN_ ?_ _) | (with_reducible refine Below.drew ?_) | (with_reducible refine Below.setCell ?_ ?_ _) | go_size)) (below_grown (B := wo.heap.size) hg8 (by simp; omega) (fun g hg => by have := HOBQ.out g hg; omega)); obtain ⟨zQ, TQ, FQ⟩ := KY8.open_; have HK8 := Lib.hid KY8; have HO8 := Lib.hid ho8; clear KY8 ho8 hg8; go_wp2_with fail; refine ⟨⟨i + 1, _, by omega, by go_num, by repeat' (first | (with_reducible assumption) | (with_reducible exact Below.refl _ _) | (with_reducible refine Below.alloc ?_ ?_ _) | (with_reducible refine Bk.drewN_ ?_ _) | (with_reducible refine Below.drew ?_) | (with_reducible refine Below.setCell ?_ ?_ _) | go_size), by simpa using HK8.out.set_ 0 _, ?_⟩, by simp [intOf]; omega⟩
                  rw [HSt.out, if_pos HIK.out, HZC.out]
                  exact own_setCell (by simpa [HBL.out, Nat.add_assoc] using HO8.out) (by omega)
                · have hik1 : ((i : Int) == (kk : Int)) = false := by simp; omega
                  have HIK := Lib.hid hik; clear hik
                  have HOQ := HO5
                  have HKQ := HKY
                  have HOBQ := HOB2
                  go_wp2_with (at_builtin; go_must (refine wpList_append_code rfl (.tmp 115) (.tmp 117) rfl (wo.heap.size + 1) _ _ _ rfl (HOQ.out.alloc _) _ 1 1 [zc] rfl (fun h => by cases h) (Rd.new (by first | rfl | simp) (by rfl)) (by (try simp only [List.length_append]); have := HLen.out; have := HBL.out; omega) (by (try simp); omega) ?_)); intro v8 w8 ho8 hg8; obtain ⟨A8, c8, rfl⟩ := own_form ho8; have KY8 := (HKQ.out.alloc _).grown hg8 (by intro h; have := HOBQ.out _ h.symm; omega); have hb8 : Below wo.heap.size wo w8 := Below.trans (by repeat' (first | (with_reducible assumption) | (with_reducible exact Below.refl _ _) | (with_reducible refine Below.alloc ?_ ?_ _) | (with_reducible refine Bk.drewN_ ?_ _) | (with_reducible refine Below.drew ?_) | (with_reducible refine Below.setCell ?_ ?_ _) | go_size)) (below_grown (B := wo.heap.size) hg8 (by simp; omega) (fun g hg => by have := HOBQ.out g hg; omega)); obtain ⟨zQ, TQ, FQ⟩ := KY8.open_; have HK8 := Lib.hid KY8; have HO8 := Lib.hid ho8; clear KY8 ho8 hg8; go_wp2_with fail; refine ⟨⟨i + 1, _, by omega, by go_num, by repeat' (first | (with_reducible assumption) | (with_reducible exact Below.refl _ _) | (with_reducible refine Below.alloc ?_ ?_ _) | (with_reducible refine Bk.drewN_ ?_ _) | (with_reducible refine Below.drew ?_) | (with_reducible refine Below.setCell ?_ ?_ _) | go_size), by simpa using HK8.out.set_ 0 _, ?_⟩, by simp [intOf]; omega⟩
                  rw [HSt.out, if_neg HIK.out, List.append_nil, HZC.out]
                  exact own_setCell (by simpa [HBL.out, Nat.add_assoc] using HO8.out) (by omega)
              · have hlk1 : decide ((kk : Int) ≤ (tn : Int)) = true := by simp; omega
                have hzz : zc = z.retarget ((tn : Int) + (m7 : Int)) := by rw [← HZC.out, hz']
                clear hz'
                go_wp2_with fail
                refine (c_Retarget _ _ _ _ _ _ _).mono ?_
                rintro e w7 ⟨rfl, hb7⟩
                have hB7 : Below w.heap.size w w7 := Below.trans (by repeat' (first | (with_reducible assumption) | (with_reducible exact Below.refl _ _) | (with_reducible refine Below.alloc ?_ ?_ _) | (with_reducible refine Bk.drewN_ ?_ _) | (with_reducible refine Below.drew ?_) | (with_reducible refine Below.setCell ?_ ?_ _) | go_size)) (hb7.mono (by go_size))
                have hBO7 : Below wo.heap.size wo w7 := Below.trans hBO (hb7.mono (by omega))
                have hb17 : Below wr.heap.size wr w7 := Below.trans (Below.trans (by repeat' (first | (with_reducible assumption) | (with_reducible exact Below.refl _ _) | (with_reducible refine Below.alloc ?_ ?_ _) | (with_reducible refine Bk.drewN_ ?_ _) | (with_reducible refine Below.drew ?_) | (with_reducible refine Below.setCell ?_ ?_ _) | go_size)) (hbw5.mono (by simp))) (hb7.mono (by omega))
                have KX7 := HKX.out.next hb7
                have KY7 := HKY.out.next hb7
                have O7 := own_below HO5.out hb7 (Nat.le_refl _)
                have R7 := HR5.out.next hb7
                clear TX zX FX TY zY FY HKX HKY HO5 HR5
                obtain ⟨zX, TX, FX⟩ := KX7.open_
                obtain ⟨zY, TY, FY⟩ := KY7.open_
                have HKX7 := Lib.hid KX7; have HKY7 := Lib.hid KY7; have HO7 := Lib.hid O7; have HR77 := Lib.hid R7
                clear KX7 KY7 O7 R7 hb7
                go_upto_region 18 with (fail)
                obtain ⟨w9, hw9⟩ : ∃ w9 : World, w9 = (((((w7.setCell ⟨wr.heap.size, 0, none⟩ (.int .u8 z.op)).setCell ⟨wr.heap.size, 1, none⟩ (.int .i64 (retA z.op z.a ((tn : Int) + (m7 : Int))))).setCell ⟨wr.heap.size, 2, none⟩ (.int .i64 (retB z.op z.b ((tn : Int) + (m7 : Int))))).setCell ⟨wr.heap.size, 3, none⟩ (.int .i64 z.c)).setCell ⟨wr.heap.size, 4, none⟩ (.int .i64 z.d)) := ⟨_, rfl⟩
                rw [← hw9]
                subst hzz
                have KX : Blk w9 wr.heap.size 23 #[.int .u8 (z.retarget ((tn : Int) + (m7 : Int))).op, .int .i64 (z.retarget ((tn : Int) + (m7 : Int))).a, .int .i64 (z.retarget ((tn : Int) + (m7 : Int))).b, .int .i64 (z.retarget ((tn : Int) + (m7 : Int))).c, .int .i64 (z.retarget ((tn : Int) + (m7 : Int))).d] := by
                  rw [hw9]
                  exact ((((HKX7.out.set_ 0 (.int .u8 z.op)).set_ 1 (.int .i64 (retA z.op z.a ((tn : Int) + (m7 : Int))))).set_ 2 (.int .i64 (retB z.op z.b ((tn : Int) + (m7 : Int))))).set_ 3 (.int .i64 z.c)).set_ 4 (.int .i64 z.d)
                have KY : Blk w9 wo.heap.size 30 #[vy, .int .i64 im.mem, .int .i64 im.stacks] := by
                  rw [hw9]
                  repeat' (first | with_reducible exact HKY7.out | with_reducible apply Blk.far | (simp; omega))
                have O9 := own_of_block (w' := w9) HO7.out (fun g _ ho => by
                  have hne : g ≠ wr.heap.size := by have := HOL.out g ho; omega
                  rw [hw9, Below.heap_setCell _ _ _ _ hne, Below.heap_setCell _ _ _ _ hne, Below.heap_setCell _ _ _ _ hne, Below.heap_setCell _ _ _ _ hne, Below.heap_setCell _ _ _ _ hne])
                have hsz9 : w9.heap.size = w7.heap.size := by rw [hw9]; simp
                have R9 : Rd w9 (· < w9.heap.size) 5 A7 m7 (codeCells (both l)) := by
                  refine ((HR7b.out.below hb17 (fun _ h => h)).keep fun b' o hd => ?_).mono fun _ h => by omega
                  have hne : b' ≠ wr.heap.size := by omega
                  rw [hw9, cell_far _ _ _ _ hne, cell_far _ _ _ _ hne, cell_far _ _ _ _ hne, cell_far _ _ _ _ hne, cell_far _ _ _ _ hne]
                have hB9 : Below w.heap.size w w9 := by rw [hw9]; exact (by repeat' (first | (with_reducible assumption) | (with_reducible exact Below.refl _ _) | (with_reducible refine Below.alloc ?_ ?_ _) | (with_reducible refine Bk.drewN_ ?_ _) | (with_reducible refine Below.drew ?_) | (with_reducible refine Below.setCell ?_ ?_ _) | go_size))
                have hBO9 : Below wo.heap.size wo w9 := by rw [hw9]; exact (by repeat' (first | (with_reducible assumption) | (with_reducible exact Below.refl _ _) | (with_reducible refine Below.alloc ?_ ?_ _) | (with_reducible refine Bk.drewN_ ?_ _) | (with_reducible refine Below.drew ?_) | (with_reducible refine Below.setCell ?_ ?_ _) | go_size))
                clear hw9 TX zX FX TY zY FY HKX7 HKY7 HO7 HR77 hb17 hsz9
                obtain ⟨zX, TX, FX⟩ := KX.open_
                obtain ⟨zY, TY, FY⟩ := KY.open_
                have HKX := Lib.hid KX; have HKY := Lib.hid KY; have HO5 := Lib.hid O9; have HR5 := Lib.hid R9
                clear KX KY O9 R9
                obtain ⟨zc, hzc⟩ : ∃ zc, z.retarget ((tn : Int) + (m7 : Int)) = zc := ⟨_, rfl⟩
                rw [hzc] at HKX TX HZC
                clear hzc
                by_cases hik : i = kk
                · have hik1 : ((i : Int) == (kk : Int)) = true := by simp [hik]
                  have HIK := Lib.hid hik; clear hik
                  go_wp2_with (at_builtin; go_must (refine wpList_append_code rfl (.tmp 110) (.tmp 111) rfl (wo.heap.size + 1) _ _ (yAt im.code (both l) kk i) rfl HO5.out A7 m7 cap7 (both l) rfl HA7.out HR5.out (by have := HLen.out; have := HBL.out; omega) (by omega) ?_)); intro v6 w6 ho6 hg6; obtain ⟨A6, c6, rfl⟩ := own_form ho6; have KX6 := HKX.out.grown hg6 (by intro h; have := HOL.out _ h.symm; omega); have KY6 := HKY.out.grown hg6 (by intro h; have := HOB2.out _ h.symm; omega); have hBO6 : Below wo.heap.size wo w6 := Below.trans (by repeat' (first | (with_reducible assumption) | (with_reducible exact Below.refl _ _) | (with_reducible refine Below.alloc ?_ ?_ _) | (with_reducible refine Bk.drewN_ ?_ _) | (with_reducible refine Below.drew ?_) | (with_reducible refine Below.setCell ?_ ?_ _) | go_size)) (below_grown (B := wo.heap.size) hg6 (by omega) (fun g hg => by have := HOB2.out g hg; omega)); have hOB6 := fun g hg => own_block_ge ho6 (k := g) hg; have HOBQ := Lib.hid hOB6; have HOQ := Lib.hid (own_setCell (o := 0) (u := .slice A6 ((yAt im.code (both l) kk i).length + m7) c6) ho6 (show wo.heap.size < wo.heap.size + 1 by omega)); have HKQ := Lib.hid (KY6.set_ 0 (.slice A6 ((yAt im.code (both l) kk i).length + m7) c6)); obtain ⟨zX6, TX6, FX6⟩ := KX6.open_; obtain ⟨zY6, TY6, FY6⟩ := KY6.open_; clear KX6 KY6 ho6 hg6 hOB6
                  go_wp2_with (at_builtin; go_must (refine wpList_append_code rfl (.tmp 115) (.tmp 117) rfl (wo.heap.size + 1) _ _ _ rfl (HOQ.out.alloc _) _ 1 1 [zc] rfl (fun h => by cases h) (Rd.new (by first | rfl | simp) (by rfl)) (by (try simp only [List.length_append]); have := HLen.out; have := HBL.out; omega) (by (try simp); omega) ?_)); intro v8 w8 ho8 hg8; obtain ⟨A8, c8, rfl⟩ := own_form ho8; have KY8 := (HKQ.out.alloc _).grown hg8 (by intro h; have := HOBQ.out _ h.symm; omega); have hb8 : Below wo.heap.size wo w8 := Below.trans (by repeat' (first | (with_reducible assumption) | (with_reducible exact Below.refl _ _) | (with_reducible refine Below.alloc ?_ ?_ _) | (with_reducible refine Bk.drewN_ ?_ _) | (with_reducible refine Below.drew ?_) | (with_reducible refine Below.setCell ?_ ?_ _) | go_size)) (below_grown (B := wo.heap.size) hg8 (by simp; omega) (fun g hg => by have := HOBQ.out g hg; omega)); obtain ⟨zQ, TQ, FQ⟩ := KY8.open_; have HK8 := Lib.hid KY8; have HO8 := Lib.hid ho8; clear KY8 ho8 hg8; go_wp2_with fail; refine ⟨⟨i + 1, _, by omega, by go_num, by repeat' (first | (with_reducible assumption) | (with_reducible exact Below.refl _ _) | (with_reducible refine Below.alloc ?_ ?_ _) | (with_reducible refine Bk.drewN_ ?_ _) | (with_reducible refine Below.drew ?_) | (with_reducible refine Below.setCell ?_ ?_ _) | go_size), by simpa using HK8.out.set_ 0 _, ?_⟩, by simp [intOf]; omega⟩
                  rw [HSt.out, if_pos HIK.out, HZC.out]
                  exact own_setCell (by simpa [HBL.out, Nat.add_assoc] using HO8.out) (by omega)
                · have hik1 : ((i : Int) == (kk : Int)) = false := by simp; omega
                  have HIK := Lib.hid hik; clear hik
                  have HOQ := HO5
                  have HKQ := HKY
                  have HOBQ := HOB2
                  go_wp2_with (at_builtin; go_must (refine wpList_append_code rfl (.tmp 115) (.tmp 117) rfl (wo.heap.size + 1) _ _ _ rfl (HOQ.out.alloc _) _ 1 1 [zc] rfl (fun h => by cases h) (Rd.new (by first | rfl | simp) (by rfl)) (by (try simp only [List.length_append]); have := HLen.out; have := HBL.out; omega) (by (try simp); omega) ?_)); intro v8 w8 ho8 hg8; obtain ⟨A8, c8, rfl⟩ := own_form ho8; have KY8 := (HKQ.out.alloc _).grown hg8 (by intro h; have := HOBQ.out _ h.symm; omega); have hb8 : Below wo.heap.size wo w8 := Below.trans (by repeat' (first | (with_reducible assumption) | (with_reducible exact Below.refl _ _) | (with_reducible refine Below.alloc ?_ ?_ _) | (with_reducible refine Bk.drewN_ ?_ _) | (with_reducible refine Below.drew ?_) | (with_reducible refine Below.setCell ?_ ?_ _) | go_size)) (below_grown (B := wo.heap.size) hg8 (by simp; omega) (fun g hg => by have := HOBQ.out g hg; omega)); obtain ⟨zQ, TQ, FQ⟩ := KY8.open_; have HK8 := Lib.hid KY8; have HO8 := Lib.hid ho8; clear KY8 ho8 hg8; go_wp2_with fail; refine ⟨⟨i + 1, _, by omega, by go_num, by repeat' (first | (with_reducible assumption) | (with_reducible exact Below.refl _ _) | (with_reducible refine Below.alloc ?_ ?_ _) | (with_reducible refine Bk.drewN_ ?_ _) | (with_reducible refine Below.drew ?_) | (with_reducible refine Below.setCell ?_ ?_ _) | go_size), by simpa using HK8.out.set_ 0 _, ?_⟩, by simp [intOf]; omega⟩
                  rw [HSt.out, if_neg HIK.out, List.append_nil, HZC.out]
                  exact own_setCell (by simpa [HBL.out, Nat.add_assoc] using HO8.out) (by omega)
            · obtain rfl : i = n := by omega
              obtain ⟨hck, hall, hbl⟩ : im.check.2 = 0 ∧ (∀ y ∈ l, cancels y y.inverse = true) ∧ (both l).length = m7 := ⟨HCK.out, HAll.out, HBL.out⟩
              have hlen' : im.code.length + (both l).length ≤ 65536 := by rw [hbl, ← HN.out]; omega
              have hkn' : kk ≤ im.code.length := by rw [← HN.out]; exact hkn
              have hopt := ins_opt hck hw hkn' hall hlen'
              have hckY := ins_valid hck hw hkn' (both_ctl hall) hlen'
              have hyall := yAt_all im.code (both l) kk hkn'
              rw [← HN.out] at hyall
              have hwY : CodeWf (insC im.code (both l) kk) := ins_wf hck hw hw1 hkn' hall hlen'
              have hlenY : (yAt im.code (both l) kk i).length ≤ i + (both l).length := by
                rw [yAt_eq im.code (both l) kk hkn' i (by rw [HN.out]; exact Nat.le_refl _)]
                split <;> simp <;> omega
              have HOpt := Lib.hid hopt; have HCKY := Lib.hid hckY; have HYA := Lib.hid hyall; have HWY := Lib.hid hwY; have HLY := Lib.hid hlenY
              obtain ⟨zY, TY, FY⟩ := hY.open_
              have HKY := Lib.hid hY
              have K1 := H_1.out.next HBq.out
              clear hck hall hbl hlen' hkn' hopt hckY hyall hwY hlenY hY T_1 z_1 F_1
              obtain ⟨z_1, T_1, F_1⟩ := K1.open_
              have H_1 := Lib.hid K1
              clear K1
              by_cases hki : kk = i
              · have hki1 : ((kk : Int) == (i : Int)) = true := by simp [hki]
                have hfin : yAt im.code (both l) kk i ++ both l = insC im.code (both l) kk := by have := HYA.out; rwa [if_pos hki] at this
                have HFin := Lib.hid hfin
                clear hki hfin
                go_wp2_with (at_builtin; go_must (refine wpList_append_code rfl (.tmp 127) (.tmp 128) rfl (wo.heap.size + 1) _ _ (yAt im.code (both l) kk i) rfl HOY.out A7 m7 cap7 (both l) rfl HA7.out HR7b.out (by have := HLY.out; have := HBL.out; omega) (by omega) ?_))
                intro v6 w6 ho6 hg6
                obtain ⟨A6, c6, rfl⟩ := own_form ho6
                have KY6 := HKY.out.grown hg6 (by intro h; have := HOB2.out _ h.symm; omega)
                have KI6 := H_1.out.grown hg6 (by intro h; have := HOB2.out _ h.symm; omega)
                have hb6 : Below wo.heap.size wo w6 := Below.trans (HBq.out) (below_grown (B := wo.heap.size) hg6 (by omega) (fun g hg => by have := HOB2.out g hg; omega))
                have hB6 : Below w.heap.size w w6 := hB.next hb6
                rw [HFin.out] at ho6
                have hRz := (Rd.of_own (own_setCell (o := 0) (u := .slice A6 ((yAt im.code (both l) kk i).length + m7) c6) ho6 (show wo.heap.size < wo.heap.size + 1 by omega))).mono (D' := (· < (w6.setCell ⟨wo.heap.size, 0, none⟩ (.slice A6 ((yAt im.code (both l) kk i).length + m7) c6)).heap.size)) fun _ h => h.2
                have KZ := KY6.set_ 0 (.slice A6 ((yAt im.code (both l) kk i).length + m7) c6)
                have IZ := KI6.far (p := ⟨wo.heap.size, 0, none⟩) (by simp; omega) (.slice A6 ((yAt im.code (both l) kk i).length + m7) c6)
                clear TY zY FY T_1 z_1 F_1
                obtain ⟨zY, TY, FY⟩ := KY6.open_
                obtain ⟨z_1, T_1, F_1⟩ := KI6.open_
                have HKZ := Lib.hid KZ; have HRZ := Lib.hid hRz
                clear KY6 KI6 ho6 hg6 KZ IZ hRz
                have hnz : (yAt im.code (both l) kk i).length + m7 ≤ 65536 := by have := HLY.out; have := HBL.out; omega
                go_wp2_with fail
                ((with_reducible refine (c_OptimizeG _ _ _ im HCK.out _ (HC.out.next (by repeat' (first | (with_reducible assumption) | (with_reducible exact Below.refl _ _) | (with_reducible refine Below.alloc ?_ ?_ _) | (with_reducible refine Bk.drewN_ ?_ _) | (with_reducible refine Below.drew ?_) | (with_reducible refine Below.setCell ?_ ?_ _) | go_size))) hw (HT.out.next (by repeat' (first | (with_reducible assumption) | (with_reducible exact Below.refl _ _) | (with_reducible refine Below.alloc ?_ ?_ _) | (with_reducible refine Bk.drewN_ ?_ _) | (with_reducible refine Below.drew ?_) | (with_reducible refine Below.setCell ?_ ?_ _) | go_size)))).mono ?_); rintro e wa ⟨Aa, ma, ca, rfl, hma, hRa, hba⟩; have hBa : Below w.heap.size w wa := Below.trans (by repeat' (first | (with_reducible assumption) | (with_reducible exact Below.refl _ _) | (with_reducible refine Below.alloc ?_ ?_ _) | (with_reducible refine Bk.drewN_ ?_ _) | (with_reducible refine Below.drew ?_) | (with_reducible refine Below.setCell ?_ ?_ _) | go_size)) (hba.mono (by (try simp); omega)); have KYa := HKZ.out.next hba; have RYa := HRZ.out.next hba; clear TY zY FY T_1 z_1 F_1 hba; obtain ⟨zY, TY, FY⟩ := KYa.open_; have HRYa := Lib.hid RYa; have HRa := Lib.hid hRa; have HMa := Lib.hid hma; clear KYa RYa hRa hma; go_wp2_with fail; (with_reducible refine (c_OptimizeG _ _ _ { im with code := insC im.code (both l) kk } HCKY.out _ (HRYa.out.next (by repeat' (first | (with_reducible assumption) | (with_reducible exact Below.refl _ _) | (with_reducible refine Below.alloc ?_ ?_ _) | (with_reducible refine Bk.drewN_ ?_ _) | (with_reducible refine Below.drew ?_) | (with_reducible refine Below.setCell ?_ ?_ _) | go_size))) HWY.out (HT.out.next (by repeat' (first | (with_reducible assumption) | (with_reducible exact Below.refl _ _) | (with_reducible refine Below.alloc ?_ ?_ _) | (with_reducible refine Bk.drewN_ ?_ _) | (with_reducible refine Below.drew ?_) | (with_reducible refine Below.setCell ?_ ?_ _) | go_size)))).mono ?_); rintro e wb ⟨Ab, mb, cb, rfl, hmb, hRb, hbb⟩; have hBb : Below w.heap.size w wb := Below.trans (by repeat' (first | (with_reducible assumption) | (with_reducible exact Below.refl _ _) | (with_reducible refine Below.alloc ?_ ?_ _) | (with_reducible refine Bk.drewN_ ?_ _) | (with_reducible refine Below.drew ?_) | (with_reducible refine Below.setCell ?_ ?_ _) | go_size)) (hbb.mono (by go_size)); have KA : Blk wb wa.heap.size 30 #[.slice Aa ma ca, .int .i64 im.mem, .int .i64 im.stacks] := Blk.next (by repeat' (first | with_reducible assumption | (refine Blk.new' ?_ _ _; simp; done) | refine Blk.alloc ?_ _ | refine Blk.drewN ?_ _ | refine Blk.drew ?_)) hbb; have RA := HRa.out.next (w' := wb) (Below.trans (by repeat' (first | (with_reducible assumption) | (with_reducible exact Below.refl _ _) | (with_reducible refine Below.alloc ?_ ?_ _) | (with_reducible refine Bk.drewN_ ?_ _) | (with_reducible refine Below.drew ?_) | (with_reducible refine Below.setCell ?_ ?_ _) | go_size)) (hbb.mono (by go_size))); simp only at hRb; rw [HOpt.out] at hRb; have hma90 : ma ≤ 65536 := (by have := HMa.out; have := optCode_length im.code; have := kept_length im.code; have := HN.out; omega); obtain ⟨zA, TA, FA⟩ := KA.open_; have HRA := Lib.hid RA; have HRB := Lib.hid hRb; clear KA RA hRb hbb hmb; go_wp2_with fail; (with_reducible refine (c_codesV _ _ _ _ _ _ (optCode im.code) _ hma90 (HRA.out.next (by repeat' (first | (with_reducible assumption) | (with_reducible exact Below.refl _ _) | (with_reducible refine Below.alloc ?_ ?_ _) | (with_reducible refine Bk.drewN_ ?_ _) | (with_reducible refine Below.drew ?_) | (with_reducible refine Below.setCell ?_ ?_ _) | go_size))) (HRB.out.next (by repeat' (first | (with_reducible assumption) | (with_reducible exact Below.refl _ _) | (with_reducible refine Below.alloc ?_ ?_ _) | (with_reducible refine Bk.drewN_ ?_ _) | (with_reducible refine Below.drew ?_) | (with_reducible refine Below.setCell ?_ ?_ _) | go_size)))).mono ?_); rintro e wc ⟨rfl, hbc⟩; have hBc : Below w.heap.size w wc := Below.trans (by repeat' (first | (with_reducible assumption) | (with_reducible exact Below.refl _ _) | (with_reducible refine Below.alloc ?_ ?_ _) | (with_reducible refine Bk.drewN_ ?_ _) | (with_reducible refine Below.drew ?_) | (with_reducible refine Below.setCell ?_ ?_ _) | go_size)) (hbc.mono (by go_size)); go_wp2_with fail; go_ret; exact ⟨rfl, hBc⟩)
              · have hki1 : ((kk : Int) == (i : Int)) = false := by simp; omega
                have hfin : yAt im.code (both l) kk i = insC im.code (both l) kk := by have := HYA.out; rwa [if_neg hki, List.append_nil] at this
                have ho6 := HOY.out
                obtain ⟨A6, c6, rfl⟩ := own_form ho6
                rw [show codeCells (yAt im.code (both l) kk i) = codeCells (insC im.code (both l) kk) from by rw [hfin]] at ho6
                have hRz := (Rd.of_own ho6).mono (D' := (· < wr.heap.size)) fun _ h => h.2
                have HKZ := HKY; have HRZ := Lib.hid hRz
                have hnz : (yAt im.code (both l) kk i).length ≤ 65536 := by have := HLY.out; have := HBL.out; omega
                clear hki hfin ho6 hRz
                go_wp2_with fail
                ((with_reducible refine (c_OptimizeG _ _ _ im HCK.out _ (HC.out.next (by repeat' (first | (with_reducible assumption) | (with_reducible exact Below.refl _ _) | (with_reducible refine Below.alloc ?_ ?_ _) | (with_reducible refine Bk.drewN_ ?_ _) | (with_reducible refine Below.drew ?_) | (with_reducible refine Below.setCell ?_ ?_ _) | go_size))) hw (HT.out.next (by repeat' (first | (with_reducible assumption) | (with_reducible exact Below.refl _ _) | (with_reducible refine Below.alloc ?_ ?_ _) | (with_reducible refine Bk.drewN_ ?_ _) | (with_reducible refine Below.drew ?_) | (with_reducible refine Below.setCell ?_ ?_ _) | go_size)))).mono ?_); rintro e wa ⟨Aa, ma, ca, rfl, hma, hRa, hba⟩; have hBa : Below w.heap.size w wa := Below.trans (by repeat' (first | (with_reducible assumption) | (with_reducible exact Below.refl _ _) | (with_reducible refine Below.alloc ?_ ?_ _) | (with_reducible refine Bk.drewN_ ?_ _) | (with_reducible refine Below.drew ?_) | (with_reducible refine Below.setCell ?_ ?_ _) | go_size)) (hba.mono (by (try simp); omega)); have KYa := HKZ.out.next hba; have RYa := HRZ.out.next hba; clear TY zY FY T_1 z_1 F_1 hba; obtain ⟨zY, TY, FY⟩ := KYa.open_; have HRYa := Lib.hid RYa; have HRa := Lib.hid hRa; have HMa := Lib.hid hma; clear KYa RYa hRa hma; go_wp2_with fail; (with_reducible refine (c_OptimizeG _ _ _ { im with code := insC im.code (both l) kk } HCKY.out _ (HRYa.out.next (by repeat' (first | (with_reducible assumption) | (with_reducible exact Below.refl _ _) | (with_reducible refine Below.alloc ?_ ?_ _) | (with_reducible refine Bk.drewN_ ?_ _) | (with_reducible refine Below.drew ?_) | (with_reducible refine Below.setCell ?_ ?_ _) | go_size))) HWY.out (HT.out.next (by repeat' (first | (with_reducible assumption) | (with_reducible exact Below.refl _ _) | (with_reducible refine Below.alloc ?_ ?_ _) | (with_reducible refine Bk.drewN_ ?_ _) | (with_reducible refine Below.drew ?_) | (with_reducible refine Below.setCell ?_ ?_ _) | go_size)))).mono ?_); rintro e wb ⟨Ab, mb, cb, rfl, hmb, hRb, hbb⟩; have hBb : Below w.heap.size w wb := Below.trans (by repeat' (first | (with_reducible assumption) | (with_reducible exact Below.refl _ _) | (with_reducible refine Below.alloc ?_ ?_ _) | (with_reducible refine Bk.drewN_ ?_ _) | (with_reducible refine Below.drew ?_) | (with_reducible refine Below.setCell ?_ ?_ _) | go_size)) (hbb.mono (by go_size)); have KA : Blk wb wa.heap.size 30 #[.slice Aa ma ca, .int .i64 im.mem, .int .i64 im.stacks] := Blk.next (by repeat' (first | with_reducible assumption | (refine Blk.new' ?_ _ _; simp; done) | refine Blk.alloc ?_ _ | refine Blk.drewN ?_ _ | refine Blk.drew ?_)) hbb; have RA := HRa.out.next (w' := wb) (Below.trans (by repeat' (first | (with_reducible assumption) | (with_reducible exact Below.refl _ _) | (with_reducible refine Below.alloc ?_ ?_ _) | (with_reducible refine Bk.drewN_ ?_ _) | (with_reducible refine Below.drew ?_) | (with_reducible refine Below.setCell ?_ ?_ _) | go_size)) (hbb.mono (by go_size))); simp only at hRb; rw [HOpt.out] at hRb; have hma90 : ma ≤ 65536 := (by have := HMa.out; have := optCode_length im.code; have := kept_length im.code; have := HN.out; omega); obtain ⟨zA, TA, FA⟩ := KA.open_; have HRA := Lib.hid RA; have HRB := Lib.hid hRb; clear KA RA hRb hbb hmb; go_wp2_with fail; (with_reducible refine (c_codesV _ _ _ _ _ _ (optCode im.code) _ hma90 (HRA.out.next (by repeat' (first | (with_reducible assumption) | (with_reducible exact Below.refl _ _) | (with_reducible refine Below.alloc ?_ ?_ _) | (with_reducible refine Bk.drewN_ ?_ _) | (with_reducible refine Below.drew ?_) | (with_reducible refine Below.setCell ?_ ?_ _) | go_size))) (HRB.out.next (by repeat' (first | (with_reducible assumption) | (with_reducible exact Below.refl _ _) | (with_reducible refine Below.alloc ?_ ?_ _) | (with_reducible refine Bk.drewN_ ?_ _) | (with_reducible refine Below.drew ?_) | (with_reducible refine Below.setCell ?_ ?_ _) | go_size)))).mono ?_); rintro e wc ⟨rfl, hbc⟩; have hBc : Below w.heap.size w wc := Below.trans (by repeat' (first | (with_reducible assumption) | (with_reducible exact Below.refl _ _) | (with_reducible refine Below.alloc ?_ ?_ _) | (with_reducible refine Bk.drewN_ ?_ _) | (with_reducible refine Below.drew ?_) | (with_reducible refine Below.setCell ?_ ?_ _) | go_size)) (hbc.mono (by go_size)); go_wp2_with fail; go_ret; exact ⟨rfl, hBc⟩)
    · have hgt : decide ((90 : Int) < (n1 : Int)) = true := by simp; omega
      go_enter Tryd.func4, Tryd.ntmps4
      go_wp2_with fail
      refine (c_awake _ (HT.out.next (by repeat' (first | (with_reducible assumption) | (with_reducible exact Below.refl _ _) | (with_reducible refine Below.alloc ?_ ?_ _) | (with_reducible refine Bk.drewN_ ?_ _) | (with_reducible refine Below.drew ?_) | (with_reducible refine Below.setCell ?_ ?_ _) | go_size)))).mono ?_
      rintro e w1 ⟨rfl, hb1⟩
      have hB1 : Below w.heap.size w w1 := Below.trans (by repeat' (first | (with_reducible assumption) | (with_reducible exact Below.refl _ _) | (with_reducible refine Below.alloc ?_ ?_ _) | (with_reducible refine Bk.drewN_ ?_ _) | (with_reducible refine Below.drew ?_) | (with_reducible refine Below.setCell ?_ ?_ _) | go_size)) (hb1.mono (by go_size))
      have K_1 : Blk w1 (w.heap.size) 30 #[.slice A n cap, .int .i64 im.mem, .int .i64 im.stacks] := Blk.next (by repeat' (first | with_reducible exact H_1.out | with_reducible exact K0_1 | (refine Blk.new' ?_ _ _; simp; done) | with_reducible refine Blk.alloc ?_ _ | with_reducible refine Blk.drewN ?_ _ | with_reducible refine Blk.drew ?_)) hb1; (try clear H_1); (try clear T_1); (try clear z_1); (try clear F_1); obtain ⟨z_1, T_1, F_1⟩ := K_1.open_; have H_1 := Lib.hid K_1; clear K_1
      clear hb1
      go_wp2_with fail
      refine (c_smallV _ _ _ im _ HV.out (HC.out.next (by repeat' (first | (with_reducible assumption) | (with_reducible exact Below.refl _ _) | (with_reducible refine Below.alloc ?_ ?_ _) | (with_reducible refine Bk.drewN_ ?_ _) | (with_reducible refine Below.drew ?_) | (with_reducible refine Below.setCell ?_ ?_ _) | go_size))) hw (HT.out.next (by repeat' (first | (with_reducible assumption) | (with_reducible exact Below.refl _ _) | (with_reducible refine Below.alloc ?_ ?_ _) | (with_reducible refine Bk.drewN_ ?_ _) | (with_reducible refine Below.drew ?_) | (with_reducible refine Below.setCell ?_ ?_ _) | go_size)))).mono ?_
      rintro e w2 ⟨rfl, hb2⟩
      have hB2 : Below w.heap.size w w2 := Below.trans (by repeat' (first | (with_reducible assumption) | (with_reducible exact Below.refl _ _) | (with_reducible refine Below.alloc ?_ ?_ _) | (with_reducible refine Bk.drewN_ ?_ _) | (with_reducible refine Below.drew ?_) | (with_reducible refine Below.setCell ?_ ?_ _) | go_size)) (hb2.mono (by go_size))
      have K_1 : Blk w2 (w.heap.size) 30 #[.slice A n cap, .int .i64 im.mem, .int .i64 im.stacks] := Blk.next (by repeat' (first | with_reducible exact H_1.out | with_reducible exact K0_1 | (refine Blk.new' ?_ _ _; simp; done) | with_reducible refine Blk.alloc ?_ _ | with_reducible refine Blk.drewN ?_ _ | with_reducible refine Blk.drew ?_)) hb2; (try clear H_1); (try clear T_1); (try clear z_1); (try clear F_1); obtain ⟨z_1, T_1, F_1⟩ := K_1.open_; have H_1 := Lib.hid K_1; clear K_1
      clear hb2
      go_wp2_with fail
      refine (c_awake _ (HT.out.next (by repeat' (first | (with_reducible assumption) | (with_reducible exact Below.refl _ _) | (with_reducible refine Below.alloc ?_ ?_ _) | (with_reducible refine Bk.drewN_ ?_ _) | (with_reducible refine Below.drew ?_) | (with_reducible refine Below.setCell ?_ ?_ _) | go_size)))).mono ?_
      rintro e w3 ⟨rfl, hb3⟩
      have hB3 : Below w.heap.size w w3 := Below.trans (by repeat' (first | (with_reducible assumption) | (with_reducible exact Below.refl _ _) | (with_reducible refine Below.alloc ?_ ?_ _) | (with_reducible refine Bk.drewN_ ?_ _) | (with_reducible refine Below.drew ?_) | (with_reducible refine Below.setCell ?_ ?_ _) | go_size)) (hb3.mono (by go_size))
      go_wp2_with fail
      go_ret
      exact ⟨rfl, hB3⟩
end Go.Proofs.YtfobnkgfbdmakaaDoor
