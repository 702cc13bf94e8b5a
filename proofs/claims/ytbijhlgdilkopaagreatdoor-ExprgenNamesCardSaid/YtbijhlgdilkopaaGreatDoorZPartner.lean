/- The walk of image.Partner. -/
import Derived.Test.YtbijhlgdilkopaaGreatDoorVaB
import Derived.Test.YtbijhlgdilkopaaGreatDoorBa
import Derived.Test.YtbijhlgdilkopaaGreatDoorPa
set_option linter.unusedVariables false
set_option linter.unusedSimpArgs false
set_option maxRecDepth 100000
set_option maxHeartbeats 8000000
namespace Go.Proofs.YtbijhlgdilkopaaGreatDoor
open Go.RowKit Bk

/-- The cells of an instruction, of a piece of code. -/
def insCells (i : Ins) : List Value := [.int .u8 i.op, .int .i64 i.a, .int .i64 i.b, .int .i64 i.c, .int .i64 i.d]
def codeCells (l : Prg) : List Value := l.flatMap insCells

theorem codeCells_length (l : Prg) : (codeCells l).length = l.length * 5 := by
  induction l with
  | nil => rfl
  | cons x l ih => simp only [codeCells, List.flatMap_cons, List.length_append, List.length_cons] at *; rw [ih]; simp [insCells]; omega

theorem codeCells_append (l r : Prg) : codeCells (l ++ r) = codeCells l ++ codeCells r := by simp [codeCells]
theorem codeCells_one (x : Ins) : codeCells [x] = [.int .u8 x.op, .int .i64 x.a, .int .i64 x.b, .int .i64 x.c, .int .i64 x.d] := rfl
theorem codeCells_take {α : Type} (l : List α) (f : α → Ins) (j : Nat) (x : α) (h : l[j]? = some x) : codeCells ((l.take (j + 1)).map f) = codeCells ((l.take j).map f) ++ [.int .u8 (f x).op, .int .i64 (f x).a, .int .i64 (f x).b, .int .i64 (f x).c, .int .i64 (f x).d] := by
  rw [List.take_add_one, h, List.map_append, codeCells_append]; rfl

theorem codeCells_get (l : Prg) : ∀ (k j : Nat), k < l.length → j < 5 → (codeCells l)[k * 5 + j]? = (insCells (l.getD k default))[j]? := by
  induction l with
  | nil => intro k j h; simp at h
  | cons x l ih =>
    intro k j hk hj
    cases k with
    | zero => simp only [codeCells, List.flatMap_cons, Nat.zero_mul, Nat.zero_add]; rw [List.getElem?_append_left (by simp [insCells]; omega)]; rfl
    | succ k =>
      simp only [codeCells, List.flatMap_cons]
      rw [List.getElem?_append_right (by simp [insCells]; omega)]
      have : (k + 1) * 5 + j - (insCells x).length = k * 5 + j := by simp [insCells]; omega
      rw [this]
      exact ih k j (by simpa using hk) hj

/-- What a slice over the code holds at index k. -/
structure InsAt (w : World) (b o : Nat) (x : Ins) : Prop where
  c0 : w.cell? ⟨b, o, none⟩ = some (.int .u8 x.op)
  c1 : w.cell? ⟨b, o + 1, none⟩ = some (.int .i64 x.a)
  c2 : w.cell? ⟨b, o + 2, none⟩ = some (.int .i64 x.b)
  c3 : w.cell? ⟨b, o + 3, none⟩ = some (.int .i64 x.c)
  c4 : w.cell? ⟨b, o + 4, none⟩ = some (.int .i64 x.d)

theorem _root_.Bk.Rd.insAt {w : World} {D : Nat → Prop} {b off n : Nat} {code : Prg} (h : Rd w D 5 (some ⟨b, off, none⟩) n (codeCells code)) {k : Nat} (hk : k < code.length) :
    InsAt w b (off + k * 5) (code.getD k default) := by
  have hn : n = code.length := by have := h.1; rw [codeCells_length] at this; omega
  obtain ⟨b', off', e, _, hc⟩ := h.2 (by omega)
  injection e with e; injection e with e1 e2; subst e1; subst e2
  have g : ∀ j u, (insCells (code.getD k default))[j]? = some u → j < 5 → w.cell? ⟨b, off + k * 5 + j, none⟩ = some u := by
    intro j u hu hj
    rw [Nat.add_assoc]
    exact hc (k * 5 + j) u (by rw [codeCells_get _ _ _ hk hj]; exact hu)
  exact ⟨g 0 _ rfl (by decide), g 1 _ rfl (by decide), g 2 _ rfl (by decide), g 3 _ rfl (by decide), g 4 _ rfl (by decide)⟩

theorem _root_.Bk.CodeWf.op0 {code : Prg} (h : CodeWf code) (k : Nat) : 0 ≤ (code.getD k default).op := by
  by_cases hk : k < code.length
  · exact (h k hk).op0
  · rw [List.getD_eq_getElem?_getD, List.getElem?_eq_none (by omega)]; decide

theorem Partner.in_ (b off n cap k : Nat) (mem st : Int) (code : Prg) (w : World) (hn : n = code.length) (hk : k < n)
    (hC : Rd w (· < w.heap.size) 5 (some ⟨b, off, none⟩) n (codeCells code)) (hw : CodeWf code) (hTab : TableAt w) :
    Calls Tryz.prog 85 #[.agg #[.slice (some ⟨b, off, none⟩) n cap, .int .i64 mem, .int .i64 st], .int .i64 k] w fun e w' =>
      e = .returned (.tuple #[.int .i64 (partner code k).1, .bool (partner code k).2]) ∧ Below w.heap.size w w' := by
  have hb : b < w.heap.size := by obtain ⟨b', off', e, hd, _⟩ := hC.2 (by omega); injection e with e; injection e with e1 e2; subst e1; exact hd
  obtain ⟨x0, x1, x2, x3, x4⟩ := hC.insAt (hn ▸ hk)
  have yy : ∀ m, m < n → InsAt w b (off + m * 5) (code.getD m default) := fun m hm => hC.insAt (hn ▸ hm)
  have hx0 : 0 ≤ (code.getD k default).op := hw.op0 k
  generalize hx : code.getD k default = x at *
  obtain ⟨t, ok, ht⟩ : ∃ t ok, targetP x.op x.a x.b = (t, ok) := ⟨_, _, rfl⟩
  obtain ⟨y, hy⟩ : ∃ y, y = code.getD t.toNat default := ⟨_, rfl⟩
  have hy0 : 0 ≤ y.op := hy ▸ hw.op0 t.toNat
  have yy : 0 ≤ t → t < n → InsAt w b (off + t.toNat * 5) y := fun h0 h1 => hy ▸ yy t.toNat (by omega)
  have y0 := fun h0 h1 => (yy h0 h1).c0
  have y1 := fun h0 h1 => (yy h0 h1).c1
  have y2 := fun h0 h1 => (yy h0 h1).c2
  have y3 := fun h0 h1 => (yy h0 h1).c3
  have y4 := fun h0 h1 => (yy h0 h1).c4
  clear yy
  obtain ⟨back, ok2, hback⟩ : ∃ back ok2, targetP y.op y.a y.b = (back, ok2) := ⟨_, _, rfl⟩
  obtain ⟨vx, hvx⟩ : ∃ v, validB x.op x.a x.b x.c x.d = v := ⟨_, rfl⟩
  obtain ⟨vy, hvy⟩ : ∃ v, validB y.op y.a y.b y.c y.d = v := ⟨_, rfl⟩
  have hp := partner_eq code k (hn ▸ hk) hx ht hy.symm hback hvx hvy
  rw [← hn] at hp
  have HP := Lib.hid hp; clear hp
  have H1 := Lib.hid ht; have H2 := Lib.hid hback; have H3 := Lib.hid hvx; have H4 := Lib.hid hvy; clear ht hback hvx hvy
  have k0 : decide ((k : Int) < 0) = false := by simp
  have HT := Lib.hid hTab
  clear hTab hC hw hy hn hx
  have nk : ¬ n ≤ k := by omega
  cases ok with
  | false =>
    go_enter Tryz.func85, Tryz.ntmps85
    go_wp2_with (go_at_call 99; ((with_reducible refine (c_Target' _ _ _ _ _ H1.out _).mono ?_); rintro e w1 ⟨rfl, hb1⟩; (try (have hs0 : w.heap.size < w1.heap.size := (by have := hb1.size; (try simp at this); omega))); (try (have hs1 : w.heap.size + 1 < w1.heap.size := (by have := hb1.size; (try simp at this); omega))); have hB1 : Below w.heap.size w w1 := Below.next (by go_grown) hb1; have hz0 : b < w1.heap.size := (by have := hB1.size; omega); obtain ⟨hc1, hf1⟩ := bcell hb1; obtain ⟨hcA1, hfA1⟩ := bcell hB1; have HB1 := Lib.hid hb1; clear hb1))
    go_ret2
    exact ⟨by rw [HP.out]; rfl, hB1⟩
  | true =>
  by_cases t0 : t < 0
  · have t0' : decide (t < 0) = true := by simpa using t0
    clear y0 y1 y2 y3 y4
    go_enter Tryz.func85, Tryz.ntmps85
    go_wp2_with (go_at_call 99; ((with_reducible refine (c_Target' _ _ _ _ _ H1.out _).mono ?_); rintro e w1 ⟨rfl, hb1⟩; (try (have hs0 : w.heap.size < w1.heap.size := (by have := hb1.size; (try simp at this); omega))); (try (have hs1 : w.heap.size + 1 < w1.heap.size := (by have := hb1.size; (try simp at this); omega))); have hB1 : Below w.heap.size w w1 := Below.next (by go_grown) hb1; have hz0 : b < w1.heap.size := (by have := hB1.size; omega); obtain ⟨hc1, hf1⟩ := bcell hb1; obtain ⟨hcA1, hfA1⟩ := bcell hB1; have HB1 := Lib.hid hb1; clear hb1))
    go_ret2
    exact ⟨by rw [HP.out, if_pos (by simp; omega)]; rfl, hB1⟩
  by_cases t1 : (n : Int) ≤ t
  · have t1' : decide ((n : Int) ≤ t) = true := by simpa using t1
    clear y0 y1 y2 y3 y4
    go_enter Tryz.func85, Tryz.ntmps85
    go_wp2_with (go_at_call 99; ((with_reducible refine (c_Target' _ _ _ _ _ H1.out _).mono ?_); rintro e w1 ⟨rfl, hb1⟩; (try (have hs0 : w.heap.size < w1.heap.size := (by have := hb1.size; (try simp at this); omega))); (try (have hs1 : w.heap.size + 1 < w1.heap.size := (by have := hb1.size; (try simp at this); omega))); have hB1 : Below w.heap.size w w1 := Below.next (by go_grown) hb1; have hz0 : b < w1.heap.size := (by have := hB1.size; omega); obtain ⟨hc1, hf1⟩ := bcell hb1; obtain ⟨hcA1, hfA1⟩ := bcell hB1; have HB1 := Lib.hid hb1; clear hb1))
    go_ret2
    exact ⟨by rw [HP.out, if_pos (by simp; omega)]; rfl, hB1⟩
  obtain ⟨m, rfl⟩ := Int.eq_ofNat_of_zero_le (show 0 ≤ t by omega)
  have y0 := y0 (by omega) (by omega)
  have y1 := y1 (by omega) (by omega)
  have y2 := y2 (by omega) (by omega)
  have y3 := y3 (by omega) (by omega)
  have y4 := y4 (by omega) (by omega)
  simp only [Int.toNat_natCast] at y0 y1 y2 y3 y4
  have hp := HP.out
  rw [if_neg (by simp; omega)] at hp
  have HP := Lib.hid hp; clear hp
  have m0 : decide ((m : Int) < 0) = false := by simp
  have m1 : decide (n ≤ m) = false := by simp; omega
  have m2 : ¬ n ≤ m := by omega
  clear t0 t1
  cases vx with
  | false =>
    go_enter Tryz.func85, Tryz.ntmps85
    go_wp2_with (first | (go_at_call 99; ((with_reducible refine (c_Target' _ _ _ _ _ H1.out _).mono ?_); rintro e w1 ⟨rfl, hb1⟩; (try (have hs0 : w.heap.size < w1.heap.size := (by have := hb1.size; (try simp at this); omega))); (try (have hs1 : w.heap.size + 1 < w1.heap.size := (by have := hb1.size; (try simp at this); omega))); have hB1 : Below w.heap.size w w1 := Below.next (by go_grown) hb1; have hz0 : b < w1.heap.size := (by have := hB1.size; omega); obtain ⟨hc1, hf1⟩ := bcell hb1; obtain ⟨hcA1, hfA1⟩ := bcell hB1; have HB1 := Lib.hid hb1; clear hb1)) | (go_at_call 69; ((with_reducible refine (c_Valid' _ _ _ _ _ H3.out hx0 _ (HT.out.next (by go_grown))).mono ?_); rintro e w1 ⟨rfl, hb1⟩; (try (have hs0 : w.heap.size < w1.heap.size := (by have := hb1.size; (try simp at this); omega))); (try (have hs1 : w.heap.size + 1 < w1.heap.size := (by have := hb1.size; (try simp at this); omega))); have hB1 : Below w.heap.size w w1 := Below.next (by go_grown) hb1; have hz0 : b < w1.heap.size := (by have := hB1.size; omega); obtain ⟨hc1, hf1⟩ := bcell hb1; obtain ⟨hcA1, hfA1⟩ := bcell hB1; have HB1 := Lib.hid hb1; clear hb1)))
    go_ret2
    exact ⟨by rw [HP.out]; rfl, hB1⟩
  | true =>
  cases vy with
  | false =>
    go_enter Tryz.func85, Tryz.ntmps85
    go_wp2_with (first | (go_at_call 99; ((with_reducible refine (c_Target' _ _ _ _ _ H1.out _).mono ?_); rintro e w1 ⟨rfl, hb1⟩; (try (have hs0 : w.heap.size < w1.heap.size := (by have := hb1.size; (try simp at this); omega))); (try (have hs1 : w.heap.size + 1 < w1.heap.size := (by have := hb1.size; (try simp at this); omega))); have hB1 : Below w.heap.size w w1 := Below.next (by go_grown) hb1; have hz0 : b < w1.heap.size := (by have := hB1.size; omega); obtain ⟨hc1, hf1⟩ := bcell hb1; obtain ⟨hcA1, hfA1⟩ := bcell hB1; have HB1 := Lib.hid hb1; clear hb1)) | (go_at_call 69; ((with_reducible refine (c_Valid' _ _ _ _ _ H3.out hx0 _ (HT.out.next (by go_grown))).mono ?_); rintro e w1 ⟨rfl, hb1⟩; (try (have hs0 : w.heap.size < w1.heap.size := (by have := hb1.size; (try simp at this); omega))); (try (have hs1 : w.heap.size + 1 < w1.heap.size := (by have := hb1.size; (try simp at this); omega))); have hB1 : Below w.heap.size w w1 := Below.next (by go_grown) hb1; have hz0 : b < w1.heap.size := (by have := hB1.size; omega); obtain ⟨hc1, hf1⟩ := bcell hb1; obtain ⟨hcA1, hfA1⟩ := bcell hB1; have HB1 := Lib.hid hb1; clear hb1)) | (go_at_call 69; ((with_reducible refine (c_Valid' _ _ _ _ _ H4.out hy0 _ (HT.out.next (by go_grown))).mono ?_); rintro e w1 ⟨rfl, hb1⟩; (try (have hs0 : w.heap.size < w1.heap.size := (by have := hb1.size; (try simp at this); omega))); (try (have hs1 : w.heap.size + 1 < w1.heap.size := (by have := hb1.size; (try simp at this); omega))); have hB1 : Below w.heap.size w w1 := Below.next (by go_grown) hb1; have hz0 : b < w1.heap.size := (by have := hB1.size; omega); obtain ⟨hc1, hf1⟩ := bcell hb1; obtain ⟨hcA1, hfA1⟩ := bcell hB1; have HB1 := Lib.hid hb1; clear hb1)))
    go_ret2
    exact ⟨by rw [HP.out]; rfl, hB1⟩
  | true =>
  have hp := HP.out
  rw [if_neg (by simp)] at hp
  have HP := Lib.hid hp; clear hp
  cases ok2 with
  | false =>
    go_enter Tryz.func85, Tryz.ntmps85
    go_wp2_with (first | (go_at_call 99; ((with_reducible refine (c_Target' _ _ _ _ _ H1.out _).mono ?_); rintro e w1 ⟨rfl, hb1⟩; (try (have hs0 : w.heap.size < w1.heap.size := (by have := hb1.size; (try simp at this); omega))); (try (have hs1 : w.heap.size + 1 < w1.heap.size := (by have := hb1.size; (try simp at this); omega))); have hB1 : Below w.heap.size w w1 := Below.next (by go_grown) hb1; have hz0 : b < w1.heap.size := (by have := hB1.size; omega); obtain ⟨hc1, hf1⟩ := bcell hb1; obtain ⟨hcA1, hfA1⟩ := bcell hB1; have HB1 := Lib.hid hb1; clear hb1)) | (go_at_call 99; ((with_reducible refine (c_Target' _ _ _ _ _ H2.out _).mono ?_); rintro e w1 ⟨rfl, hb1⟩; (try (have hs0 : w.heap.size < w1.heap.size := (by have := hb1.size; (try simp at this); omega))); (try (have hs1 : w.heap.size + 1 < w1.heap.size := (by have := hb1.size; (try simp at this); omega))); have hB1 : Below w.heap.size w w1 := Below.next (by go_grown) hb1; have hz0 : b < w1.heap.size := (by have := hB1.size; omega); obtain ⟨hc1, hf1⟩ := bcell hb1; obtain ⟨hcA1, hfA1⟩ := bcell hB1; have HB1 := Lib.hid hb1; clear hb1)) | (go_at_call 69; ((with_reducible refine (c_Valid' _ _ _ _ _ H3.out hx0 _ (HT.out.next (by go_grown))).mono ?_); rintro e w1 ⟨rfl, hb1⟩; (try (have hs0 : w.heap.size < w1.heap.size := (by have := hb1.size; (try simp at this); omega))); (try (have hs1 : w.heap.size + 1 < w1.heap.size := (by have := hb1.size; (try simp at this); omega))); have hB1 : Below w.heap.size w w1 := Below.next (by go_grown) hb1; have hz0 : b < w1.heap.size := (by have := hB1.size; omega); obtain ⟨hc1, hf1⟩ := bcell hb1; obtain ⟨hcA1, hfA1⟩ := bcell hB1; have HB1 := Lib.hid hb1; clear hb1)) | (go_at_call 69; ((with_reducible refine (c_Valid' _ _ _ _ _ H4.out hy0 _ (HT.out.next (by go_grown))).mono ?_); rintro e w1 ⟨rfl, hb1⟩; (try (have hs0 : w.heap.size < w1.heap.size := (by have := hb1.size; (try simp at this); omega))); (try (have hs1 : w.heap.size + 1 < w1.heap.size := (by have := hb1.size; (try simp at this); omega))); have hB1 : Below w.heap.size w w1 := Below.next (by go_grown) hb1; have hz0 : b < w1.heap.size := (by have := hB1.size; omega); obtain ⟨hc1, hf1⟩ := bcell hb1; obtain ⟨hcA1, hfA1⟩ := bcell hB1; have HB1 := Lib.hid hb1; clear hb1)))
    go_ret2
    exact ⟨by rw [HP.out]; rfl, by go_grown⟩
  | true =>
  by_cases hbk : back = k
  case neg =>
    have hbk' : ((back : Int) == (k : Int)) = false := by simpa using hbk
    go_enter Tryz.func85, Tryz.ntmps85
    go_wp2_with (first | (go_at_call 99; ((with_reducible refine (c_Target' _ _ _ _ _ H1.out _).mono ?_); rintro e w1 ⟨rfl, hb1⟩; (try (have hs0 : w.heap.size < w1.heap.size := (by have := hb1.size; (try simp at this); omega))); (try (have hs1 : w.heap.size + 1 < w1.heap.size := (by have := hb1.size; (try simp at this); omega))); have hB1 : Below w.heap.size w w1 := Below.next (by go_grown) hb1; have hz0 : b < w1.heap.size := (by have := hB1.size; omega); obtain ⟨hc1, hf1⟩ := bcell hb1; obtain ⟨hcA1, hfA1⟩ := bcell hB1; have HB1 := Lib.hid hb1; clear hb1)) | (go_at_call 99; ((with_reducible refine (c_Target' _ _ _ _ _ H2.out _).mono ?_); rintro e w1 ⟨rfl, hb1⟩; (try (have hs0 : w.heap.size < w1.heap.size := (by have := hb1.size; (try simp at this); omega))); (try (have hs1 : w.heap.size + 1 < w1.heap.size := (by have := hb1.size; (try simp at this); omega))); have hB1 : Below w.heap.size w w1 := Below.next (by go_grown) hb1; have hz0 : b < w1.heap.size := (by have := hB1.size; omega); obtain ⟨hc1, hf1⟩ := bcell hb1; obtain ⟨hcA1, hfA1⟩ := bcell hB1; have HB1 := Lib.hid hb1; clear hb1)) | (go_at_call 69; ((with_reducible refine (c_Valid' _ _ _ _ _ H3.out hx0 _ (HT.out.next (by go_grown))).mono ?_); rintro e w1 ⟨rfl, hb1⟩; (try (have hs0 : w.heap.size < w1.heap.size := (by have := hb1.size; (try simp at this); omega))); (try (have hs1 : w.heap.size + 1 < w1.heap.size := (by have := hb1.size; (try simp at this); omega))); have hB1 : Below w.heap.size w w1 := Below.next (by go_grown) hb1; have hz0 : b < w1.heap.size := (by have := hB1.size; omega); obtain ⟨hc1, hf1⟩ := bcell hb1; obtain ⟨hcA1, hfA1⟩ := bcell hB1; have HB1 := Lib.hid hb1; clear hb1)) | (go_at_call 69; ((with_reducible refine (c_Valid' _ _ _ _ _ H4.out hy0 _ (HT.out.next (by go_grown))).mono ?_); rintro e w1 ⟨rfl, hb1⟩; (try (have hs0 : w.heap.size < w1.heap.size := (by have := hb1.size; (try simp at this); omega))); (try (have hs1 : w.heap.size + 1 < w1.heap.size := (by have := hb1.size; (try simp at this); omega))); have hB1 : Below w.heap.size w w1 := Below.next (by go_grown) hb1; have hz0 : b < w1.heap.size := (by have := hB1.size; omega); obtain ⟨hc1, hf1⟩ := bcell hb1; obtain ⟨hcA1, hfA1⟩ := bcell hB1; have HB1 := Lib.hid hb1; clear hb1)))
    go_ret2
    exact ⟨by rw [HP.out, if_pos (by simp; exact hbk)]; rfl, by go_grown⟩
  case pos =>
    subst hbk
    have hp := HP.out
    rw [if_neg (by simp)] at hp
    have HP := Lib.hid hp; clear hp
    go_enter Tryz.func85, Tryz.ntmps85
    go_wp2_with (first | (go_at_call 99; ((with_reducible refine (c_Target' _ _ _ _ _ H1.out _).mono ?_); rintro e w1 ⟨rfl, hb1⟩; (try (have hs0 : w.heap.size < w1.heap.size := (by have := hb1.size; (try simp at this); omega))); (try (have hs1 : w.heap.size + 1 < w1.heap.size := (by have := hb1.size; (try simp at this); omega))); have hB1 : Below w.heap.size w w1 := Below.next (by go_grown) hb1; have hz0 : b < w1.heap.size := (by have := hB1.size; omega); obtain ⟨hc1, hf1⟩ := bcell hb1; obtain ⟨hcA1, hfA1⟩ := bcell hB1; have HB1 := Lib.hid hb1; clear hb1)) | (go_at_call 99; ((with_reducible refine (c_Target' _ _ _ _ _ H2.out _).mono ?_); rintro e w1 ⟨rfl, hb1⟩; (try (have hs0 : w.heap.size < w1.heap.size := (by have := hb1.size; (try simp at this); omega))); (try (have hs1 : w.heap.size + 1 < w1.heap.size := (by have := hb1.size; (try simp at this); omega))); have hB1 : Below w.heap.size w w1 := Below.next (by go_grown) hb1; have hz0 : b < w1.heap.size := (by have := hB1.size; omega); obtain ⟨hc1, hf1⟩ := bcell hb1; obtain ⟨hcA1, hfA1⟩ := bcell hB1; have HB1 := Lib.hid hb1; clear hb1)) | (go_at_call 69; ((with_reducible refine (c_Valid' _ _ _ _ _ H3.out hx0 _ (HT.out.next (by go_grown))).mono ?_); rintro e w1 ⟨rfl, hb1⟩; (try (have hs0 : w.heap.size < w1.heap.size := (by have := hb1.size; (try simp at this); omega))); (try (have hs1 : w.heap.size + 1 < w1.heap.size := (by have := hb1.size; (try simp at this); omega))); have hB1 : Below w.heap.size w w1 := Below.next (by go_grown) hb1; have hz0 : b < w1.heap.size := (by have := hB1.size; omega); obtain ⟨hc1, hf1⟩ := bcell hb1; obtain ⟨hcA1, hfA1⟩ := bcell hB1; have HB1 := Lib.hid hb1; clear hb1)) | (go_at_call 69; ((with_reducible refine (c_Valid' _ _ _ _ _ H4.out hy0 _ (HT.out.next (by go_grown))).mono ?_); rintro e w1 ⟨rfl, hb1⟩; (try (have hs0 : w.heap.size < w1.heap.size := (by have := hb1.size; (try simp at this); omega))); (try (have hs1 : w.heap.size + 1 < w1.heap.size := (by have := hb1.size; (try simp at this); omega))); have hB1 : Below w.heap.size w w1 := Below.next (by go_grown) hb1; have hz0 : b < w1.heap.size := (by have := hB1.size; omega); obtain ⟨hc1, hf1⟩ := bcell hb1; obtain ⟨hcA1, hfA1⟩ := bcell hB1; have HB1 := Lib.hid hb1; clear hb1)))
    go_quiet (fail)
    go_wp2_with (first | (go_at_call 72; refine (c_IsJump _ _).mono ?_; rintro e w' ⟨rfl, rfl⟩) | (go_at_call 73; refine (c_IsLanding _ _).mono ?_; rintro e w' ⟨rfl, rfl⟩))
    all_goals (go_ret2; refine ⟨?_, by repeat' (first | (with_reducible assumption) | (with_reducible exact Below.refl _ _) | (with_reducible refine Below.alloc ?_ ?_ _) | (with_reducible refine Bk.drewN_ ?_ _) | (with_reducible refine Below.drew ?_) | (with_reducible refine Below.setCell ?_ ?_ _) | go_size)⟩; rw [HP.out]; go_tidy; clear HP H1 H2 H3 H4 HT; simp_all [pairB] <;> (rw [if_neg (by omega)]; exact ⟨rfl, rfl⟩))

theorem Partner.out_ (A : Option Addr) (n cap : Nat) (mem st i : Int) (code : Prg) (w : World) (hn : n = code.length) (hi : i < 0 ∨ (n : Int) ≤ i) :
    Calls Tryz.prog 85 #[.agg #[.slice A n cap, .int .i64 mem, .int .i64 st], .int .i64 i] w fun e w' =>
      e = .returned (.tuple #[.int .i64 (partner code i).1, .bool (partner code i).2]) ∧ Below w.heap.size w w' := by
  have hp : partner code i = (0, false) := by unfold partner; rw [if_pos (by omega)]
  rw [hp]
  by_cases h0 : i < 0
  · have h0' : decide (i < 0) = true := by simpa using h0
    clear hn hp hi
    go_enter Tryz.func85, Tryz.ntmps85
    go_wp2_with fail
    go_ret2
    exact ⟨rfl, by go_grown⟩
  · have h0' : decide (i < 0) = false := by simpa using h0
    have h1' : decide ((n : Int) ≤ i) = true := by simp; omega
    clear hn hp hi
    go_enter Tryz.func85, Tryz.ntmps85
    go_wp2_with fail
    go_ret2
    exact ⟨rfl, by go_grown⟩

/-- image.Partner, for every index. -/
theorem c_Partner (A : Option Addr) (n cap : Nat) (mem st i : Int) (code : Prg) (w : World) 
    (hC : Rd w (· < w.heap.size) 5 A n (codeCells code)) (hw : CodeWf code) (hTab : TableAt w) :
    Calls Tryz.prog 85 #[.agg #[.slice A n cap, .int .i64 mem, .int .i64 st], .int .i64 i] w fun e w' =>
      e = .returned (.tuple #[.int .i64 (partner code i).1, .bool (partner code i).2]) ∧ Below w.heap.size w w' := by
  have hn : n = code.length := by have := hC.1; rw [codeCells_length] at this; omega
  by_cases hi : i < 0 ∨ (n : Int) ≤ i
  · exact Partner.out_ A n cap mem st i code w hn hi
  · obtain ⟨k, rfl⟩ := Int.eq_ofNat_of_zero_le (show 0 ≤ i by omega)
    obtain ⟨b, off, rfl, _, _⟩ := hC.2 (by omega)
    exact Partner.in_ b off n cap k mem st code w hn (by omega) hC hw hTab

theorem c_Partner' (A : Option Addr) (n cap : Nat) (mem st i : Int) (code : Prg) {p : Int} {ok : Bool} (h : partner code i = (p, ok)) (w : World)
    (hC : Rd w (· < w.heap.size) 5 A n (codeCells code)) (hw : CodeWf code) (hTab : TableAt w) :
    Calls Tryz.prog 85 #[.agg #[.slice A n cap, .int .i64 mem, .int .i64 st], .int .i64 i] w fun e w' =>
      e = .returned (.tuple #[.int .i64 p, .bool ok]) ∧ Below w.heap.size w w' := by
  have := c_Partner A n cap mem st i code w hC hw hTab
  rw [h] at this; exact this
end Go.Proofs.YtbijhlgdilkopaaGreatDoor
