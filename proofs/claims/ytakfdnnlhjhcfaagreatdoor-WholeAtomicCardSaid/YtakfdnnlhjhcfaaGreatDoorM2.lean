/- EgM EgA EgP. -/
import Derived.MapKept
import Derived.Carry
import Derived.Great.Walk
import Derived.Test.YtakfdnnlhjhcfaaGreatDoorProg
import Derived.Laws.Strings
import Derived.Lib.Strings
import Derived.Lib.Bytealg
import Derived.Lib.Walk
import Derived.Test.YtakfdnnlhjhcfaaGreatDoorZMach
import Derived.Deep.MidRow
set_option linter.unusedVariables false
set_option linter.unusedSimpArgs false
namespace Bk
open Go Go.RowKit Go.MapKept
def KeyW (w0 w : World) (r : Nat) (ks : List ByteArray) : Prop :=
  (∃ es clock, w.heap[r]? = some (.map es clock) ∧ (∀ x ∈ es.toList, ∃ s, x.key = .string s ∧ x.val = .bool true) ∧ ∀ s, (∃ x ∈ es.toList, x.key = .string s) ↔ s ∈ ks) ∧ Below r w0 w
theorem KeyW.made (w : World) : KeyW w (w.alloc (.map #[] 0)) w.heap.size [] :=
  ⟨⟨#[], 0, (heap_alloc w _).1, fun x hx => by simp at hx, fun s => by simp⟩, (Below.refl _ w).alloc (Nat.le_refl _) _⟩
theorem KeyW.insert {P : Program} {mty kt et : TypeId} {w0 w : World} {r : Nat} {ks : List ByteArray} (hm : P.underlying mty = some (.map kt et)) (hd : P.underlying kt = some .string) (h : KeyW w0 w r ks) (s : ByteArray) :
    ∃ w', (Instr.mapUpdate mty (.map (some r)) (.string s) (.bool true)).run P w = .ok () w' ∧ KeyW w0 w' r (s :: ks) := by
  obtain ⟨⟨es, clock, hb, hx, hk⟩, hB⟩ := h
  have hks : ∀ x ∈ es.toList, IsKey .string x.key := fun x hm => by obtain ⟨s', e, _⟩ := hx x hm; rw [e]; trivial
  have hsk : IsKey .string (.string s) := trivial
  have hset : ∀ o, Below r w0 { w with heap := w.heap.setIfInBounds r o } := fun o => ⟨hB.os, hB.tape, hB.output, by simpa using hB.size, fun k hk => by
    have := (heap_set (o' := o) hb).2 k (by omega)
    exact this.trans (hB.block k hk)⟩
  rcases findNow_spec hsk es.toList 0 hks with ⟨h1, h2⟩ | ⟨j, e, h1, h2, h3⟩
  · refine ⟨_, by simp [Instr.mapUpdate, run_underlying hm, run_getObj_map hb, run_checkKey hd hsk, run_findKey hd h1, run_setObj_map _ hb, Result.andThen]; rfl, ⟨_, _, (heap_set hb).1, fun x hm => ?_, fun s' => ?_⟩, hset _⟩
    · simp only [Array.toList_push, List.mem_append, List.mem_singleton] at hm
      rcases hm with hm | rfl
      · exact hx x hm
      · exact ⟨s, rfl, rfl⟩
    · rw [List.mem_cons, ← hk s']
      simp only [Array.toList_push, List.mem_append, List.mem_singleton]
      constructor
      · rintro ⟨x, hm | rfl, e⟩
        · exact .inr ⟨x, hm, e⟩
        · injection e with e; exact .inl e.symm
      · rintro (rfl | ⟨x, hm, e⟩)
        · exact ⟨_, .inr rfl, rfl⟩
        · exact ⟨x, .inl hm, e⟩
  · have hj : es[j]? = some e := by simpa using h2
    have hkey : ∀ e', es[j]? = some e' → ({ e' with key := .string s, val := .bool true } : MapEntry).key = e'.key := fun e' he' => by rw [hj] at he'; cases he'; exact h3.symm
    have hmk := modify_keys (es := es) j (fun e => { e with key := .string s, val := .bool true }) hkey
    have hin : ∀ s', (∃ x ∈ (es.modify j fun e => { e with key := .string s, val := .bool true }).toList, x.key = .string s') ↔ ∃ x ∈ es.toList, x.key = .string s' := fun s' => by
      have : ∀ l : List MapEntry, (∃ x ∈ l, x.key = .string s') ↔ (.string s' : Value) ∈ l.map (·.key) := fun l => by simp
      rw [this, this, hmk]
    refine ⟨_, by simp [Instr.mapUpdate, run_underlying hm, run_getObj_map hb, run_checkKey hd hsk, run_findKey hd h1, hj, h3, run_keyThatStays hsk, run_setObj_map _ hb, Result.andThen]; rfl, ⟨_, _, (heap_set hb).1, fun x hm => ?_, fun s' => ?_⟩, hset _⟩
    · obtain ⟨i, hi⟩ := List.getElem?_of_mem hm
      rw [Array.getElem?_toList, Array.getElem?_modify] at hi
      split at hi
      · cases hei : es[i]? with
        | none => rw [hei] at hi; cases hi
        | some e' => rw [hei] at hi; injection hi with hi; subst hi; exact ⟨s, rfl, rfl⟩
      · exact hx x (Array.mem_toList_iff.2 (Array.mem_of_getElem? hi))
    · rw [hin, hk, List.mem_cons]
      refine ⟨.inr, fun h => h.elim (fun e => ?_) id⟩
      subst e
      exact (hk s').1 ⟨e, Array.mem_toList_iff.2 (Array.mem_of_getElem? hj), h3⟩
theorem KeyW.look {P : Program} {mty kt et : TypeId} {w0 w : World} {r : Nat} {ks : List ByteArray} (hm : P.underlying mty = some (.map kt et)) (hd : P.underlying kt = some .string) (hz : (zeroValue et).run P w = .ok (.bool false) w) (h : KeyW w0 w r ks) (s : ByteArray) :
    ∃ b : Bool, (Instr.lookup mty (.map (some r)) (.string s) false).run P w = .ok (.bool b) w ∧ (b = true ↔ s ∈ ks) := by
  obtain ⟨⟨es, clock, hb, hx, hk⟩, hB⟩ := h
  have hks : ∀ x ∈ es.toList, IsKey .string x.key := fun x hm => by obtain ⟨s', e, _⟩ := hx x hm; rw [e]; trivial
  have hsk : IsKey .string (.string s) := trivial
  rcases findNow_spec hsk es.toList 0 hks with ⟨h1, h2⟩ | ⟨j, e, h1, h2, h3⟩
  · refine ⟨false, by simp [Instr.lookup, run_underlying hm, run_getObj_map hb, run_checkKey hd hsk, run_findKey hd h1, hz, Result.andThen], ⟨(fun h => by cases h), fun h => ?_⟩⟩
    obtain ⟨x, h4, h5⟩ := (hk s).2 h
    exact absurd h5 (h2 x h4)
  · have hmem : e ∈ es.toList := List.mem_of_getElem? h2
    obtain ⟨s', e1, e2⟩ := hx e hmem
    refine ⟨true, by simp [Instr.lookup, run_underlying hm, run_getObj_map hb, run_checkKey hd hsk, run_findKey hd h1, e2, Result.andThen], ⟨fun _ => (hk s).1 ⟨e, hmem, h3⟩, fun _ => rfl⟩⟩
section
variable {P : Program} {ops : Array Oper} {rest : List Oper} {o : Oper} {a : Act} {w0 w : World} {Q : Exit → Act → World → Prop}
theorem wpList_mkK (hg : o.guard = none) (t : TypeId) (hop : o.op = Op.makeMap t none) (hK : ∀ w', KeyW w w' w.heap.size [] → wpList P ops Q rest (a.put o.dst (.map (some w.heap.size))) w') : wpList P ops Q (o :: rest) a w := by
  refine wpList_plain hg fun K' hK' => ?_
  unfold Oper.wp
  simp [execOp, hop, run_makeMap, Result.andThen]
  exact hK' _ _ (hK _ (KeyW.made w))
theorem wpList_insK (hg : o.guard = none) (t : TypeId) (m x v : Operand) (hop : o.op = Op.insert t m x v) (k e : TypeId) (ht : P.underlying t = some (.map k e)) (hd : P.underlying k = some .string) (r : Nat) (hm : a.eval m = .map (some r)) (s : ByteArray) (hx : a.eval x = .string s) (hv : a.eval v = .bool true)
    {ks : List ByteArray} (h : KeyW w0 w r ks) (hK : ∀ w', KeyW w0 w' r (s :: ks) → wpList P ops Q rest (a.put o.dst undef) w') : wpList P ops Q (o :: rest) a w := by
  refine wpList_plain hg fun K' hK' => ?_
  obtain ⟨w', hrun, hw⟩ := h.insert ht hd s
  unfold Oper.wp
  simp [execOp, hop, hm, hx, hv, hrun, Result.andThen]
  exact hK' _ _ (hK w' hw)
theorem wpList_lookK (hg : o.guard = none) (t : TypeId) (m x : Operand) (hop : o.op = Op.lookup t m x false) (k e : TypeId) (ht : P.underlying t = some (.map k e)) (hd : P.underlying k = some .string) (hz : (zeroValue e).run P w = .ok (.bool false) w) (r : Nat) (hm : a.eval m = .map (some r)) (s : ByteArray) (hx : a.eval x = .string s)
    {ks : List ByteArray} (h : KeyW w0 w r ks) (hK : ∀ b : Bool, (b = true ↔ s ∈ ks) → wpList P ops Q rest (a.put o.dst (.bool b)) w) : wpList P ops Q (o :: rest) a w := by
  refine wpList_plain hg fun K' hK' => ?_
  obtain ⟨b, hrun, hb⟩ := h.look ht hd hz s
  unfold Oper.wp
  simp [execOp, hop, hm, hx, hrun, Result.andThen]
  exact hK' _ _ (hK b hb)
end
end Bk
set_option maxRecDepth 100000
namespace Go.Proofs.YtakfdnnlhjhcfaaGreatDoor
open Go.RowKit Bk
theorem e_letter (c : Int) (w : World) : Calls Tryz.prog 84 #[.int .u8 c] w fun e w' => e = .returned (.bool (decide (97 ≤ c) && decide (c ≤ 122))) ∧ w' = w := by
  go_enter Tryz.func84, Tryz.ntmps84
  go_wp2_with fail
  all_goals go_ret
  all_goals exact ⟨by simp_all <;> omega, rfl⟩
theorem e_digit (c : Int) (w : World) : Calls Tryz.prog 87 #[.int .u8 c] w fun e w' => e = .returned (.bool (decide (48 ≤ c) && decide (c ≤ 57))) ∧ w' = w := by
  go_enter Tryz.func87, Tryz.ntmps87
  go_wp2_with fail
  all_goals go_ret
  all_goals exact ⟨by simp_all <;> omega, rfl⟩
theorem e_blank (c : Int) (w : World) : Calls Tryz.prog 88 #[.int .u8 c] w fun e w' => ∃ b, e = .returned (.bool b) ∧ w' = w := by
  go_enter Tryz.func88, Tryz.ntmps88
  go_wp2_with fail
  all_goals go_ret
  all_goals exact ⟨_, rfl, rfl⟩
theorem e_word (c : Int) (w : World) : Calls Tryz.prog 86 #[.int .u8 c] w fun e w' => e = .returned (.bool ((decide (97 ≤ c) && decide (c ≤ 122)) || (decide (48 ≤ c) && decide (c ≤ 57)))) ∧ w' = w := by
  obtain ⟨p, hp⟩ : ∃ p, (decide (97 ≤ c) && decide (c ≤ 122)) = p := ⟨_, rfl⟩
  have h1 := fun w => e_letter c w
  rw [hp] at h1 ⊢
  cases p
  · go_enter Tryz.func86, Tryz.ntmps86
    go_wp2_with (first | (go_at_call 84; ((with_reducible refine (h1 _).mono ?_); rintro e w' ⟨rfl, rfl⟩)) | (go_at_call 87; ((with_reducible refine (e_digit c _).mono ?_); rintro e w' ⟨rfl, rfl⟩)))
    all_goals go_ret
    all_goals exact ⟨by simp, rfl⟩
  · go_enter Tryz.func86, Tryz.ntmps86
    go_wp2_with (first | (go_at_call 84; ((with_reducible refine (h1 _).mono ?_); rintro e w' ⟨rfl, rfl⟩)) | (go_at_call 87; ((with_reducible refine (e_digit c _).mono ?_); rintro e w' ⟨rfl, rfl⟩)))
    all_goals go_ret
    all_goals exact ⟨by simp, rfl⟩
theorem e_line (c : Int) (w : World) : Calls Tryz.prog 89 #[.int .u8 c] w fun e w' => ∃ b, e = .returned (.bool b) ∧ w' = w := by
  go_enter Tryz.func89, Tryz.ntmps89
  go_wp2_with fail
  all_goals go_ret
  all_goals exact ⟨_, rfl, rfl⟩
def wordC (c : Int) : Bool := (decide (97 ≤ c) && decide (c ≤ 122)) || (decide (48 ≤ c) && decide (c ≤ 57))
def wordsB (s : ByteArray) : Bool := s.data.toList.all fun c => wordC (c.toNat : Int)
theorem wordsB_iff (s : ByteArray) : wordsB s = true ↔ ∀ i (h : i < s.size), wordC (s[i].toNat : Int) = true := by
  unfold wordsB
  rw [List.all_eq_true]
  constructor
  · intro h i hi
    exact h _ (by show s.data[i] ∈ _; exact Array.getElem_mem_toList _)
  · intro h c hc
    obtain ⟨i, hi, e⟩ := List.getElem_of_mem hc
    have := h i (by simpa using hi)
    rw [← e]
    exact this
theorem e_span1 (s : ByteArray) (hs : s.size ≤ 16) (w : World) : Calls Tryz.prog 85 #[.string s, .func (.func 86) #[] #[]] w fun e w' => ∃ n : Int, e = .returned (.int .i64 n) ∧ (n == (s.size : Int)) = wordsB s ∧ w' = w := by
  go_enter Tryz.func85, Tryz.ntmps85
  go_wp2_with fail
  go_loopw [8] (fun v8 wr => ∃ j : Nat, j ≤ s.size ∧ v8 = .int .i64 j ∧ (∀ i (h : i < s.size), i < j → wordC (s[i].toNat : Int) = true) ∧ wr = w) (fun v _ => s.size - (intOf v).toNat)
  case atStart => exact ⟨0, Nat.zero_le _, rfl, fun i h hi => absurd hi (Nat.not_lt_zero _), rfl⟩
  case round =>
    obtain ⟨j, hj, rfl, hpre, rfl⟩ := hrel
    have HP := Lib.hid hpre
    clear hpre
    by_cases hlt : j < s.size
    · have j1 : (j : Int) < (s.size : Int) := by omega
      have j0 : (0 : Int) ≤ (j : Int) := by omega
      have hw := fun w => e_word (s[j].toNat : Int) w
      obtain ⟨b, hb⟩ : ∃ b, wordC (s[j].toNat : Int) = b := ⟨_, rfl⟩
      have hb' : ((decide (97 ≤ (s[j].toNat : Int)) && decide ((s[j].toNat : Int) ≤ 122)) || (decide (48 ≤ (s[j].toNat : Int)) && decide ((s[j].toNat : Int) ≤ 57))) = b := hb
      rw [hb'] at hw
      have HB := Lib.hid hb; have HWD := Lib.hid hw
      clear hb hb' hw
      cases b
      · go_wp2_with fail
        refine (HWD.out _).mono ?_
        rintro e w' ⟨rfl, rfl⟩
        go_wp2_with fail
        go_ret
        refine ⟨_, rfl, ?_, rfl⟩
        have hf : wordsB s = false := by
          cases h : wordsB s with
          | false => rfl
          | true => have := (wordsB_iff s).1 h j hlt; rw [HB.out] at this; cases this
        rw [hf]
        simp
        omega
      · go_wp2_with fail
        refine (HWD.out _).mono ?_
        rintro e w' ⟨rfl, rfl⟩
        go_wp2_with fail
        exact ⟨⟨j + 1, by omega, by go_num, fun i h hi => (Nat.lt_succ_iff_lt_or_eq.1 hi).elim (fun h1 => HP.out i h h1) (fun h1 => by subst h1; exact HB.out), by trivial⟩, by simp [intOf]; omega⟩
    · obtain rfl : j = s.size := by omega
      go_wp2_with fail
      go_ret
      refine ⟨_, rfl, ?_, rfl⟩
      rw [(wordsB_iff s).2 fun i h => HP.out i h h]
      simp
theorem e_span2 (s : ByteArray) (hs : s.size ≤ 16) (w : World) : Calls Tryz.prog 85 #[.string s, .func (.func 87) #[] #[]] w fun e w' => ∃ n : Int, e = .returned (.int .i64 n) ∧ w' = w := by
  have HWD : Hid (∀ c w, Calls Tryz.prog 87 #[.int .u8 c] w fun e w' => ∃ b, e = .returned (.bool b) ∧ w' = w) := Lib.hid (fun c w => (e_digit c w).mono fun e w' h => ⟨_, h⟩)
  go_enter Tryz.func85, Tryz.ntmps85
  go_wp2_with fail
  go_loopw [8] (fun v8 wr => ∃ j : Nat, j ≤ s.size ∧ v8 = .int .i64 j ∧ wr = w) (fun v _ => s.size - (intOf v).toNat)
  case atStart => exact ⟨0, Nat.zero_le _, rfl, rfl⟩
  case round =>
    obtain ⟨j, hj, rfl, rfl⟩ := hrel
    by_cases hlt : j < s.size
    · have j1 : (j : Int) < (s.size : Int) := by omega
      have j0 : (0 : Int) ≤ (j : Int) := by omega
      go_wp2_with fail
      refine (HWD.out _ _).mono ?_
      rintro e w' ⟨b, rfl, rfl⟩
      cases b
      · go_wp2_with fail
        go_ret
        exact ⟨_, rfl, rfl⟩
      · go_wp2_with fail
        exact ⟨⟨j + 1, by omega, by go_num, by trivial⟩, by simp [intOf]; omega⟩
    · obtain rfl : j = s.size := by omega
      go_wp2_with fail
      go_ret
      exact ⟨_, rfl, rfl⟩
theorem e_span3 (s : ByteArray) (hs : s.size ≤ 16) (w : World) : Calls Tryz.prog 85 #[.string s, .func (.func 88) #[] #[]] w fun e w' => ∃ n : Int, e = .returned (.int .i64 n) ∧ w' = w := by
  have HWD : Hid (∀ c w, Calls Tryz.prog 88 #[.int .u8 c] w fun e w' => ∃ b, e = .returned (.bool b) ∧ w' = w) := Lib.hid (e_blank)
  go_enter Tryz.func85, Tryz.ntmps85
  go_wp2_with fail
  go_loopw [8] (fun v8 wr => ∃ j : Nat, j ≤ s.size ∧ v8 = .int .i64 j ∧ wr = w) (fun v _ => s.size - (intOf v).toNat)
  case atStart => exact ⟨0, Nat.zero_le _, rfl, rfl⟩
  case round =>
    obtain ⟨j, hj, rfl, rfl⟩ := hrel
    by_cases hlt : j < s.size
    · have j1 : (j : Int) < (s.size : Int) := by omega
      have j0 : (0 : Int) ≤ (j : Int) := by omega
      go_wp2_with fail
      refine (HWD.out _ _).mono ?_
      rintro e w' ⟨b, rfl, rfl⟩
      cases b
      · go_wp2_with fail
        go_ret
        exact ⟨_, rfl, rfl⟩
      · go_wp2_with fail
        exact ⟨⟨j + 1, by omega, by go_num, by trivial⟩, by simp [intOf]; omega⟩
    · obtain rfl : j = s.size := by omega
      go_wp2_with fail
      go_ret
      exact ⟨_, rfl, rfl⟩
theorem e_span4 (s : ByteArray) (hs : s.size ≤ 16) (w : World) : Calls Tryz.prog 85 #[.string s, .func (.func 89) #[] #[]] w fun e w' => ∃ n : Int, e = .returned (.int .i64 n) ∧ w' = w := by
  have HWD : Hid (∀ c w, Calls Tryz.prog 89 #[.int .u8 c] w fun e w' => ∃ b, e = .returned (.bool b) ∧ w' = w) := Lib.hid (e_line)
  go_enter Tryz.func85, Tryz.ntmps85
  go_wp2_with fail
  go_loopw [8] (fun v8 wr => ∃ j : Nat, j ≤ s.size ∧ v8 = .int .i64 j ∧ wr = w) (fun v _ => s.size - (intOf v).toNat)
  case atStart => exact ⟨0, Nat.zero_le _, rfl, rfl⟩
  case round =>
    obtain ⟨j, hj, rfl, rfl⟩ := hrel
    by_cases hlt : j < s.size
    · have j1 : (j : Int) < (s.size : Int) := by omega
      have j0 : (0 : Int) ≤ (j : Int) := by omega
      go_wp2_with fail
      refine (HWD.out _ _).mono ?_
      rintro e w' ⟨b, rfl, rfl⟩
      cases b
      · go_wp2_with fail
        go_ret
        exact ⟨_, rfl, rfl⟩
      · go_wp2_with fail
        exact ⟨⟨j + 1, by omega, by go_num, by trivial⟩, by simp [intOf]; omega⟩
    · obtain rfl : j = s.size := by omega
      go_wp2_with fail
      go_ret
      exact ⟨_, rfl, rfl⟩
theorem e_hasPre (s p : ByteArray) (hp : p.size ≤ 16) (hs : s.size ≤ 16) (w : World) : Calls Tryz.prog 118 #[.string s, .string p] w fun e w' => ∃ b, e = .returned (.bool b) ∧ w' = w := by
  have h : ∀ w, Calls Tryz.prog 151 #[.string s, .string p] w fun e w' => ∃ b, e = .returned (.bool b) ∧ w' = w := fun w => by
    by_cases hl : p.size ≤ s.size
    · have hl' : (p.size : Int) ≤ (s.size : Int) := by omega
      have h0 : (0 : Int) ≤ (p.size : Int) := by omega
      go_enter Tryz.func151, Tryz.ntmps151
      go_wp2_with fail
      all_goals go_ret
      all_goals exact ⟨_, rfl, rfl⟩
    · have hl' : decide ((p.size : Int) ≤ (s.size : Int)) = false := by simp; omega
      go_enter Tryz.func151, Tryz.ntmps151
      go_wp2_with fail
      all_goals go_ret
      all_goals exact ⟨_, rfl, rfl⟩
  go_enter Tryz.func118, Tryz.ntmps118
  go_wp2_with fail
  refine (h _).mono ?_
  rintro e w' ⟨b, rfl, rfl⟩
  go_wp2_with fail
  go_ret
  exact ⟨_, rfl, rfl⟩
theorem e_indexByte (s : ByteArray) (c : Int) (w : World) : Calls Tryz.prog 119 #[.string s, .int .u8 c] w fun e w' => ∃ n, e = .returned (.int .i64 n) ∧ w' = w := by
  have h : ∀ w, Calls Tryz.prog 152 #[.string s, .int .u8 c] w fun e w' => ∃ n, e = .returned (.int .i64 n) ∧ w' = w := fun w => by
    go_enter Tryz.func152, Tryz.ntmps152
    go_wp2
    rw [run_callFunc_extern Tryz.func173 (by kernel_rfl) (by kernel_rfl) (by kernel_rfl) (e := Extern.BytealgIndexByte.indexByte) (by kernel_rfl), Lib.run_indexByteString]
    simp only [Result.andThen]
    rw [Oper.upon_value]
    go_wp2
    go_ret
    exact ⟨_, rfl, rfl⟩
  go_enter Tryz.func119, Tryz.ntmps119
  go_wp2_with fail
  refine (h _).mono ?_
  rintro e w' ⟨b, rfl, rfl⟩
  go_wp2_with fail
  go_ret
  exact ⟨_, rfl, rfl⟩
theorem e_sign (s : ByteArray) (hs : 1 ≤ s.size) (hs' : s.size ≤ 16) (w : World) : Calls Tryz.prog 90 #[.string s] w fun e w' => ∃ n : Int, e = .returned (.int .i64 n) ∧ w' = w := by
  obtain ⟨k, hk⟩ : ∃ k : Nat, min (2 : Int) (s.size : Int) = (k : Int) := ⟨min 2 s.size, by omega⟩
  have h0 : (0 : Int) ≤ (k : Int) := by omega
  have h1 : (k : Int) ≤ (s.size : Int) := by omega
  have h2 : (0 : Int) < (s.size : Int) := by omega
  go_enter Tryz.func90, Tryz.ntmps90
  go_wp2_with fail
  refine (e_hasPre s _ (by decide) hs' _).mono ?_
  rintro e w' ⟨b, rfl, rfl⟩
  cases b
  · go_wp2_with (first | (go_at_call 119; ((with_reducible refine (e_indexByte _ _ _).mono ?_); rintro e w' ⟨b, rfl, rfl⟩)))
    all_goals go_ret
    all_goals first | exact ⟨_, rfl, rfl⟩ | exact ⟨⟨_, rfl⟩, rfl⟩
  · go_wp2_with fail
    go_ret
    exact ⟨_, rfl, rfl⟩
def kws : List ByteArray := [⟨#[115, 105, 122, 101]⟩, ⟨#[116, 111, 112]⟩, ⟨#[100, 101, 108, 111, 99, 97, 108]⟩, ⟨#[108, 111, 99, 97, 108]⟩, ⟨#[117, 110, 116, 105, 108]⟩, ⟨#[108, 111, 111, 112]⟩, ⟨#[102, 114, 111, 109]⟩, ⟨#[102, 105]⟩, ⟨#[101, 108, 115, 101]⟩, ⟨#[105, 102]⟩, ⟨#[117, 110, 99, 97, 108, 108]⟩, ⟨#[99, 97, 108, 108]⟩, ⟨#[117, 110, 119, 114, 105, 116, 101]⟩, ⟨#[119, 114, 105, 116, 101]⟩, ⟨#[117, 110, 114, 101, 97, 100]⟩, ⟨#[114, 101, 97, 100]⟩, ⟨#[112, 111, 112]⟩, ⟨#[112, 117, 115, 104]⟩, ⟨#[109, 97, 105, 110]⟩, ⟨#[112, 114, 111, 99]⟩, ⟨#[115, 116, 97, 99, 107]⟩, ⟨#[97, 114, 114, 97, 121]⟩, ⟨#[105, 110, 116]⟩]
def kwB (s : ByteArray) : Bool := decide (2 ≤ s.size) && decide (s.size ≤ 7) && kws.contains s
theorem zero_bool (w : World) : (zeroValue 4).run Tryz.prog w = .ok (.bool false) w := by kernel_rfl
theorem kws_has (s : ByteArray) (b : Bool) (h : b = true ↔ s ∈ kws) : b = kws.contains s := by
  rw [Bool.eq_iff_iff, h]
  simp [List.contains_iff_exists_mem_beq, Go.MapKept.bytes_beq]
theorem e_keyword (s : ByteArray) (w : World) : Calls Tryz.prog 52 #[.string s] w fun e w' => e = .returned (.bool (kwB s)) ∧ Below w.heap.size w w' := by
  by_cases h1 : s.size < 2
  · have e : kwB s = false := by unfold kwB; rw [decide_eq_false (by omega)]; rfl
    rw [e]
    have h1' : (s.size : Int) < 2 := by omega
    go_enter Tryz.func52, Tryz.ntmps52
    go_wp2_with fail
    go_ret
    exact ⟨rfl, by go_grown⟩
  have h1' : decide ((s.size : Int) < 2) = false := by simp; omega
  by_cases h2 : 7 < s.size
  · have e : kwB s = false := by unfold kwB; rw [decide_eq_false (p := s.size ≤ 7) (by omega)]; simp
    rw [e]
    have h2' : 7 < (s.size : Int) := by omega
    go_enter Tryz.func52, Tryz.ntmps52
    go_wp2_with fail
    go_ret
    exact ⟨rfl, by go_grown⟩
  have h2' : decide (7 < (s.size : Int)) = false := by simp; omega
  have e : kwB s = kws.contains s := by unfold kwB; rw [decide_eq_true (by omega), decide_eq_true (by omega)]; rfl
  rw [e]
  clear e
  go_enter Tryz.func52, Tryz.ntmps52
  go_upto_region 3 with fail
  refine wp_region_lit ?_
  refine wpList_mkK rfl 151 rfl ?_
  intro w1 hk
  simp only [Act.put, Bk.PU]
  iterate 23 (refine wpList_insK rfl 151 _ _ _ rfl 9 4 Tryz.underlying151 Tryz.underlying9 w.heap.size rfl _ rfl rfl hk ?_; clear hk; intro w1 hk; simp only [Act.put])
  go_wp2_with (refine wpList_lookK rfl 151 _ _ rfl 9 4 Tryz.underlying151 Tryz.underlying9 (zero_bool _) w.heap.size rfl s rfl hk ?_; intro b hbk)
  go_ret
  exact ⟨by rw [kws_has s b hbk]; rfl, hk.2⟩
def nameB (s : ByteArray) : Bool := decide (1 ≤ s.size) && decide (s.size ≤ 16) && (s.data.toList.head?.any fun c => decide (97 ≤ (c.toNat : Int)) && decide ((c.toNat : Int) ≤ 122)) && wordsB s && !kwB s
theorem e_first (s : ByteArray) (h0 : 1 ≤ s.size) (h16 : s.size ≤ 16) (w : World) : Calls Tryz.prog 51 #[.string s] w fun e w' => ∃ (k n : Int), e = .returned (.tuple #[.int .u8 k, .int .i64 n]) ∧ ((k == 1) && (n == (s.size : Int))) = ((s.data.toList.head?.any fun c => decide (97 ≤ (c.toNat : Int)) && decide ((c.toNat : Int) ≤ 122)) && wordsB s) ∧ w' = w := by
  have hz : (0 : Int) < (s.size : Int) := by omega
  have hh : s.data.toList.head? = some (s[0]'(by omega)) := by
    obtain ⟨⟨l⟩⟩ := s
    cases l with
    | nil => simp [ByteArray.size] at h0
    | cons a l => rfl
  rw [hh]
  have hl := fun w => e_letter ((s[0]'(by omega)).toNat : Int) w
  have hd := fun w => e_digit ((s[0]'(by omega)).toNat : Int) w
  simp only [Option.any_some]
  obtain ⟨b, hb⟩ : ∃ b, (decide ((97 : Int) ≤ ((s[0]'(by omega)).toNat : Int)) && decide (((s[0]'(by omega)).toNat : Int) ≤ 122)) = b := ⟨_, rfl⟩
  rw [hb] at hl ⊢
  obtain ⟨b2, hb2⟩ : ∃ b, (decide ((48 : Int) ≤ ((s[0]'(by omega)).toNat : Int)) && decide (((s[0]'(by omega)).toNat : Int) ≤ 57)) = b := ⟨_, rfl⟩
  rw [hb2] at hd
  have HL := Lib.hid hl; have HD := Lib.hid hd
  clear hb hb2 hl hd hh
  cases b
  · go_enter Tryz.func51, Tryz.ntmps51
    go_wp2_with fail
    refine (HL.out _).mono ?_
    rintro e w' ⟨rfl, rfl⟩
    go_wp2_with fail
    refine (HD.out _).mono ?_
    rintro e w' ⟨rfl, rfl⟩
    cases b2
    · go_wp2_with fail
      refine (e_blank _ _).mono ?_
      rintro e w' ⟨b3, rfl, rfl⟩
      cases b3
      · go_wp2_with (first | (go_at_call 85; ((with_reducible refine (e_span4 _ h16 _).mono ?_); rintro e w' ⟨n, rfl, rfl⟩)) | (go_at_call 90; ((with_reducible refine (e_sign _ h0 h16 _).mono ?_); rintro e w' ⟨n, rfl, rfl⟩)))
        all_goals go_ret2
        all_goals exact ⟨_, _, rfl, by simp, rfl⟩
      · go_wp2_with fail
        refine (e_span3 _ h16 _).mono ?_
        rintro e w' ⟨n, rfl, rfl⟩
        go_wp2_with fail
        go_ret2
        exact ⟨_, _, rfl, by simp, rfl⟩
    · go_wp2_with fail
      refine (e_span2 _ h16 _).mono ?_
      rintro e w' ⟨n, rfl, rfl⟩
      go_wp2_with fail
      go_ret2
      exact ⟨_, _, rfl, by simp, rfl⟩
  · go_enter Tryz.func51, Tryz.ntmps51
    go_wp2_with fail
    refine (HL.out _).mono ?_
    rintro e w' ⟨rfl, rfl⟩
    go_wp2_with fail
    refine (e_span1 _ h16 _).mono ?_
    rintro e w' ⟨n, rfl, hn, rfl⟩
    go_wp2_with fail
    go_ret2
    exact ⟨_, _, rfl, by rw [hn]; simp, rfl⟩
theorem e_Name (s : ByteArray) (w : World) : Calls Tryz.prog 27 #[.string s] w fun e w' => e = .returned (.bool (nameB s)) ∧ Below w.heap.size w w' := by
  by_cases h0 : 1 ≤ s.size
  rotate_left
  · have e : nameB s = false := by unfold nameB; rw [decide_eq_false h0]; rfl
    have hs : s = ⟨#[]⟩ := by obtain ⟨⟨l⟩⟩ := s; cases l with | nil => rfl | cons a l => simp [ByteArray.size] at h0
    rw [e]; subst hs
    go_enter Tryz.func27, Tryz.ntmps27
    go_wp2_with fail
    go_ret
    exact ⟨rfl, by go_grown⟩
  have hne : s.toList.isEmpty = false := by
    rw [Lib.toList_data]
    obtain ⟨⟨l⟩⟩ := s
    cases l with
    | nil => simp [ByteArray.size] at h0
    | cons a l => rfl
  by_cases h1 : s.size ≤ 16
  rotate_left
  · have e : nameB s = false := by unfold nameB; rw [decide_eq_false (p := s.size ≤ 16) h1]; simp
    have h16 : (16 : Int) < (s.size : Int) := by omega
    rw [e]
    go_enter Tryz.func27, Tryz.ntmps27
    go_wp2_with fail
    go_ret
    exact ⟨rfl, by go_grown⟩
  have h16 : decide ((16 : Int) < (s.size : Int)) = false := by simp; omega
  obtain ⟨c, hc⟩ : ∃ c, ((s.data.toList.head?.any fun c => decide (97 ≤ (c.toNat : Int)) && decide ((c.toNat : Int) ≤ 122)) && wordsB s) = c := ⟨_, rfl⟩
  have e : nameB s = (c && !kwB s) := by unfold nameB; rw [decide_eq_true h0, decide_eq_true h1, ← hc]; simp [Bool.and_assoc]
  rw [e]
  have hf := fun w => e_first s h0 h1 w
  rw [hc] at hf
  have HF := Lib.hid hf
  clear hf e hc
  go_enter Tryz.func27, Tryz.ntmps27
  go_wp2_with fail
  refine (HF.out _).mono ?_
  rintro e w' ⟨k, n, rfl, hkn, rfl⟩
  cases c
  · rcases (show (k == 1) = false ∨ ((k == 1) = true ∧ (n == (s.size : Int)) = false) by cases h : (k == 1) <;> simp_all) with q1 | ⟨q1, q2⟩
    · go_wp2_with fail
      go_ret
      exact ⟨by simp, by go_grown⟩
    · go_wp2_with fail
      go_ret
      exact ⟨by simp, by go_grown⟩
  · have q1 : (k == 1) = true := by cases h : (k == 1) <;> simp_all
    have q2 : (n == (s.size : Int)) = true := by cases h : (n == (s.size : Int)) <;> simp_all
    go_wp2_with fail
    refine (e_keyword s _).mono ?_
    rintro e w2 ⟨rfl, hb⟩
    go_wp2_with fail
    go_ret
    exact ⟨by simp, hb⟩
end Go.Proofs.YtakfdnnlhjhcfaaGreatDoor
namespace Bk
open Go Go.RowKit
inductive Ex where
  | num (v : Int)
  | var (s : ByteArray)
  | top (s : ByteArray)
  | size (s : ByteArray)
  | item (s : ByteArray) (a : Ex)
  | un (op : Int) (a : Ex)
  | bin (op : Int) (a b : Ex)
structure Nd where
  k : Int
  num : Int
  nm : ByteArray
  A : Option Addr
  n : Nat
  cap : Nat
def Nd.cells (x : Nd) : List Value := [.int .u8 x.k, .int .i64 x.num, .string x.nm, .slice x.A x.n x.cap]
def Kid (w : World) (B : Nat) (x : Nd) (i : Nat) (y : Nd) : Prop :=
  ∃ g o, x.A = some ⟨g, o, none⟩ ∧ g < B ∧ w.rangeAt g (o + i * 4) y.cells
theorem Kid.next {w w' : World} {B i : Nat} {x y : Nd} (h : Kid w B x i y) (hb : Below B w w') : Kid w' B x i y := by
  obtain ⟨g, o, h1, h2, h3⟩ := h
  exact ⟨g, o, h1, h2, fun j v hv => (hb.cell (p := ⟨g, o + i * 4 + j, none⟩) h2).trans (h3 j v hv)⟩
theorem Kid.one {w : World} {B i : Nat} {x y z : Nd} (h : Kid w B x i y) (h' : Kid w B x i z) : y = z := by
  obtain ⟨g, o, h1, h2, h3⟩ := h
  obtain ⟨g', o', h1', h2', h3'⟩ := h'
  rw [h1] at h1'
  injection h1' with h1'
  injection h1' with e1 e2
  subst e1; subst e2
  have e : ∀ j v v', y.cells[j]? = some v → z.cells[j]? = some v' → v = v' := fun j v v' a b => by
    have := (h3 j v a).symm.trans (h3' j v' b); injection this
  obtain ⟨k, num, nm, A, n, cap⟩ := y
  obtain ⟨k', num', nm', A', n', cap'⟩ := z
  have c0 := e 0 _ _ rfl rfl; have c1 := e 1 _ _ rfl rfl; have c2 := e 2 _ _ rfl rfl; have c3 := e 3 _ _ rfl rfl
  simp only at c0 c1 c2 c3
  injection c0 with _ c0; injection c1 with _ c1; injection c2 with c2; injection c3 with c3 c4 c5
  subst c0 c1 c2 c3 c4 c5
  rfl
def KV (w : World) (B : Nat) : Nat → Nd → Prop
  | 0, _ => False
  | d + 1, x => (0 ≤ x.k ∧ x.k ≤ 255) ∧ (-9223372036854775808 ≤ x.num ∧ x.num ≤ 9223372036854775807) ∧ x.n ≤ x.cap ∧ x.cap ≤ maxLen ∧ (x.A = none → x.cap = 0) ∧ ∀ i, i < x.n → ∃ y, Kid w B x i y ∧ KV w B d y
theorem KV.next {w w' : World} {B : Nat} (hb : Below B w w') : ∀ d x, KV w B d x → KV w' B d x
  | 0, _, h => h
  | d + 1, x, ⟨h1, h2, h3, h4, h5, h6⟩ => ⟨h1, h2, h3, h4, h5, fun i hi => let ⟨y, h7, h8⟩ := h6 i hi; ⟨y, h7.next hb, KV.next hb d y h8⟩⟩
def EV (w : World) (B : Nat) (nameB : ByteArray → Bool) : Ex → Nd → Prop
  | .num v, x => x.k = 1 ∧ x.num = v ∧ 0 ≤ v ∧ x.nm.toList.isEmpty = true ∧ x.n = 0
  | .var s, x => x.k = 2 ∧ x.num = 0 ∧ x.nm = s ∧ nameB s = true ∧ x.n = 0
  | .top s, x => x.k = 4 ∧ x.num = 0 ∧ x.nm = s ∧ nameB s = true ∧ x.n = 0
  | .size s, x => x.k = 5 ∧ x.num = 0 ∧ x.nm = s ∧ nameB s = true ∧ x.n = 0
  | .item s a, x => x.k = 3 ∧ x.num = 0 ∧ x.nm = s ∧ nameB s = true ∧ x.n = 1 ∧ ∃ y, Kid w B x 0 y ∧ EV w B nameB a y
  | .un op a, x => x.k = op ∧ (op = 6 ∨ op = 7) ∧ x.num = 0 ∧ x.nm.toList.isEmpty = true ∧ x.n = 1 ∧ ∃ y, Kid w B x 0 y ∧ EV w B nameB a y
  | .bin op a b, x => x.k = op ∧ (8 ≤ op ∧ op ≤ 23) ∧ x.num = 0 ∧ x.nm.toList.isEmpty = true ∧ x.n = 2 ∧ ∃ y z, Kid w B x 0 y ∧ Kid w B x 1 z ∧ EV w B nameB a y ∧ EV w B nameB b z
theorem EV.next {w w' : World} {B : Nat} {nb : ByteArray → Bool} (hb : Below B w w') : ∀ e x, EV w B nb e x → EV w' B nb e x := by
  intro e
  induction e with
  | num v => exact fun x h => h
  | var s => exact fun x h => h
  | top s => exact fun x h => h
  | size s => exact fun x h => h
  | item s a ih => exact fun x ⟨h1, h2, h3, h4, h5, y, h6, h7⟩ => ⟨h1, h2, h3, h4, h5, y, h6.next hb, ih y h7⟩
  | un op a ih => exact fun x ⟨h1, h2, h3, h4, h5, y, h6, h7⟩ => ⟨h1, h2, h3, h4, h5, y, h6.next hb, ih y h7⟩
  | bin op a b iha ihb => exact fun x ⟨h1, h2, h3, h4, h5, y, z, h6, h7, h8, h9⟩ => ⟨h1, h2, h3, h4, h5, y, z, h6.next hb, h7.next hb, iha y h8, ihb z h9⟩
end Bk
namespace Go.Proofs.YtakfdnnlhjhcfaaGreatDoor
open Go.RowKit Bk
theorem e_named (x : Nd) (w : World) : Calls Tryz.prog 123 #[.agg #[.int .u8 x.k, .int .i64 x.num, .string x.nm, .slice x.A x.n x.cap]] w fun e w' => e = .returned (.bool (decide (x.num = 0) && nameB x.nm)) ∧ Below w.heap.size w w' := by
  obtain ⟨k, num, nm, A, n, cap⟩ := x
  by_cases h : num = 0
  · subst h
    go_enter Tryz.func123, Tryz.ntmps123
    go_wp2_with fail
    refine (e_Name nm _).mono ?_
    rintro e w1 ⟨rfl, hb⟩
    go_wp2_with fail
    go_ret
    exact ⟨by simp, Below.trans (by go_grown) (hb.mono (by go_size))⟩
  · have h' : (num == 0) = false := by simpa using h
    go_enter Tryz.func123, Tryz.ntmps123
    go_wp2_with fail
    go_ret
    exact ⟨by simp [h], by go_grown⟩
theorem e_plain (x : Nd) (w : World) : Calls Tryz.prog 91 #[.agg #[.int .u8 x.k, .int .i64 x.num, .string x.nm, .slice x.A x.n x.cap]] w fun e w' => e = .returned (.bool (decide (x.num = 0) && x.nm.toList.isEmpty)) ∧ Below w.heap.size w w' := by
  obtain ⟨k, num, nm, A, n, cap⟩ := x
  by_cases h : num = 0
  · subst h
    go_enter Tryz.func91, Tryz.ntmps91
    go_wp2_with fail
    go_ret
    exact ⟨by simp, by go_grown⟩
  · have h' : (num == 0) = false := by simpa using h
    go_enter Tryz.func91, Tryz.ntmps91
    go_wp2_with fail
    go_ret
    exact ⟨by simp [h], by go_grown⟩
end Go.Proofs.YtakfdnnlhjhcfaaGreatDoor
