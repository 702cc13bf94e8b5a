/- The parser at the text of awakeRun. Printed by gen_whkj.py. -/
import Derived.Test.YtakfdnnlhjhcfaaGreatDoorM41
set_option linter.unusedVariables false
set_option linter.unusedSimpArgs false
set_option maxRecDepth 100000
set_option maxHeartbeats 4000000
namespace Bk
open Go Go.RowKit Go.MapKept
def txt : ByteArray := ⟨#[105, 110, 116, 32, 120, 10, 109, 97, 105, 110, 32, 123, 10, 120, 32, 43, 61, 32, 51, 59, 10, 125, 10]⟩
def psT (j : Nat) : Nat := [0, 3, 4, 5, 6, 10, 11, 12, 13, 14, 15, 17, 18, 19, 20, 21, 22, 23].getD j 0
def szT (j : Nat) : Nat := [3, 1, 1, 1, 4, 1, 1, 1, 1, 1, 2, 1, 1, 1, 1, 1, 1].getD j 0
def kdT (j : Nat) : Int := [1, 4, 1, 4, 1, 4, 3, 4, 1, 4, 3, 4, 2, 3, 4, 3, 4].getD j 0
theorem MapB.insert {P : Program} {mty kt et : TypeId} {w : World} {r : Nat} (hm : P.underlying mty = some (.map kt et)) (hd : P.underlying kt = some .string) (h : MapB w r) (s : ByteArray) (hs : s ≠ ⟨#[59]⟩) (v : Value) :
    ∃ w', (Instr.mapUpdate mty (.map (some r)) (.string s) v).run P w = .ok () w' ∧ MapB w' r ∧ Fr (· = r) w w' := by
  obtain ⟨es, clock, hb, hx⟩ := h
  have hks : ∀ x ∈ es.toList, IsKey .string x.key := fun x hm => by obtain ⟨s', e, _⟩ := hx x hm; rw [e]; trivial
  have hsk : IsKey .string (.string s) := trivial
  have hset : ∀ o, Fr (· = r) w { w with heap := w.heap.setIfInBounds r o } := fun o => ⟨rfl, rfl, rfl, by simp, fun k _ hk => (heap_set (o' := o) hb).2 k hk⟩
  rcases findNow_spec hsk es.toList 0 hks with ⟨h1, h2⟩ | ⟨j, e, h1, h2, h3⟩
  · refine ⟨_, by simp [Instr.mapUpdate, run_underlying hm, run_getObj_map hb, run_checkKey hd hsk, run_findKey hd h1, run_setObj_map _ hb, Result.andThen]; rfl, ⟨_, _, (heap_set hb).1, fun x hm => ?_⟩, hset _⟩
    simp only [Array.toList_push, List.mem_append, List.mem_singleton] at hm
    rcases hm with hm | rfl
    · exact hx x hm
    · exact ⟨s, rfl, hs⟩
  · have hj : es[j]? = some e := by simpa using h2
    refine ⟨_, by simp [Instr.mapUpdate, run_underlying hm, run_getObj_map hb, run_checkKey hd hsk, run_findKey hd h1, hj, h3, run_keyThatStays hsk, run_setObj_map _ hb, Result.andThen]; rfl, ⟨_, _, (heap_set hb).1, fun x hm => ?_⟩, hset _⟩
    obtain ⟨i, hi⟩ := List.getElem?_of_mem hm
    rw [Array.getElem?_toList, Array.getElem?_modify] at hi
    split at hi
    · cases hei : es[i]? with
      | none => rw [hei] at hi; cases hi
      | some e' => rw [hei] at hi; injection hi with hi; subst hi; exact ⟨s, rfl, hs⟩
    · exact hx x (Array.mem_toList_iff.2 (Array.mem_of_getElem? hi))
theorem wp_updB {P : Program} {o : Oper} {a : Act} {w : World} {K : Act → World → Prop} {Q : Exit → Act → World → Prop} (t : TypeId) (m x v : Operand) (hop : o.op = Op.mapUpdate t m x v) (k e : TypeId) (ht : P.underlying t = some (.map k e)) (hd : P.underlying k = some .string) (r : Nat) (hm : a.eval m = .map (some r)) (s : ByteArray) (hx : a.eval x = .string s) (val : Value) (hv : a.eval v = val) (hs : s ≠ ⟨#[59]⟩) (h : MapB w r)
    (hK : ∀ w', MapB w' r → Fr (· = r) w w' → K (a.put o.dst undef) w') : o.wp P a w K Q := by
  obtain ⟨w', hrun, h1, h2⟩ := h.insert ht hd s hs val
  unfold Oper.wp
  simp [execOp, hop, hm, hx, hv, hrun, Result.andThen]
  exact hK _ h1 h2
theorem wpList_mkB {P : Program} {ops : Array Oper} {rest : List Oper} {o : Oper} {a : Act} {w : World} {Q : Exit → Act → World → Prop} (hg : o.guard = none) (t : TypeId) (hop : o.op = Op.makeMap t none) (hK : wpList P ops Q rest (a.put o.dst (.map (some w.heap.size))) (w.alloc (.map #[] 0))) : wpList P ops Q (o :: rest) a w := by
  refine wpList_plain hg fun K' hK' => ?_
  unfold Oper.wp
  simp [execOp, hop, run_makeMap, Result.andThen]
  exact hK' _ _ hK
def SymAt (w : World) : Prop := ∀ k : Nat, 8 ≤ k → k ≤ 23 → ∃ s, w.cell? ⟨0, k, none⟩ = some (.string s) ∧ s ≠ ⟨#[59]⟩
theorem SymAt.lt {w : World} (h : SymAt w) : 0 < w.heap.size := by
  obtain ⟨s, h1, _⟩ := h 8 (by decide) (by decide)
  exact World.block_lt_of_cell? w ⟨0, 8, none⟩ h1
theorem SymAt.fr {w w' : World} {O : Nat → Prop} (h : SymAt w) (hf : Fr O w w') (hO : ¬ O 0) : SymAt w' := fun k h1 h2 => by
  obtain ⟨s, h3, h4⟩ := h k h1 h2
  exact ⟨s, (hf.cell h.lt hO k).trans h3, h4⟩
theorem SymAt.next {w w' : World} (h : SymAt w) (hb : Below w.heap.size w w') : SymAt w' := fun k h1 h2 => by
  obtain ⟨s, h3, h4⟩ := h k h1 h2
  exact ⟨s, (hb.cell (p := ⟨0, k, none⟩) h.lt).trans h3, h4⟩
end Bk
namespace Go.Proofs.YtakfdnnlhjhcfaaGreatDoor
open Go.RowKit Bk
theorem e_fst0 (w : World) : Calls Tryz.prog 51 #[.string (⟨#[105, 110, 116, 32, 120, 10, 109, 97, 105, 110, 32, 123, 10, 120, 32, 43, 61, 32, 51, 59, 10, 125, 10]⟩)] w fun e w' => e = .returned (.tuple #[.int .u8 1, .int .i64 3]) ∧ w' = w :=
  e_firstW (⟨#[105, 110, 116, 32, 120, 10, 109, 97, 105, 110, 32, 123, 10, 120, 32, 43, 61, 32, 51, 59, 10, 125, 10]⟩) (by decide +kernel) 3 (by decide +kernel) (fun w => e_spanX 86 (fun c => (decide (97 ≤ c) && decide (c ≤ 122)) || (decide (48 ≤ c) && decide (c ≤ 57))) (fun _ _ => rfl) e_word (⟨#[105, 110, 116, 32, 120, 10, 109, 97, 105, 110, 32, 123, 10, 120, 32, 43, 61, 32, 51, 59, 10, 125, 10]⟩) (by decide +kernel) 3 (by decide +kernel) (by decide +kernel) (by decide +kernel) w) w
theorem e_fst1 (w : World) : Calls Tryz.prog 51 #[.string (⟨#[32, 120, 10, 109, 97, 105, 110, 32, 123, 10, 120, 32, 43, 61, 32, 51, 59, 10, 125, 10]⟩)] w fun e w' => e = .returned (.tuple #[.int .u8 4, .int .i64 1]) ∧ w' = w :=
  e_firstB (⟨#[32, 120, 10, 109, 97, 105, 110, 32, 123, 10, 120, 32, 43, 61, 32, 51, 59, 10, 125, 10]⟩) (by decide +kernel) 1 (by decide +kernel) (by decide +kernel) (by decide +kernel) (fun w => e_spanX 88 (fun c => c == 32 || c == 9 || c == 13 || c == 10) (fun _ _ => rfl) e_blankX (⟨#[32, 120, 10, 109, 97, 105, 110, 32, 123, 10, 120, 32, 43, 61, 32, 51, 59, 10, 125, 10]⟩) (by decide +kernel) 1 (by decide +kernel) (by decide +kernel) (by decide +kernel) w) w
theorem e_fst2 (w : World) : Calls Tryz.prog 51 #[.string (⟨#[120, 10, 109, 97, 105, 110, 32, 123, 10, 120, 32, 43, 61, 32, 51, 59, 10, 125, 10]⟩)] w fun e w' => e = .returned (.tuple #[.int .u8 1, .int .i64 1]) ∧ w' = w :=
  e_firstW (⟨#[120, 10, 109, 97, 105, 110, 32, 123, 10, 120, 32, 43, 61, 32, 51, 59, 10, 125, 10]⟩) (by decide +kernel) 1 (by decide +kernel) (fun w => e_spanX 86 (fun c => (decide (97 ≤ c) && decide (c ≤ 122)) || (decide (48 ≤ c) && decide (c ≤ 57))) (fun _ _ => rfl) e_word (⟨#[120, 10, 109, 97, 105, 110, 32, 123, 10, 120, 32, 43, 61, 32, 51, 59, 10, 125, 10]⟩) (by decide +kernel) 1 (by decide +kernel) (by decide +kernel) (by decide +kernel) w) w
theorem e_fst3 (w : World) : Calls Tryz.prog 51 #[.string (⟨#[10, 109, 97, 105, 110, 32, 123, 10, 120, 32, 43, 61, 32, 51, 59, 10, 125, 10]⟩)] w fun e w' => e = .returned (.tuple #[.int .u8 4, .int .i64 1]) ∧ w' = w :=
  e_firstB (⟨#[10, 109, 97, 105, 110, 32, 123, 10, 120, 32, 43, 61, 32, 51, 59, 10, 125, 10]⟩) (by decide +kernel) 1 (by decide +kernel) (by decide +kernel) (by decide +kernel) (fun w => e_spanX 88 (fun c => c == 32 || c == 9 || c == 13 || c == 10) (fun _ _ => rfl) e_blankX (⟨#[10, 109, 97, 105, 110, 32, 123, 10, 120, 32, 43, 61, 32, 51, 59, 10, 125, 10]⟩) (by decide +kernel) 1 (by decide +kernel) (by decide +kernel) (by decide +kernel) w) w
theorem e_fst4 (w : World) : Calls Tryz.prog 51 #[.string (⟨#[109, 97, 105, 110, 32, 123, 10, 120, 32, 43, 61, 32, 51, 59, 10, 125, 10]⟩)] w fun e w' => e = .returned (.tuple #[.int .u8 1, .int .i64 4]) ∧ w' = w :=
  e_firstW (⟨#[109, 97, 105, 110, 32, 123, 10, 120, 32, 43, 61, 32, 51, 59, 10, 125, 10]⟩) (by decide +kernel) 4 (by decide +kernel) (fun w => e_spanX 86 (fun c => (decide (97 ≤ c) && decide (c ≤ 122)) || (decide (48 ≤ c) && decide (c ≤ 57))) (fun _ _ => rfl) e_word (⟨#[109, 97, 105, 110, 32, 123, 10, 120, 32, 43, 61, 32, 51, 59, 10, 125, 10]⟩) (by decide +kernel) 4 (by decide +kernel) (by decide +kernel) (by decide +kernel) w) w
theorem e_fst5 (w : World) : Calls Tryz.prog 51 #[.string (⟨#[32, 123, 10, 120, 32, 43, 61, 32, 51, 59, 10, 125, 10]⟩)] w fun e w' => e = .returned (.tuple #[.int .u8 4, .int .i64 1]) ∧ w' = w :=
  e_firstB (⟨#[32, 123, 10, 120, 32, 43, 61, 32, 51, 59, 10, 125, 10]⟩) (by decide +kernel) 1 (by decide +kernel) (by decide +kernel) (by decide +kernel) (fun w => e_spanX 88 (fun c => c == 32 || c == 9 || c == 13 || c == 10) (fun _ _ => rfl) e_blankX (⟨#[32, 123, 10, 120, 32, 43, 61, 32, 51, 59, 10, 125, 10]⟩) (by decide +kernel) 1 (by decide +kernel) (by decide +kernel) (by decide +kernel) w) w
theorem e_fst6 (w : World) : Calls Tryz.prog 51 #[.string (⟨#[123, 10, 120, 32, 43, 61, 32, 51, 59, 10, 125, 10]⟩)] w fun e w' => e = .returned (.tuple #[.int .u8 3, .int .i64 1]) ∧ w' = w :=
  e_firstS (⟨#[123, 10, 120, 32, 43, 61, 32, 51, 59, 10, 125, 10]⟩) (by decide +kernel) 1 (by decide +kernel) (by decide +kernel) (by decide +kernel) (by decide +kernel) (fun w => e_sign1 (⟨#[123, 10, 120, 32, 43, 61, 32, 51, 59, 10, 125, 10]⟩) (⟨#[123, 10]⟩) (by decide +kernel) (by decide +kernel) 2 (by decide +kernel) (by kernel_rfl) (by decide +kernel) (by decide +kernel) (by decide +kernel) (by decide +kernel) (by decide +kernel) (by decide +kernel) (by decide +kernel) (by decide +kernel) (by decide +kernel) (by decide +kernel) (by decide +kernel) w) w
theorem e_fst7 (w : World) : Calls Tryz.prog 51 #[.string (⟨#[10, 120, 32, 43, 61, 32, 51, 59, 10, 125, 10]⟩)] w fun e w' => e = .returned (.tuple #[.int .u8 4, .int .i64 1]) ∧ w' = w :=
  e_firstB (⟨#[10, 120, 32, 43, 61, 32, 51, 59, 10, 125, 10]⟩) (by decide +kernel) 1 (by decide +kernel) (by decide +kernel) (by decide +kernel) (fun w => e_spanX 88 (fun c => c == 32 || c == 9 || c == 13 || c == 10) (fun _ _ => rfl) e_blankX (⟨#[10, 120, 32, 43, 61, 32, 51, 59, 10, 125, 10]⟩) (by decide +kernel) 1 (by decide +kernel) (by decide +kernel) (by decide +kernel) w) w
theorem e_fst8 (w : World) : Calls Tryz.prog 51 #[.string (⟨#[120, 32, 43, 61, 32, 51, 59, 10, 125, 10]⟩)] w fun e w' => e = .returned (.tuple #[.int .u8 1, .int .i64 1]) ∧ w' = w :=
  e_firstW (⟨#[120, 32, 43, 61, 32, 51, 59, 10, 125, 10]⟩) (by decide +kernel) 1 (by decide +kernel) (fun w => e_spanX 86 (fun c => (decide (97 ≤ c) && decide (c ≤ 122)) || (decide (48 ≤ c) && decide (c ≤ 57))) (fun _ _ => rfl) e_word (⟨#[120, 32, 43, 61, 32, 51, 59, 10, 125, 10]⟩) (by decide +kernel) 1 (by decide +kernel) (by decide +kernel) (by decide +kernel) w) w
theorem e_fst9 (w : World) : Calls Tryz.prog 51 #[.string (⟨#[32, 43, 61, 32, 51, 59, 10, 125, 10]⟩)] w fun e w' => e = .returned (.tuple #[.int .u8 4, .int .i64 1]) ∧ w' = w :=
  e_firstB (⟨#[32, 43, 61, 32, 51, 59, 10, 125, 10]⟩) (by decide +kernel) 1 (by decide +kernel) (by decide +kernel) (by decide +kernel) (fun w => e_spanX 88 (fun c => c == 32 || c == 9 || c == 13 || c == 10) (fun _ _ => rfl) e_blankX (⟨#[32, 43, 61, 32, 51, 59, 10, 125, 10]⟩) (by decide +kernel) 1 (by decide +kernel) (by decide +kernel) (by decide +kernel) w) w
theorem e_fst10 (w : World) : Calls Tryz.prog 51 #[.string (⟨#[43, 61, 32, 51, 59, 10, 125, 10]⟩)] w fun e w' => e = .returned (.tuple #[.int .u8 3, .int .i64 2]) ∧ w' = w :=
  e_firstS (⟨#[43, 61, 32, 51, 59, 10, 125, 10]⟩) (by decide +kernel) 2 (by decide +kernel) (by decide +kernel) (by decide +kernel) (by decide +kernel) (fun w => e_sign2 (⟨#[43, 61, 32, 51, 59, 10, 125, 10]⟩) (⟨#[43, 61]⟩) (by decide +kernel) (by decide +kernel) 2 (by decide +kernel) (by kernel_rfl) (by decide +kernel) (by decide +kernel) w) w
theorem e_fst11 (w : World) : Calls Tryz.prog 51 #[.string (⟨#[32, 51, 59, 10, 125, 10]⟩)] w fun e w' => e = .returned (.tuple #[.int .u8 4, .int .i64 1]) ∧ w' = w :=
  e_firstB (⟨#[32, 51, 59, 10, 125, 10]⟩) (by decide +kernel) 1 (by decide +kernel) (by decide +kernel) (by decide +kernel) (fun w => e_spanX 88 (fun c => c == 32 || c == 9 || c == 13 || c == 10) (fun _ _ => rfl) e_blankX (⟨#[32, 51, 59, 10, 125, 10]⟩) (by decide +kernel) 1 (by decide +kernel) (by decide +kernel) (by decide +kernel) w) w
theorem e_fst12 (w : World) : Calls Tryz.prog 51 #[.string (⟨#[51, 59, 10, 125, 10]⟩)] w fun e w' => e = .returned (.tuple #[.int .u8 2, .int .i64 1]) ∧ w' = w :=
  e_firstN (⟨#[51, 59, 10, 125, 10]⟩) (by decide +kernel) 1 (by decide +kernel) (by decide +kernel) (fun w => e_spanX 87 (fun c => decide (48 ≤ c) && decide (c ≤ 57)) (fun _ _ => rfl) e_digit (⟨#[51, 59, 10, 125, 10]⟩) (by decide +kernel) 1 (by decide +kernel) (by decide +kernel) (by decide +kernel) w) w
theorem e_fst13 (w : World) : Calls Tryz.prog 51 #[.string (⟨#[59, 10, 125, 10]⟩)] w fun e w' => e = .returned (.tuple #[.int .u8 3, .int .i64 1]) ∧ w' = w :=
  e_firstS (⟨#[59, 10, 125, 10]⟩) (by decide +kernel) 1 (by decide +kernel) (by decide +kernel) (by decide +kernel) (by decide +kernel) (fun w => e_sign1 (⟨#[59, 10, 125, 10]⟩) (⟨#[59, 10]⟩) (by decide +kernel) (by decide +kernel) 2 (by decide +kernel) (by kernel_rfl) (by decide +kernel) (by decide +kernel) (by decide +kernel) (by decide +kernel) (by decide +kernel) (by decide +kernel) (by decide +kernel) (by decide +kernel) (by decide +kernel) (by decide +kernel) (by decide +kernel) w) w
theorem e_fst14 (w : World) : Calls Tryz.prog 51 #[.string (⟨#[10, 125, 10]⟩)] w fun e w' => e = .returned (.tuple #[.int .u8 4, .int .i64 1]) ∧ w' = w :=
  e_firstB (⟨#[10, 125, 10]⟩) (by decide +kernel) 1 (by decide +kernel) (by decide +kernel) (by decide +kernel) (fun w => e_spanX 88 (fun c => c == 32 || c == 9 || c == 13 || c == 10) (fun _ _ => rfl) e_blankX (⟨#[10, 125, 10]⟩) (by decide +kernel) 1 (by decide +kernel) (by decide +kernel) (by decide +kernel) w) w
theorem e_fst15 (w : World) : Calls Tryz.prog 51 #[.string (⟨#[125, 10]⟩)] w fun e w' => e = .returned (.tuple #[.int .u8 3, .int .i64 1]) ∧ w' = w :=
  e_firstS (⟨#[125, 10]⟩) (by decide +kernel) 1 (by decide +kernel) (by decide +kernel) (by decide +kernel) (by decide +kernel) (fun w => e_sign1 (⟨#[125, 10]⟩) (⟨#[125, 10]⟩) (by decide +kernel) (by decide +kernel) 2 (by decide +kernel) (by kernel_rfl) (by decide +kernel) (by decide +kernel) (by decide +kernel) (by decide +kernel) (by decide +kernel) (by decide +kernel) (by decide +kernel) (by decide +kernel) (by decide +kernel) (by decide +kernel) (by decide +kernel) w) w
theorem e_fst16 (w : World) : Calls Tryz.prog 51 #[.string (⟨#[10]⟩)] w fun e w' => e = .returned (.tuple #[.int .u8 4, .int .i64 1]) ∧ w' = w :=
  e_firstB (⟨#[10]⟩) (by decide +kernel) 1 (by decide +kernel) (by decide +kernel) (by decide +kernel) (fun w => e_spanX 88 (fun c => c == 32 || c == 9 || c == 13 || c == 10) (fun _ _ => rfl) e_blankX (⟨#[10]⟩) (by decide +kernel) 1 (by decide +kernel) (by decide +kernel) (by decide +kernel) w) w
theorem e_fstT : ∀ j, j < 17 → ∀ w, Calls Tryz.prog 51 #[.string (txt.extract (psT j) txt.size)] w fun e w' => e = .returned (.tuple #[.int .u8 (kdT j), .int .i64 (szT j)]) ∧ w' = w := by
  intro j hj w
  match j, hj with
  | 0, _ => rw [show txt.extract (psT 0) txt.size = ⟨#[105, 110, 116, 32, 120, 10, 109, 97, 105, 110, 32, 123, 10, 120, 32, 43, 61, 32, 51, 59, 10, 125, 10]⟩ from by kernel_rfl]; exact e_fst0 w
  | 1, _ => rw [show txt.extract (psT 1) txt.size = ⟨#[32, 120, 10, 109, 97, 105, 110, 32, 123, 10, 120, 32, 43, 61, 32, 51, 59, 10, 125, 10]⟩ from by kernel_rfl]; exact e_fst1 w
  | 2, _ => rw [show txt.extract (psT 2) txt.size = ⟨#[120, 10, 109, 97, 105, 110, 32, 123, 10, 120, 32, 43, 61, 32, 51, 59, 10, 125, 10]⟩ from by kernel_rfl]; exact e_fst2 w
  | 3, _ => rw [show txt.extract (psT 3) txt.size = ⟨#[10, 109, 97, 105, 110, 32, 123, 10, 120, 32, 43, 61, 32, 51, 59, 10, 125, 10]⟩ from by kernel_rfl]; exact e_fst3 w
  | 4, _ => rw [show txt.extract (psT 4) txt.size = ⟨#[109, 97, 105, 110, 32, 123, 10, 120, 32, 43, 61, 32, 51, 59, 10, 125, 10]⟩ from by kernel_rfl]; exact e_fst4 w
  | 5, _ => rw [show txt.extract (psT 5) txt.size = ⟨#[32, 123, 10, 120, 32, 43, 61, 32, 51, 59, 10, 125, 10]⟩ from by kernel_rfl]; exact e_fst5 w
  | 6, _ => rw [show txt.extract (psT 6) txt.size = ⟨#[123, 10, 120, 32, 43, 61, 32, 51, 59, 10, 125, 10]⟩ from by kernel_rfl]; exact e_fst6 w
  | 7, _ => rw [show txt.extract (psT 7) txt.size = ⟨#[10, 120, 32, 43, 61, 32, 51, 59, 10, 125, 10]⟩ from by kernel_rfl]; exact e_fst7 w
  | 8, _ => rw [show txt.extract (psT 8) txt.size = ⟨#[120, 32, 43, 61, 32, 51, 59, 10, 125, 10]⟩ from by kernel_rfl]; exact e_fst8 w
  | 9, _ => rw [show txt.extract (psT 9) txt.size = ⟨#[32, 43, 61, 32, 51, 59, 10, 125, 10]⟩ from by kernel_rfl]; exact e_fst9 w
  | 10, _ => rw [show txt.extract (psT 10) txt.size = ⟨#[43, 61, 32, 51, 59, 10, 125, 10]⟩ from by kernel_rfl]; exact e_fst10 w
  | 11, _ => rw [show txt.extract (psT 11) txt.size = ⟨#[32, 51, 59, 10, 125, 10]⟩ from by kernel_rfl]; exact e_fst11 w
  | 12, _ => rw [show txt.extract (psT 12) txt.size = ⟨#[51, 59, 10, 125, 10]⟩ from by kernel_rfl]; exact e_fst12 w
  | 13, _ => rw [show txt.extract (psT 13) txt.size = ⟨#[59, 10, 125, 10]⟩ from by kernel_rfl]; exact e_fst13 w
  | 14, _ => rw [show txt.extract (psT 14) txt.size = ⟨#[10, 125, 10]⟩ from by kernel_rfl]; exact e_fst14 w
  | 15, _ => rw [show txt.extract (psT 15) txt.size = ⟨#[125, 10]⟩ from by kernel_rfl]; exact e_fst15 w
  | 16, _ => rw [show txt.extract (psT 16) txt.size = ⟨#[10]⟩ from by kernel_rfl]; exact e_fst16 w
  | n + 17, h => exact absurd h (by omega)
theorem info_u8A : (Tryz.prog.info? 5).map (fun i => (i.zero, i.size, i.bytes)) = some (some (.int .u8 0), 1, 1) := by kernel_rfl
def opC (j : Nat) : List Value := (List.range j).map fun i => .int .u8 (((8 + i : Nat)) : Int)
theorem opC_succ (j : Nat) : opC (j + 1) = opC j ++ [.int .u8 (((8 + j : Nat)) : Int)] := by unfold opC; rw [List.range_succ]; simp
theorem e_Operators (w : World) : Calls Tryz.prog 73 #[] w fun e w' => (∃ v, e = .returned v ∧ w'.ownsRow w.heap.size 5 1 v 16 (opC 16)) ∧ Below w.heap.size w w' := by
  obtain ⟨i3, li, lz, ls, lb⟩ := info_parts info_u8A
  have HI := Lib.hid li; have HZ := Lib.hid lz; have HSZ := Lib.hid ls; have HBY := Lib.hid lb
  clear li lz ls lb
  go_enter Tryz.func73, Tryz.ntmps73
  go_upto_region 3 with fail
  go_loopw [1, 2] (fun v1 v2 wr => ∃ (j : Nat), j ≤ 16 ∧ v2 = .int .u8 (((8 + j : Nat)) : Int) ∧ wr.ownsRow w.heap.size 5 1 v1 j (opC j) ∧ Below w.heap.size w wr) (fun _ v _ => 24 - (intOf v).toNat)
  case atStart => exact ⟨0, Nat.zero_le _, rfl, World.ownsRow_nil _ _ _ _, Below.refl _ _⟩
  case round =>
    obtain ⟨j, hj, rfl, hown, hbr⟩ := hrel
    have HO := Lib.hid hown; have HBR := Lib.hid hbr
    obtain ⟨At, ct, rfl⟩ := own_form hown
    clear hown hbr
    have hzr := HBR.out.size
    rcases Nat.lt_or_ge j 16 with hjn | hjn
    · have a1 : (((8 + j : Nat)) : Int) ≤ 23 := by omega
      have a2 : (0 : Int) ≤ (((8 + j : Nat)) : Int) := by omega
      obtain ⟨z, hz⟩ : ∃ z : Nat, 8 + j = z := ⟨_, rfl⟩
      have HZJ := Lib.hid hz
      rw [hz] at a1 a2 ⊢
      clear hz
      go_wp2_with (at_builtin; refine wpList_appS rfl (.tmp 7) (.tmp 9) 52 rfl w.heap.size 5 i3 _ 1 1 Tryz.underlying52 HI.out HZ.out HSZ.out HBY.out rfl (by decide) (.slice At j ct) j (opC j) rfl (HO.out.alloc _) rfl (sl_blk1 (Blk.new _ _ _)) (by intro u hu; simp at hu; subst hu; rfl) (by unfold maxLen; omega) (by omega) (by simp; omega) ?_)
      intro v2 w2 hown hgr hat
      have HOW := Lib.hid hown
      have hb2 : Below w.heap.size w w2 := (HBR.out.alloc hzr _).grown hgr (by simp; omega) (by intro k hk; exact (own_gE HO.out hk).1)
      have HB2 := Lib.hid hb2
      clear hown hgr hat hb2
      go_wp2_with fail
      refine ⟨⟨j + 1, by omega, ?_, ?_, HB2.out⟩, ?_⟩
      · rw [show 8 + (j + 1) = z + 1 by have := HZJ.out; omega]; go_num
      · rw [opC_succ, HZJ.out]; exact HOW.out
      · simp [intOf]; omega
    · obtain rfl : j = 16 := by omega
      go_wp2_with fail
      go_ret
      exact ⟨⟨_, rfl, HO.out⟩, HBR.out⟩
theorem e_Symbol {w : World} (h : SymAt w) (op : Nat) (h8 : 8 ≤ op) (h23 : op ≤ 23) : Calls Tryz.prog 74 #[.int .u8 (op : Int)] w fun e w' => (∃ s, e = .returned (.string s) ∧ s ≠ ⟨#[59]⟩) ∧ Below w.heap.size w w' := by
  obtain ⟨s, h1, h2⟩ := h op h8 h23
  have H2 := Lib.hid h2
  have a0 : (0 : Int) ≤ (op : Int) := by omega
  have a1 : (op : Int) < 43 := by omega
  clear h h2
  go_enter Tryz.func74, Tryz.ntmps74
  go_wp2_with fail
  go_ret
  exact ⟨⟨s, rfl, H2.out⟩, by go_grown⟩
theorem tks_eq : (((List.range 17).map fun i => (kdT i, txt.extract (psT i) (psT i + szT i), (psT i : Int))).filter solidB) = tks := by kernel_rfl
theorem opC_get (j : Nat) (h : j < 16) : (opC 16)[j]? = some (.int .u8 (((8 + j : Nat)) : Int)) := by unfold opC; simp [h]
theorem own_ex {w : World} {base n size : Nat} {e : TypeId} {v : Value} {xs : List Value} (h : w.ownsRow base e size v n xs) (hn : 0 < n) : ∃ g c, v = .slice (some ⟨g, 0, none⟩) n c ∧ base ≤ g ∧ g < w.heap.size ∧ n ≤ c ∧ ∀ j u, xs[j]? = some u → w.cell? ⟨g, j, none⟩ = some u := by
  rcases h.2 with ⟨_, h0⟩ | ⟨g, cap, cur, rfl, hg, hh, h1, h2, h3, h4⟩
  · omega
  · refine ⟨g, cap, rfl, hg, Blk.lt (cs := cur) hh, h1, fun j u hu => ?_⟩
    have hb : Blk w g e cur := hh
    rw [hb.cell]
    have hj : j < xs.length := (List.getElem?_eq_some_iff.1 hu).1
    rw [← h4, List.getElem?_take, if_pos (by rw [← h.1]; exact hj)] at hu
    simpa using hu
theorem e_start {w : World} (hsy : SymAt w) : Calls Tryz.prog 47 #[.string txt] w fun e w' => (∃ b g c r, e = .returned (.pointer (some ⟨b, 0, none⟩)) ∧ PT w' b g c r 0 ∧ w.heap.size ≤ b) ∧ Below w.heap.size w w' := by
  have HSY := Lib.hid hsy
  have HLX := Lib.hid (e_Lex txt (by decide +kernel) 17 (by decide) psT szT kdT (by decide +kernel) (by decide +kernel) (by decide +kernel) e_fstT w)
  obtain ⟨tx, htx⟩ : ∃ t, txt = t := ⟨_, rfl⟩
  have hts : (tx.size : Int) = 23 := by rw [← htx]; decide +kernel
  rw [htx] at HLX ⊢
  clear hsy
  go_enter Tryz.func47, Tryz.ntmps47
  go_wp2_with fail
  refine HLX.out.mono ?_
  rintro en w1 ⟨⟨v1, rfl, hown1⟩, hb1⟩
  rw [← htx] at hown1
  have HO1 := Lib.hid hown1; have HB1 := Lib.hid hb1
  obtain ⟨A1, c1, rfl⟩ := own_form hown1
  clear hown1 hb1 HLX
  go_wp2_with fail
  refine (e_Solid _ (by simp) (by decide) ((Sl.of_own HO1.out).keep (fun _ _ _ => rfl) (fun k hk => hk.2))).mono ?_
  rintro en w2 ⟨⟨v2, rfl, hown2⟩, hb2⟩
  rw [tks_eq] at hown2
  replace hown2 : w2.ownsRow w1.heap.size 142 3 v2 9 (tokC tks) := hown2
  have HB2 := Lib.hid (HB1.out.next hb2)
  obtain ⟨g, c, rfl, hg1, hg2, hgc, hcl⟩ := own_ex hown2 (by decide)
  have HCL := Lib.hid hcl
  have hz2 := HB1.out.size
  clear hown2 hb2 hcl
  go_upto_region 3 with (refine wpList_mkB rfl 100 rfl ?_)
  refine wp_nameE ?_
  intro w3 hw3
  obtain ⟨r, hr⟩ : ∃ r, w2.heap.size = r := ⟨_, rfl⟩
  have hb3 : Below w2.heap.size w2 w3 := by rw [hw3]; exact ((Below.refl _ _).alloc (Nat.le_refl _) _).alloc (by simp) _
  have KB : Blk w3 (r + 1) 102 #[.slice (some ⟨g, 0, none⟩) 9 c, .int .i64 0, .int .i64 23, .map (some r), .int .i64 0, .int .i64 0] := by rw [hw3, ← hr]; exact Blk.new' (by simp) _ _
  have hm : MapB (w2.alloc (.map #[] 0)) w2.heap.size := ⟨#[], 0, (Go.MapKept.heap_alloc w2 _).1, fun x hx => by simp at hx⟩
  have HMP3 : Hid (MapB w3 r) := Lib.hid (by rw [hw3, ← hr]; exact hm.keep (((Below.refl (w2.alloc (.map #[] 0)).heap.size (w2.alloc (.map #[] 0))).alloc (Nat.le_refl _) _).block _ (by simp)))
  have HKB3 := Lib.hid KB
  have hbl3 : r + 1 < w3.heap.size := KB.lt
  have HB3 := Lib.hid (HB2.out.next hb3)
  have HSY3 := Lib.hid (HSY.out.next HB3.out)
  have HTK : Hid (∀ j t, tks[j]? = some t → w3.cell? ⟨g, j * 3, none⟩ = some (.int .u8 t.1) ∧ w3.cell? ⟨g, j * 3 + 1, none⟩ = some (.string t.2.1) ∧ w3.cell? ⟨g, j * 3 + 2, none⟩ = some (.int .i64 t.2.2)) := Lib.hid fun j t ht => by
    obtain ⟨p0, p1, p2⟩ := tokC_get tks j t ht
    exact ⟨(hb3.cell (p := ⟨g, j * 3, none⟩) hg2).trans (HCL.out _ _ p0), (hb3.cell (p := ⟨g, j * 3 + 1, none⟩) hg2).trans (HCL.out _ _ p1), (hb3.cell (p := ⟨g, j * 3 + 2, none⟩) hg2).trans (HCL.out _ _ p2)⟩
  have H3 : Hid (PA w3 (r + 1) g 9 0 c (.map (some r)) tks 23) := Lib.hid ⟨KB, HTK.out, rfl, by omega, by omega, hgc, by decide⟩
  have hrw : w.heap.size ≤ r := by have := HB2.out.size; omega
  have hgs : 0 < w.heap.size := HSY.out.lt
  rw [hr] at hg2 ⊢
  clear hw3 hb3 KB HTK hm
  go_wp2_with fail
  refine (e_Operators w3).mono ?_
  rintro en w4 ⟨⟨vo, rfl, hown4⟩, hb4⟩
  obtain ⟨go, co, rfl, ho1, ho2, hoc, hocl⟩ := own_ex hown4 (by decide)
  have HOC := Lib.hid hocl
  have HMP4 := Lib.hid (HMP3.out.keep (hb4.block r (by omega))); have H4 := Lib.hid (H3.out.next hb4)
  have HSY4 := Lib.hid (HSY3.out.next hb4); have HB4 := Lib.hid (HB3.out.next hb4)
  have hz4 := hb4.size
  clear hown4 hb4 hocl
  go_upto_region 4 with fail
  go_loopw [26] (fun v26 wr => ∃ (j : Nat), j ≤ 16 ∧ v26 = .int .i64 j ∧ MapB wr r ∧ Fr (· = r) w4 wr) (fun v _ => 16 - (intOf v).toNat)
  case atStart => exact ⟨0, Nat.zero_le _, rfl, HMP4.out, Fr.refl _ _⟩
  case round =>
    obtain ⟨j, hj, rfl, hmr, hfr⟩ := hrel
    have HMR := Lib.hid hmr; have HFR := Lib.hid hfr
    have hzr := hfr.size
    clear hmr hfr
    rcases Nat.lt_or_ge j 16 with hjn | hjn
    · have j0 : (0 : Int) ≤ (j : Int) := by omega
      have j1 : (j : Int) < 16 := by omega
      have d0 : wr.cell? ⟨go, j, none⟩ = some (.int .u8 (((8 + j : Nat)) : Int)) := (HFR.out.cell ho2 (by omega) j).trans (HOC.out _ _ (opC_get j hjn))
      go_upto_region 6 with fail
      refine wp_nameE ?_
      intro w6 hw6
      have hb6 : Below wr.heap.size wr w6 := by rw [hw6]; exact (by go_grown)
      have HX6 := Lib.hid hb6
      have HMP6 := Lib.hid (HMR.out.keep (hb6.block r (by omega)))
      have HSY6 := Lib.hid ((HSY4.out.fr HFR.out (by omega)).next hb6)
      have HB6 := Lib.hid ((HFR.out.blk H4.out.blk (by omega)).next hb6)
      have hrl6 : r < w6.heap.size := by have := hb6.size; omega
      have hbr : r + 1 ≠ r := by omega
      clear hw6 hb6 d0
      refine wp_region_held_drew (S := fun W => Fr (· = r) w6 W) (by kernel_rfl) ((Fr.refl _ _).drew) (fun hH => ?_)
      refine wpAnyH_atN ?_
      intro wa hwa
      have hX : Below w6.heap.size w6 wa := by rw [hwa]; exact (Below.refl _ _).drew
      replace hH : Fr (· = r) w6 wa := Fr.of hX
      clear hwa
      refine tkQ 0 (v := ?_) rfl hH ?_
      (try simp only [PU, Act.put])
      refine tkQ 1 (v := ?_) rfl hH ?_
      (try simp only [PU, Act.put])
      refine tkQ 2 (v := ?_) rfl hH ?_
      (try simp only [PU, Act.put])
      refine tkK 3 (v := ?_) rfl ?hy hH ?_
      case hy => (intro w9_ hS9; have t := (hS9.blk HB6.out hbr).cell; clear hS9; go_simp; try with_reducible rfl)
      (try simp only [PU, Act.put])
      refine tkQ 4 (v := ?_) rfl hH ?_
      (try simp only [PU, Act.put])
      refine tkQ 6 (v := ?_) rfl hH ?_
      (try simp only [PU, Act.put])
      refine nxH 5 (by kernel_rfl) rfl (fun K hK => ?_)
      go_simp
      refine (e_Symbol (HSY6.out.fr (Fr.of (O := fun _ => False) hX) (fun h => h)) (8 + j) (by omega) (by omega)).mono ?_
      rintro en wb ⟨⟨sy, rfl, hne⟩, hbn⟩
      replace hX := hX.next hbn
      clear hbn
      refine hK.out _ _ (Fr.of hX) (fun hH => ?_)
      clear hK
      (try simp only [PU, Act.put])
      refine nxH 7 (by kernel_rfl) rfl (fun K hK => ?_)
      refine wp_updB 100 (.tmp 33) (.tmp 35) (.tmp 36) rfl _ _ Tryz.underlying100 Tryz.underlying9 r (by simp [Act.eval]) sy (by simp [Act.eval]) _ rfl hne (HMP6.out.keep (hX.block r hrl6)) ?_
      intro wc hmp hfm
      refine hK.out _ _ ((Fr.of hX).trans hfm) (fun hH => ?_)
      clear hK
      (try simp only [PU, Act.put])
      refine wpAnyH_done (by kernel_rfl) ?_ _
      have HFZ := Lib.hid ((Fr.of hX).trans hfm); have HMZ := Lib.hid hmp
      clear hX hH hmp hfm
      go_wp2_with fail
      exact ⟨⟨j + 1, by omega, by go_num, HMZ.out, HFR.out.trans ((Fr.of HX6.out).trans HFZ.out)⟩, by simp [intOf]; omega⟩
    · obtain rfl : j = 16 := by omega
      have h4 := H4.out; have hf := HFR.out
      go_wp2_with fail
      go_ret
      exact ⟨⟨r + 1, g, c, r, rfl, ⟨⟨hf.blk h4.blk (by omega), fun j t ht => by
        obtain ⟨q1, q2, q3⟩ := h4.tok j t ht
        exact ⟨(hf.cell h4.ne.2.1 (by omega) _).trans q1, (hf.cell h4.ne.2.1 (by omega) _).trans q2, (hf.cell h4.ne.2.1 (by omega) _).trans q3⟩, rfl, by omega, by omega, hgc, by decide⟩, HMR.out, by omega, by omega⟩, by omega⟩, HB4.out.trans (hf.below (by omega) (fun k hk => by omega))⟩
theorem results_cell3 {P : Program} {fn : Func} {p u v : Tmp} {ty : TypeId} (h : fn.results = #[.cell p ty, .tmp u, .tmp v]) (tmps : Array Value) (w : World) (g : Nat) (t : TypeId) (cs : Array Value) (d : TypeDesc)
    (hp : tmps.getD p undef = .pointer (some ⟨g, 0, none⟩)) (hg : Blk w g t cs) (hu : P.underlying ty = some d) (hd : (match d with | .struct _ | .array _ _ => true | _ => false) = true) (hi : (P.info? ty).map (·.size) = some cs.size) :
    (results fn tmps).run P w = .ok (.tuple #[.agg cs, tmps.getD u undef, tmps.getD v undef]) w := by
  simp only [results, h]
  simp only [Array.getD_eq_getD_getElem?] at hp ⊢
  simp [Sem.run_bind, Result.andThen, hp, asAddr, run_loadVar_row w g t ty cs (0, 0) d hg hu hd hi]
theorem e_Program {w : World} (hsy : SymAt w) : Calls Tryz.prog 24 #[.string txt] w fun e w' => (∃ vv g2 v, e = .returned (.tuple #[.agg #[vv, .slice none 0 0, .int .u8 57, .int .i64 0, .string ⟨#[]⟩, v], .int .i64 0, .int .i64 0]) ∧ PrgAt w' w.heap.size vv g2 v) ∧ Below w.heap.size w w' := by
  have HSY := Lib.hid hsy
  clear hsy
  obtain ⟨tx, htx⟩ : ∃ t, txt = t := ⟨_, rfl⟩
  have HST : Hid (∀ W, Below w.heap.size w W → Calls Tryz.prog 47 #[.string tx] W fun e w' => (∃ b g c r, e = .returned (.pointer (some ⟨b, 0, none⟩)) ∧ PT w' b g c r 0 ∧ W.heap.size ≤ b) ∧ Below W.heap.size W w') := Lib.hid fun W hW => by rw [← htx]; exact e_start (HSY.out.next hW)
  rw [htx]
  clear htx
  go_enter Tryz.func24, Tryz.ntmps24
  go_upto_region 1 with fail
  refine wp_nameE ?_
  intro w1 hw1
  have hb1 : Below w.heap.size w w1 := by rw [hw1]; exact (by go_grown)
  have K1 : Blk w1 w.heap.size 28 #[.slice none 0 0, .slice none 0 0, .int .u8 0, .int .i64 0, .string ⟨#[]⟩, .slice none 0 0] := by rw [hw1]; exact blkA
  have HK1 := Lib.hid K1; have HB1 := Lib.hid hb1
  clear hw1 hb1 K1
  go_wp2_with fail
  refine (HST.out w1 HB1.out).mono ?_
  rintro en w2 ⟨⟨b, g, c, r, rfl, hp, hb⟩, hb2⟩
  have H2 := Lib.hid hp; have HB2 := Lib.hid (HB1.out.next hb2); have HK2 := Lib.hid (HK1.out.next hb2)
  have hz1 : w.heap.size < w1.heap.size := HK1.out.lt
  clear hp hb2
  go_wp2_with fail
  refine (e_program H2.out).mono ?_
  rintro en w3 ⟨⟨vv, g2, v, rfl, hpg⟩, h3, hf3⟩
  have H3 := Lib.hid h3; have HPG3 := Lib.hid hpg; have HK3 := Lib.hid (hf3.blk HK2.out (by omega))
  have HB3 : Hid (Below w.heap.size w w3) := Lib.hid (HB2.out.trans (hf3.below HB2.out.size (fun k hk => by omega)))
  obtain ⟨Av, cv, rfl⟩ := own_form hpg.1
  obtain ⟨Am, cm, rfl⟩ := own_form hpg.2.1
  have hz2 := HB2.out.size
  have hk2 : w.heap.size < w2.heap.size := HK2.out.lt
  clear h3 hf3 hpg
  go_upto_region 3 with fail
  refine wp_nameE ?_
  intro w4 hw4
  have hb4 : Below w3.heap.size w3 w4 := by rw [hw4]; exact (by go_grown)
  have K6 : Blk w4 w3.heap.size 28 #[.slice Av 1 cv, .slice none 0 0, .int .u8 57, .int .i64 0, .string ⟨#[]⟩, .slice Am 1 cm] := by rw [hw4]; exact blkA
  have HK6 := Lib.hid K6; have H4 := Lib.hid (H3.out.next hb4); have HB4 := Lib.hid (HB3.out.next hb4); have HK4 := Lib.hid (HK3.out.next hb4)
  have HPG4 := Lib.hid (HPG3.out.fr (Fr.of (O := fun _ => False) hb4) (fun _ _ _ h => h))
  clear hw4 hb4 K6
  go_wp2_with fail
  refine (e_finish H4.out).mono ?_
  rintro en w5 ⟨rfl, hb5⟩
  have H5 := Lib.hid (H4.out.next hb5); have HB5 := Lib.hid (HB4.out.next hb5); have HK5 := Lib.hid (HK4.out.next hb5); have HQ5 := Lib.hid (HK6.out.next hb5)
  have HPG5 := Lib.hid (HPG4.out.fr (Fr.of (O := fun _ => False) hb5) (fun _ _ _ h => h))
  clear hb5
  obtain ⟨z_b, T_b, F_b⟩ := H5.out.pa.blk.open_
  obtain ⟨z_q, T_q, F_q⟩ := HQ5.out.open_
  obtain ⟨z_K, T_K, F_K⟩ := HK5.out.open_
  go_wp2_with fail
  have K9 := (((((HK5.out.set_ 0 (.slice Av 1 cv)).set_ 1 (.slice none 0 0)).set_ 2 (.int .u8 57)).set_ 3 (.int .i64 0)).set_ 4 (.string ⟨#[]⟩)).set_ 5 (.slice Am 1 cm)
  refine bodyPost_ret_by (results_cell3 rfl _ _ w.heap.size 28 #[.slice Av 1 cv, .slice none 0 0, .int .u8 57, .int .i64 0, .string ⟨#[]⟩, .slice Am 1 cm] _ rfl (show Blk _ w.heap.size 28 #[.slice Av 1 cv, .slice none 0 0, .int .u8 57, .int .i64 0, .string ⟨#[]⟩, .slice Am 1 cm] by simpa using K9) Tryz.underlying28 rfl (by rw [info_prog]; rfl)) rfl ?_
  have hfk := Fr.set (Fr.set (Fr.set (Fr.set (Fr.set (Fr.set (Fr.refl (· = w.heap.size) w5) (p := ⟨w.heap.size, 0, none⟩) rfl (.slice Av 1 cv)) (p := ⟨w.heap.size, 1, none⟩) rfl (.slice none 0 0)) (p := ⟨w.heap.size, 2, none⟩) rfl (.int .u8 57)) (p := ⟨w.heap.size, 3, none⟩) rfl (.int .i64 0)) (p := ⟨w.heap.size, 4, none⟩) rfl (.string ⟨#[]⟩)) (p := ⟨w.heap.size, 5, none⟩) rfl (.slice Am 1 cm)
  exact ⟨⟨_, g2, _, rfl, (HPG5.out.fr hfk (fun k h1 _ h2 => by omega)).low (by omega)⟩, HB5.out.trans (hfk.below HB5.out.size (fun k hk => by omega))⟩
theorem e_parsed {w : World} (hsy : SymAt w) : Calls Tryz.prog 13 #[.string txt] w fun e w' => (∃ vv g2 v, e = .returned (.agg #[vv, .slice none 0 0, .int .u8 57, .int .i64 0, .string ⟨#[]⟩, v]) ∧ PrgAt w' w.heap.size vv g2 v) ∧ Below w.heap.size w w' := by
  have HSY := Lib.hid hsy
  clear hsy
  obtain ⟨tx, htx⟩ : ∃ t, txt = t := ⟨_, rfl⟩
  have HPR : Hid (∀ W, Below w.heap.size w W → Calls Tryz.prog 24 #[.string tx] W fun e w' => (∃ vv g2 v, e = .returned (.tuple #[.agg #[vv, .slice none 0 0, .int .u8 57, .int .i64 0, .string ⟨#[]⟩, v], .int .i64 0, .int .i64 0]) ∧ PrgAt w' W.heap.size vv g2 v) ∧ Below W.heap.size W w') := Lib.hid fun W hW => by rw [← htx]; exact e_Program (HSY.out.next hW)
  rw [htx]
  clear htx
  go_enter Tryz.func13, Tryz.ntmps13
  go_upto_region 1 with fail
  refine wp_nameE ?_
  intro w1 hw1
  have hb1 : Below w.heap.size w w1 := by rw [hw1]; exact (by go_grown)
  have K1 : Blk w1 w.heap.size 28 #[.slice none 0 0, .slice none 0 0, .int .u8 0, .int .i64 0, .string ⟨#[]⟩, .slice none 0 0] := by rw [hw1]; exact blkA
  have HK1 := Lib.hid K1; have HB1 := Lib.hid hb1
  clear hw1 hb1 K1
  go_wp2_with fail
  refine (HPR.out w1 HB1.out).mono ?_
  rintro en w3 ⟨⟨vv, g2, v, rfl, hpg⟩, hb3⟩
  have HPG3 := Lib.hid hpg; have HK3 := Lib.hid (HK1.out.next hb3); have HB3 := Lib.hid (HB1.out.next hb3)
  obtain ⟨Av, cv, rfl⟩ := own_form hpg.1
  obtain ⟨Am, cm, rfl⟩ := own_form hpg.2.1
  have hk1 : w.heap.size < w1.heap.size := HK1.out.lt
  clear hpg hb3
  go_upto_region 2 with fail
  refine wp_nameE ?_
  intro w4 hw4
  have hb4 : Below w3.heap.size w3 w4 := by rw [hw4]; exact (by go_grown)
  have K6 : Blk w4 w3.heap.size 28 #[.slice Av 1 cv, .slice none 0 0, .int .u8 57, .int .i64 0, .string ⟨#[]⟩, .slice Am 1 cm] := by rw [hw4]; exact blkA
  have HK6 := Lib.hid K6; have HB4 := Lib.hid (HB3.out.next hb4); have HK4 := Lib.hid (HK3.out.next hb4)
  have HPG4 := Lib.hid (HPG3.out.fr (Fr.of (O := fun _ => False) hb4) (fun _ _ _ h => h))
  clear hw4 hb4 K6
  obtain ⟨z_q, T_q, F_q⟩ := HK6.out.open_
  obtain ⟨z_K, T_K, F_K⟩ := HK4.out.open_
  go_wp2_with fail
  have K9 := (((((HK4.out.set_ 0 (.slice Av 1 cv)).set_ 1 (.slice none 0 0)).set_ 2 (.int .u8 57)).set_ 3 (.int .i64 0)).set_ 4 (.string ⟨#[]⟩)).set_ 5 (.slice Am 1 cm)
  refine bodyPost_ret_by (results_cell_row rfl _ _ w.heap.size 28 #[.slice Av 1 cv, .slice none 0 0, .int .u8 57, .int .i64 0, .string ⟨#[]⟩, .slice Am 1 cm] _ _ rfl (show Blk _ w.heap.size 28 #[.slice Av 1 cv, .slice none 0 0, .int .u8 57, .int .i64 0, .string ⟨#[]⟩, .slice Am 1 cm] by simpa using K9) Tryz.underlying28 rfl (by rw [info_prog]; rfl)) rfl ?_
  have hfk := Fr.set (Fr.set (Fr.set (Fr.set (Fr.set (Fr.set (Fr.refl (· = w.heap.size) w4) (p := ⟨w.heap.size, 0, none⟩) rfl (.slice Av 1 cv)) (p := ⟨w.heap.size, 1, none⟩) rfl (.slice none 0 0)) (p := ⟨w.heap.size, 2, none⟩) rfl (.int .u8 57)) (p := ⟨w.heap.size, 3, none⟩) rfl (.int .i64 0)) (p := ⟨w.heap.size, 4, none⟩) rfl (.string ⟨#[]⟩)) (p := ⟨w.heap.size, 5, none⟩) rfl (.slice Am 1 cm)
  exact ⟨⟨_, g2, _, rfl, (HPG4.out.fr hfk (fun k h1 _ h2 => by omega)).low (by omega)⟩, HB4.out.trans (hfk.below HB4.out.size (fun k hk => by omega))⟩
end Go.Proofs.YtakfdnnlhjhcfaaGreatDoor
