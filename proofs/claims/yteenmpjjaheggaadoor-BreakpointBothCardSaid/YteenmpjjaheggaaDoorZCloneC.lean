/- The walk of slices.Clone at []Instr. -/
import Derived.Test.YteenmpjjaheggaaDoorCpX
import Derived.Test.YteenmpjjaheggaaDoorZPartner
set_option linter.unusedVariables false
set_option linter.unusedSimpArgs false
set_option maxRecDepth 100000
set_option maxHeartbeats 8000000
set_option maxRecDepth 100000
namespace Go.Proofs.YteenmpjjaheggaaDoor
open Go.RowKit Bk

theorem info_insC : (Tryd.prog.info? 68).map (fun i => (i.zero, i.size, i.bytes)) = some (some (.agg #[.int .u8 0, .int .i64 0, .int .i64 0, .int .i64 0, .int .i64 0]), 5, 40) := by kernel_rfl
theorem codeCells_oneC (code : Prg) : ∀ u ∈ codeCells code, u.oneCell' = true := by
  intro u hu
  unfold codeCells at hu
  obtain ⟨x, _, hx⟩ := List.mem_flatMap.1 hu
  simp [insCells] at hx
  rcases hx with rfl | rfl | rfl | rfl | rfl <;> rfl

theorem CloneC.some_ (ad : Addr) (n cap : Nat) (code : Prg) (w : World) (hmax : n ≤ 65536) (hl : (codeCells code).length = n * 5) (hc : ∀ j u, (codeCells code)[j]? = some u → w.cell? (ad.add j) = some u) :
    Calls Tryd.prog 44 #[.slice (some ad) n cap] w fun e w' => ∃ v, e = .returned v ∧ w'.ownsRow w.heap.size 68 5 v n (codeCells code) ∧ Below w.heap.size w w' := by
  obtain ⟨i2, li, lz, ls, lb⟩ := info_parts info_insC
  have q28 : ∀ (w : World) (a : Option Addr) (n c n' c' : Nat), (binOp .eql 30 (.slice a n c) (.slice none n' c')).run Tryd.prog w = .ok (.bool a.isNone) w := fun w a n c n' c' => Lib.run_eql_slice_nil w _ _ a n c n' c' Tryd.underlying30
  have HC := Lib.hid hc; clear hc
  have HL := Lib.hid hl; clear hl
  go_enter Tryd.func44, Tryd.ntmps44
  go_wp2_with (at_builtin; refine wpList_append_own _ rfl _ _ 30 rfl w.heap.size 68 i2 _ 5 40 Tryd.underlying30 li lz ls lb rfl (by decide) _ _ _ rfl (World.ownsRow_made w #[] 0 (Nat.le_refl _) (Nat.zero_le _) rfl) ad n cap (codeCells code) rfl ?qc1 ?qc2 ?qc3 ?qc4 ?qc5 ?qc6 ?_)
  case qc1 => exact HL.out
  case qc2 =>
    intro j u hj
    have h := HC.out j u hj
    refine Lib.cell?_alloc_some _ h
  case qc3 => exact codeCells_oneC code
  case qc4 => unfold maxLen; omega
  case qc5 => omega
  case qc6 => simp
  intro v' w1 hown hgrow hnil
  go_wp2
  go_ret
  refine ⟨v', rfl, by simpa using hown, ?_⟩
  exact ((Below.refl _ w).alloc (Nat.le_refl _) _).grown hgrow (by simp) (by intro k hk; simp [Value.ownBlock] at hk; omega)

theorem c_CloneC (A : Option Addr) (n cap : Nat) (code : Prg) (w : World) (hmax : n ≤ 65536) {D : Nat → Prop} (hC : Rd w D 5 A n (codeCells code)) :
    Calls Tryd.prog 44 #[.slice A n cap] w fun e w' => ∃ v, e = .returned v ∧ w'.ownsRow w.heap.size 68 5 v n (codeCells code) ∧ Below w.heap.size w w' := by
  cases A with
  | none =>
    have hn : n = 0 := by
      rcases Nat.eq_zero_or_pos n with h | h
      · exact h
      · obtain ⟨b, off, e, _⟩ := hC.2 h; cases e
    subst hn
    have hcode : code = [] := by
      have := hC.1; rw [codeCells_length] at this
      exact List.eq_nil_of_length_eq_zero (by omega)
    subst hcode
    have q28 : ∀ (w : World) (a : Option Addr) (n c n' c' : Nat), (binOp .eql 30 (.slice a n c) (.slice none n' c')).run Tryd.prog w = .ok (.bool a.isNone) w := fun w a n c n' c' => Lib.run_eql_slice_nil w _ _ a n c n' c' Tryd.underlying30
    clear hC
    go_enter Tryd.func44, Tryd.ntmps44
    go_wp2
    go_ret
    exact ⟨_, rfl, ⟨rfl, .inl ⟨rfl, rfl⟩⟩, Below.refl _ _⟩
  | some ad =>
    refine CloneC.some_ ad n cap code w hmax hC.1 fun j u hu => ?_
    rcases Nat.eq_zero_or_pos n with h | h
    · subst h
      have := hC.1
      have : codeCells code = [] := List.eq_nil_of_length_eq_zero (by omega)
      rw [this] at hu; simp at hu
    · obtain ⟨b, off, e, _, hc⟩ := hC.2 h
      injection e with e
      subst e
      rw [addr_add']
      exact hc j u hu
end Go.Proofs.YteenmpjjaheggaaDoor
