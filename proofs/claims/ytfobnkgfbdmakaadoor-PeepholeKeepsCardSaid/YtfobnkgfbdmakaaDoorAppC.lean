/- 'append' of code that may be nil, to a slice of the call's own. -/
import Derived.Test.YtfobnkgfbdmakaaDoorClone
import Derived.Laws.AppendOwnNone
import Derived.OwnWalk
set_option linter.unusedVariables false
namespace Go.Proofs.YtfobnkgfbdmakaaDoor
open Go.RowKit Bk

theorem wpList_append_code {w : World} {ops : Array Oper} {rest : List Oper} {o : Oper} {a : Act} {Q : Exit → Act → World → Prop} (hgd : o.guard = none) (s x : Operand)
    (ho : o.op = .call { callee := .builtin .append, args := #[s, x], argTypes := #[28, 28] })
    (base : Nat) (v : Value) (n : Nat) (xs : Prg) (hs : a.eval s = v) (hown : w.ownsRow base 23 5 v n (codeCells xs))
    (A : Option Addr) (m c : Nat) (code : Prg) (hx : a.eval x = .slice A m c) (hA : A = none → m = 0 ∧ c = 0) {D : Nat → Prop} (hR : Rd w D 5 A m (codeCells code)) (hmax : n + m ≤ 65536) (hbase : base ≤ w.heap.size)
    (h : ∀ v' w', w'.ownsRow base 23 5 v' (n + m) (codeCells (xs ++ code)) → w.grownBy w' v.ownBlock → wpList Tryd.prog ops Q rest (a.put o.dst v') w') : wpList Tryd.prog ops Q (o :: rest) a w := by
  obtain ⟨i2, li, lz, ls, lb⟩ := info_parts info_ins
  cases A with
  | none =>
    obtain ⟨rfl, rfl⟩ := hA rfl
    have hcode : code = [] := by
      have := hR.1; rw [codeCells_length] at this
      exact List.eq_nil_of_length_eq_zero (by omega)
    subst hcode
    refine wpList_append_own_none hgd s x _ ho base _ i2 5 Tryd.underlying28 li v n (codeCells xs) hs hown hx (h v w (by simpa using hown) (World.grownBy.refl _ _))
  | some ad =>
    refine wpList_append_own _ hgd s x _ ho base _ i2 _ 5 40 Tryd.underlying28 li lz ls lb rfl (by decide) v n (codeCells xs) hs hown ad m c (codeCells code) hx hR.1 (fun j u hu => ?_) (codeCells_one' code) (by unfold maxLen; omega) (by omega) hbase (fun v' w' h1 h2 _ => h v' w' (by rw [codeCells_append]; exact h1) h2)
    rcases Nat.eq_zero_or_pos m with h0 | h0
    · subst h0
      have := hR.1
      have : codeCells code = [] := List.eq_nil_of_length_eq_zero (by omega)
      rw [this] at hu; simp at hu
    · obtain ⟨b, off, e, _, hc⟩ := hR.2 h0
      injection e with e
      subst e
      rw [addr_add rfl]
      exact hc j u hu
end Go.Proofs.YtfobnkgfbdmakaaDoor
