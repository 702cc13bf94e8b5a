/- Several texts in one: Held CloneC. -/
import Derived.Test.YtiejkfomadaakaaDoorZLwEa
import Derived.Test.YtiejkfomadaakaaDoorCpX
import Derived.Test.YtiejkfomadaakaaDoorZPartner
set_option linter.unusedVariables false
set_option linter.unusedSimpArgs false
/- Steps of a region that draws its order, one operation at a time; a VM's value. -/
set_option maxRecDepth 100000
set_option linter.unusedVariables false
namespace Bk
open Go Go.RowKit
/-- A struct is loaded. -/
theorem wp_loadR {P : Program} {o : Oper} {a : Act} {w : World} {K : Act → World → Prop} {Q : Exit → Act → World → Prop} (ty : TypeId) {x : Operand} (ho : o.op = .load ty x) {p : Value} (hx : a.eval x = p) {v : Value} (h : (Instr.loadAt ty p).run P w = .ok v w)
    (hk : K (a.put o.dst v) w) : o.wp P a w K Q := by
  unfold Oper.wp execOp
  simp only [ho, hx, h, Sem.run_bind, Sem.run_pure, Result.andThen_ok]
  exact hk
theorem yields_load {P : Program} {S : World → Prop} {o : Oper} {a : Act} (ty : TypeId) {x : Operand} (ho : o.op = .load ty x) {p : Value} (hx : a.eval x = p) {v : Value} (h : ∀ w, S w → (Instr.loadAt ty p).run P w = .ok v w) : ∀ w, S w → (execOp a.eval o).run P w = .ok (.value v) w := by
  intro w hS
  unfold execOp
  simp only [ho, hx, h w hS, Sem.run_bind, Sem.run_pure, Result.andThen_ok]
theorem list16 {l : List Int} (h : l.length = 16) : ∃ a0 a1 a2 a3 a4 a5 a6 a7 a8 a9 a10 a11 a12 a13 a14 a15, l = [a0, a1, a2, a3, a4, a5, a6, a7, a8, a9, a10, a11, a12, a13, a14, a15] := by
  match l, h with
  | [a0, a1, a2, a3, a4, a5, a6, a7, a8, a9, a10, a11, a12, a13, a14, a15], _ => exact ⟨_, _, _, _, _, _, _, _, _, _, _, _, _, _, _, _, rfl⟩
end Bk
namespace Bk
open Go Go.RowKit
theorem wp_buildR {P : Program} {o : Oper} {a : Act} {w : World} {K : Act → World → Prop} {Q : Exit → Act → World → Prop} (ty : TypeId) {parts : Array (Nat × Operand)} (ho : o.op = .build ty parts) {cells : Array Value}
    {ps : List (Nat × Value)} (hp : parts.toList.map (fun x => (x.1, a.eval x.2)) = ps) (h : P.built ty ps = some cells) (hk : K (a.put o.dst (.agg cells)) w) : o.wp P a w K Q := by
  have h' : P.built ty (parts.map fun (i, x) => (i, a.eval x)).toList = some cells := by
    rw [Array.toList_map]; rw [← hp] at h; exact h
  unfold Oper.wp execOp
  simp only [ho, run_build w ty _ cells h', Sem.run_bind, Sem.run_pure, Result.andThen_ok]
  exact hk
/-- A machine by value is laid amid a block of a struct. -/
theorem MOwn.onP {w : World} {B b : Nat} {t : TypeId} {pre post : List Value} {M : Mach} {vm vs vc vi vo : Value} {sv : List Value} (h : MOwn w B M vm vs vc vi vo sv) (w' : World) (hw : Below w.heap.size w w') (hk : Blk w' b t (pre ++ mcells M vm vs vc vi vo ++ post).toArray) (hb : b < B ∨ w.heap.size ≤ b) :
    ∃ gm gs, B ≤ gm ∧ B ≤ gs ∧ gm < w.heap.size ∧ gs < w.heap.size ∧ MOn w' ⟨b, t, pre, post, pre.length, gm, gs, (· < B)⟩ M vm vs vc vi vo sv := by
  have h' := h.next hw
  obtain ⟨h0, gm, gs, h1, h2, h3, h4, h5, h6, h7, h8⟩ := h
  refine ⟨gm, gs, h1, h2, h3, h4, rfl, h0, hk, h6.keep fun _ => hw.block _ h3, h7.keep fun _ => hw.block _ h4, Nat.lt_of_lt_of_le h3 hw.size, Nat.lt_of_lt_of_le h4 hw.size, fun hn => ⟨by dsimp only; omega, h5 hn⟩, fun _ => by dsimp only; omega, ?_, fun k hk => by have := hw.size; dsimp only at hk; omega⟩
  refine h8.keep (fun b o hd => hw.cell (p := ⟨b, o, none⟩) hd.2.1) fun k hk => ⟨Nat.lt_of_lt_of_le hk.2.1 hw.size, fun ho => ?_⟩
  obtain ⟨k1, k2, k3, k4⟩ := hk
  rcases ho with e | e | e | e <;> dsimp only at e <;> omega
end Bk
namespace Bk
open Go Go.RowKit
/-- A clone is a machine of its own. -/
theorem MOn.own {w : World} {B b gm gs : Nat} {t : TypeId} {pre post : List Value} {off : Nat} {M : Mach} {vm vs vc vi vo : Value} {sv : List Value} (h : MOn w ⟨b, t, pre, post, off, gm, gs, (· < B)⟩ M vm vs vc vi vo sv) (h2 : B ≤ gm) (h3 : B ≤ gs) : MOwn w B M vm vs vc vi vo sv := by
  refine ⟨h.rl, gm, gs, h2, h3, h.gm, h.gs, fun hn => (h.am hn).2, h.m, h.s, h.l.keep (fun _ _ _ => rfl) fun k hk => ?_⟩
  have e := hk.2
  refine ⟨?_, hk.1, fun e' => e (.inr (.inl e')), fun e' => e (.inr (.inr (.inl e')))⟩
  rcases Nat.lt_or_ge k B with hlt | hge
  · exact absurd (.inr (.inr (.inr hlt))) e
  · exact hge
end Bk

/- The walk of slices.Clone at []Instr. -/
set_option maxRecDepth 100000
set_option linter.unusedVariables false
namespace Go.Proofs.YtiejkfomadaakaaDoor
open Go.RowKit Bk

theorem info_insC : (Tryd.prog.info? 68).map (fun i => (i.zero, i.size, i.bytes)) = some (some (.agg #[.int .u8 0, .int .i64 0, .int .i64 0, .int .i64 0, .int .i64 0]), 5, 40) := by kernel_rfl
theorem codeCells_oneC (code : Prg) : ∀ u ∈ codeCells code, u.oneCell' = true := by
  intro u hu
  unfold codeCells at hu
  obtain ⟨x, _, hx⟩ := List.mem_flatMap.1 hu
  simp [insCells] at hx
  rcases hx with rfl | rfl | rfl | rfl | rfl <;> rfl

set_option maxRecDepth 100000 in
set_option maxHeartbeats 2000000 in
theorem CloneC.some_ (ad : Addr) (n cap : Nat) (code : Prg) (w : World) (hmax : n ≤ 65536) (hl : (codeCells code).length = n * 5) (hc : ∀ j u, (codeCells code)[j]? = some u → w.cell? (ad.add j) = some u) :
    Calls Tryd.prog 41 #[.slice (some ad) n cap] w fun e w' => ∃ v, e = .returned v ∧ w'.ownsRow w.heap.size 68 5 v n (codeCells code) ∧ Below w.heap.size w w' := by
  obtain ⟨i2, li, lz, ls, lb⟩ := info_parts info_insC
  have q28 : ∀ (w : World) (a : Option Addr) (n c n' c' : Nat), (binOp .eql 22 (.slice a n c) (.slice none n' c')).run Tryd.prog w = .ok (.bool a.isNone) w := fun w a n c n' c' => Lib.run_eql_slice_nil w _ _ a n c n' c' Tryd.underlying22
  have HC := Lib.hid hc; clear hc
  have HL := Lib.hid hl; clear hl
  go_enter Tryd.func41, Tryd.ntmps41
  go_wp2_with (at_builtin; refine wpList_append_own _ rfl _ _ 22 rfl w.heap.size 68 i2 _ 5 40 Tryd.underlying22 li lz ls lb rfl (by decide) _ _ _ rfl (World.ownsRow_made w #[] 0 (Nat.le_refl _) (Nat.zero_le _) rfl) ad n cap (codeCells code) rfl ?qc1 ?qc2 ?qc3 ?qc4 ?qc5 ?qc6 ?_)
  case qc1 => exact HL.out
  case qc2 =>
    intro j u hj
    have h := HC.out j u hj
    refine Lib.cell?_alloc_some _ h
  case qc3 => exact codeCells_oneC code
  case qc4 => unfold maxLen; omega
  case qc5 => omega
  case qc6 => simp
  intro v' w1 hown hgrow hnil
  go_wp2
  go_ret
  refine ⟨v', rfl, by simpa using hown, ?_⟩
  exact ((Below.refl _ w).alloc (Nat.le_refl _) _).grown hgrow (by simp) (by intro k hk; simp [Value.ownBlock] at hk; omega)

set_option maxRecDepth 100000 in
theorem c_CloneC (A : Option Addr) (n cap : Nat) (code : Prg) (w : World) (hmax : n ≤ 65536) {D : Nat → Prop} (hC : Rd w D 5 A n (codeCells code)) :
    Calls Tryd.prog 41 #[.slice A n cap] w fun e w' => ∃ v, e = .returned v ∧ w'.ownsRow w.heap.size 68 5 v n (codeCells code) ∧ Below w.heap.size w w' := by
  cases A with
  | none =>
    have hn : n = 0 := by
      rcases Nat.eq_zero_or_pos n with h | h
      · exact h
      · obtain ⟨b, off, e, _⟩ := hC.2 h; cases e
    subst hn
    have hcode : code = [] := by
      have := hC.1; rw [codeCells_length] at this
      exact List.eq_nil_of_length_eq_zero (by omega)
    subst hcode
    have q28 : ∀ (w : World) (a : Option Addr) (n c n' c' : Nat), (binOp .eql 22 (.slice a n c) (.slice none n' c')).run Tryd.prog w = .ok (.bool a.isNone) w := fun w a n c n' c' => Lib.run_eql_slice_nil w _ _ a n c n' c' Tryd.underlying22
    clear hC
    go_enter Tryd.func41, Tryd.ntmps41
    go_wp2
    go_ret
    exact ⟨_, rfl, ⟨rfl, .inl ⟨rfl, rfl⟩⟩, Below.refl _ _⟩
  | some ad =>
    refine CloneC.some_ ad n cap code w hmax hC.1 fun j u hu => ?_
    rcases Nat.eq_zero_or_pos n with h | h
    · subst h
      have := hC.1
      have : codeCells code = [] := List.eq_nil_of_length_eq_zero (by omega)
      rw [this] at hu; simp at hu
    · obtain ⟨b, off, e, _, hc⟩ := hC.2 h
      injection e with e
      subst e
      rw [addr_add']
      exact hc j u hu
end Go.Proofs.YtiejkfomadaakaaDoor
