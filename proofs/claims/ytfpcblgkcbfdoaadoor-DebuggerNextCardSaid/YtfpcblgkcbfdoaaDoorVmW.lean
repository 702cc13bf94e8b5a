/- Several texts in one: Held CloneC VmG VmU. -/
import Derived.Test.YtfpcblgkcbfdoaaDoorZLwEa
import Derived.Test.YtfpcblgkcbfdoaaDoorCpX
import Derived.Test.YtfpcblgkcbfdoaaDoorZPartner
import Derived.Test.YtfpcblgkcbfdoaaDoorVmX
set_option linter.unusedVariables false
set_option linter.unusedSimpArgs false
/- Steps of a region that draws its order, one operation at a time; a VM's value. -/
set_option maxRecDepth 100000
set_option linter.unusedVariables false
namespace Bk
open Go Go.RowKit
/-- A struct is loaded. -/
theorem wp_loadR {P : Program} {o : Oper} {a : Act} {w : World} {K : Act → World → Prop} {Q : Exit → Act → World → Prop} (ty : TypeId) {x : Operand} (ho : o.op = .load ty x) {p : Value} (hx : a.eval x = p) {v : Value} (h : (Instr.loadAt ty p).run P w = .ok v w)
    (hk : K (a.put o.dst v) w) : o.wp P a w K Q := by
  unfold Oper.wp execOp
  simp only [ho, hx, h, Sem.run_bind, Sem.run_pure, Result.andThen_ok]
  exact hk
theorem yields_load {P : Program} {S : World → Prop} {o : Oper} {a : Act} (ty : TypeId) {x : Operand} (ho : o.op = .load ty x) {p : Value} (hx : a.eval x = p) {v : Value} (h : ∀ w, S w → (Instr.loadAt ty p).run P w = .ok v w) : ∀ w, S w → (execOp a.eval o).run P w = .ok (.value v) w := by
  intro w hS
  unfold execOp
  simp only [ho, hx, h w hS, Sem.run_bind, Sem.run_pure, Result.andThen_ok]
theorem list16 {l : List Int} (h : l.length = 16) : ∃ a0 a1 a2 a3 a4 a5 a6 a7 a8 a9 a10 a11 a12 a13 a14 a15, l = [a0, a1, a2, a3, a4, a5, a6, a7, a8, a9, a10, a11, a12, a13, a14, a15] := by
  match l, h with
  | [a0, a1, a2, a3, a4, a5, a6, a7, a8, a9, a10, a11, a12, a13, a14, a15], _ => exact ⟨_, _, _, _, _, _, _, _, _, _, _, _, _, _, _, _, rfl⟩
end Bk
namespace Bk
open Go Go.RowKit
theorem wp_buildR {P : Program} {o : Oper} {a : Act} {w : World} {K : Act → World → Prop} {Q : Exit → Act → World → Prop} (ty : TypeId) {parts : Array (Nat × Operand)} (ho : o.op = .build ty parts) {cells : Array Value}
    {ps : List (Nat × Value)} (hp : parts.toList.map (fun x => (x.1, a.eval x.2)) = ps) (h : P.built ty ps = some cells) (hk : K (a.put o.dst (.agg cells)) w) : o.wp P a w K Q := by
  have h' : P.built ty (parts.map fun (i, x) => (i, a.eval x)).toList = some cells := by
    rw [Array.toList_map]; rw [← hp] at h; exact h
  unfold Oper.wp execOp
  simp only [ho, run_build w ty _ cells h', Sem.run_bind, Sem.run_pure, Result.andThen_ok]
  exact hk
/-- A machine by value is laid amid a block of a struct. -/
theorem MOwn.onP {w : World} {B b : Nat} {t : TypeId} {pre post : List Value} {M : Mach} {vm vs vc vi vo : Value} {sv : List Value} (h : MOwn w B M vm vs vc vi vo sv) (w' : World) (hw : Below w.heap.size w w') (hk : Blk w' b t (pre ++ mcells M vm vs vc vi vo ++ post).toArray) (hb : b < B ∨ w.heap.size ≤ b) :
    ∃ gm gs, B ≤ gm ∧ B ≤ gs ∧ gm < w.heap.size ∧ gs < w.heap.size ∧ MOn w' ⟨b, t, pre, post, pre.length, gm, gs, (· < B)⟩ M vm vs vc vi vo sv := by
  have h' := h.next hw
  obtain ⟨h0, gm, gs, h1, h2, h3, h4, h5, h6, h7, h8⟩ := h
  refine ⟨gm, gs, h1, h2, h3, h4, rfl, h0, hk, h6.keep fun _ => hw.block _ h3, h7.keep fun _ => hw.block _ h4, Nat.lt_of_lt_of_le h3 hw.size, Nat.lt_of_lt_of_le h4 hw.size, fun hn => ⟨by dsimp only; omega, h5 hn⟩, fun _ => by dsimp only; omega, ?_, fun k hk => by have := hw.size; dsimp only at hk; omega⟩
  refine h8.keep (fun b o hd => hw.cell (p := ⟨b, o, none⟩) hd.2.1) fun k hk => ⟨Nat.lt_of_lt_of_le hk.2.1 hw.size, fun ho => ?_⟩
  obtain ⟨k1, k2, k3, k4⟩ := hk
  rcases ho with e | e | e | e <;> dsimp only at e <;> omega
end Bk
namespace Bk
open Go Go.RowKit
/-- A clone is a machine of its own. -/
theorem MOn.own {w : World} {B b gm gs : Nat} {t : TypeId} {pre post : List Value} {off : Nat} {M : Mach} {vm vs vc vi vo : Value} {sv : List Value} (h : MOn w ⟨b, t, pre, post, off, gm, gs, (· < B)⟩ M vm vs vc vi vo sv) (h2 : B ≤ gm) (h3 : B ≤ gs) : MOwn w B M vm vs vc vi vo sv := by
  refine ⟨h.rl, gm, gs, h2, h3, h.gm, h.gs, fun hn => (h.am hn).2, h.m, h.s, h.l.keep (fun _ _ _ => rfl) fun k hk => ?_⟩
  have e := hk.2
  refine ⟨?_, hk.1, fun e' => e (.inr (.inl e')), fun e' => e (.inr (.inr (.inl e')))⟩
  rcases Nat.lt_or_ge k B with hlt | hge
  · exact absurd (.inr (.inr (.inr hlt))) e
  · exact hge
end Bk

/- The walk of slices.Clone at []Instr. -/
set_option maxRecDepth 100000
set_option linter.unusedVariables false
namespace Go.Proofs.YtfpcblgkcbfdoaaDoor
open Go.RowKit Bk

theorem info_insC : (Tryd.prog.info? 38).map (fun i => (i.zero, i.size, i.bytes)) = some (some (.agg #[.int .u8 0, .int .i64 0, .int .i64 0, .int .i64 0, .int .i64 0]), 5, 40) := by kernel_rfl
theorem codeCells_oneC (code : Prg) : ∀ u ∈ codeCells code, u.oneCell' = true := by
  intro u hu
  unfold codeCells at hu
  obtain ⟨x, _, hx⟩ := List.mem_flatMap.1 hu
  simp [insCells] at hx
  rcases hx with rfl | rfl | rfl | rfl | rfl <;> rfl

set_option maxRecDepth 100000 in
set_option maxHeartbeats 2000000 in
theorem CloneC.some_ (ad : Addr) (n cap : Nat) (code : Prg) (w : World) (hmax : n ≤ 65536) (hl : (codeCells code).length = n * 5) (hc : ∀ j u, (codeCells code)[j]? = some u → w.cell? (ad.add j) = some u) :
    Calls Tryd.prog 33 #[.slice (some ad) n cap] w fun e w' => ∃ v, e = .returned v ∧ w'.ownsRow w.heap.size 38 5 v n (codeCells code) ∧ Below w.heap.size w w' := by
  obtain ⟨i2, li, lz, ls, lb⟩ := info_parts info_insC
  have q28 : ∀ (w : World) (a : Option Addr) (n c n' c' : Nat), (binOp .eql 22 (.slice a n c) (.slice none n' c')).run Tryd.prog w = .ok (.bool a.isNone) w := fun w a n c n' c' => Lib.run_eql_slice_nil w _ _ a n c n' c' Tryd.underlying22
  have HC := Lib.hid hc; clear hc
  have HL := Lib.hid hl; clear hl
  go_enter Tryd.func33, Tryd.ntmps33
  go_wp2_with (at_builtin; refine wpList_append_own _ rfl _ _ 22 rfl w.heap.size 38 i2 _ 5 40 Tryd.underlying22 li lz ls lb rfl (by decide) _ _ _ rfl (World.ownsRow_made w #[] 0 (Nat.le_refl _) (Nat.zero_le _) rfl) ad n cap (codeCells code) rfl ?qc1 ?qc2 ?qc3 ?qc4 ?qc5 ?qc6 ?_)
  case qc1 => exact HL.out
  case qc2 =>
    intro j u hj
    have h := HC.out j u hj
    refine Lib.cell?_alloc_some _ h
  case qc3 => exact codeCells_oneC code
  case qc4 => unfold maxLen; omega
  case qc5 => omega
  case qc6 => simp
  intro v' w1 hown hgrow hnil
  go_wp2
  go_ret
  refine ⟨v', rfl, by simpa using hown, ?_⟩
  exact ((Below.refl _ w).alloc (Nat.le_refl _) _).grown hgrow (by simp) (by intro k hk; simp [Value.ownBlock] at hk; omega)

set_option maxRecDepth 100000 in
theorem c_CloneC (A : Option Addr) (n cap : Nat) (code : Prg) (w : World) (hmax : n ≤ 65536) {D : Nat → Prop} (hC : Rd w D 5 A n (codeCells code)) :
    Calls Tryd.prog 33 #[.slice A n cap] w fun e w' => ∃ v, e = .returned v ∧ w'.ownsRow w.heap.size 38 5 v n (codeCells code) ∧ Below w.heap.size w w' := by
  cases A with
  | none =>
    have hn : n = 0 := by
      rcases Nat.eq_zero_or_pos n with h | h
      · exact h
      · obtain ⟨b, off, e, _⟩ := hC.2 h; cases e
    subst hn
    have hcode : code = [] := by
      have := hC.1; rw [codeCells_length] at this
      exact List.eq_nil_of_length_eq_zero (by omega)
    subst hcode
    have q28 : ∀ (w : World) (a : Option Addr) (n c n' c' : Nat), (binOp .eql 22 (.slice a n c) (.slice none n' c')).run Tryd.prog w = .ok (.bool a.isNone) w := fun w a n c n' c' => Lib.run_eql_slice_nil w _ _ a n c n' c' Tryd.underlying22
    clear hC
    go_enter Tryd.func33, Tryd.ntmps33
    go_wp2
    go_ret
    exact ⟨_, rfl, ⟨rfl, .inl ⟨rfl, rfl⟩⟩, Below.refl _ _⟩
  | some ad =>
    refine CloneC.some_ ad n cap code w hmax hC.1 fun j u hu => ?_
    rcases Nat.eq_zero_or_pos n with h | h
    · subst h
      have := hC.1
      have : codeCells code = [] := List.eq_nil_of_length_eq_zero (by omega)
      rw [this] at hu; simp at hu
    · obtain ⟨b, off, e, _, hc⟩ := hC.2 h
      injection e with e
      subst e
      rw [addr_add']
      exact hc j u hu
end Go.Proofs.YtfpcblgkcbfdoaaDoor

/- The walk of backsteplaw25.Great on machines by value. -/
set_option linter.unusedVariables false
namespace Bk
/-- What the laws of layers 25 and 33 consider. -/
structure Sm25 (im : Img) (M : Mach) : Prop where
  c : im.code.length ≤ 60
  me : im.mem ≤ 40
  st : im.stacks ≤ 10
  m : M.m.length ≤ 40
  s : M.s.length ≤ 10
  k : M.calls.length ≤ 100
  i : M.inp.length ≤ 40
  o : M.out.length ≤ 40
  l : ∀ l ∈ M.s, l.length ≤ 20
def great25 (im : Img) (M : Mach) : Bool := decide (60 < im.code.length ∨ 40 < im.mem ∨ 10 < im.stacks ∨ 40 < M.m.length ∨ 10 < M.s.length ∨ 100 < M.calls.length ∨ 40 < M.inp.length ∨ 40 < M.out.length) || M.s.any (fun l => decide (20 < l.length))
theorem Sm25.of {im : Img} {M : Mach} (h : great25 im M = false) : Sm25 im M := by
  unfold great25 at h
  simp only [Bool.or_eq_false_iff, decide_eq_false_iff_not, List.any_eq_false, decide_eq_true_eq] at h
  obtain ⟨h, hl⟩ := h
  exact ⟨by omega, by omega, by omega, by omega, by omega, by omega, by omega, by omega, fun l hl' => by have := hl l hl'; omega⟩
end Bk
namespace Go.Proofs.YtfpcblgkcbfdoaaDoor
open Go.RowKit Bk
set_option maxRecDepth 100000 in
theorem great25_0 {w : World} {D : Nat → Prop} {M : Mach} {vm vs vc vi vo : Value} {sv : List Value} (hL : MLs w D M vm vs vc vi vo sv) (A : Option Addr) (n cap : Nat) (im : Img) (t0 : decide (60 < (n : Int)) = true) :
    Calls Tryd.prog 17 #[.agg #[.slice A n cap, .int .i64 im.mem, .int .i64 im.stacks], .agg (mcells M vm vs vc vi vo).toArray] w fun e w' => e = .returned (.int .i64 1) ∧ Below w.heap.size w w' := by
  obtain ⟨Am, cm, rfl, _⟩ := hL.m; obtain ⟨Av, cv, rfl, _⟩ := hL.s; obtain ⟨Ac, cc, rfl, _⟩ := hL.l.2.1; obtain ⟨Ai, ci, rfl, _⟩ := hL.l.2.2.1; obtain ⟨Ao, co, rfl, _⟩ := hL.l.2.2.2
  obtain ⟨g0, g1, gr, g18, g19, g20, g21, g22, g23, g24, glen⟩ := mc_get (M := M) (vm := .slice Am M.m.length cm) (vs := .slice Av M.s.length cv) (vc := .slice Ac M.calls.length cc) (vi := .slice Ai M.inp.length ci) (vo := .slice Ao M.out.length co) hL.rl
  clear glen gr
  clear hL
  go_enter Tryd.func17, Tryd.ntmps17
  go_wp2_with fail
  go_ret
  exact ⟨rfl, by repeat' (first | (with_reducible assumption) | (with_reducible exact Below.refl _ _) | (with_reducible refine Below.alloc ?_ ?_ _) | (with_reducible refine Bk.drewN_ ?_ _) | (with_reducible refine Below.drew ?_) | (with_reducible refine Below.setCell ?_ ?_ _) | go_size)⟩
set_option maxRecDepth 100000 in
theorem great25_1 {w : World} {D : Nat → Prop} {M : Mach} {vm vs vc vi vo : Value} {sv : List Value} (hL : MLs w D M vm vs vc vi vo sv) (A : Option Addr) (n cap : Nat) (im : Img) (t0 : decide (60 < (n : Int)) = false) (t1 : decide (40 < im.mem) = true) :
    Calls Tryd.prog 17 #[.agg #[.slice A n cap, .int .i64 im.mem, .int .i64 im.stacks], .agg (mcells M vm vs vc vi vo).toArray] w fun e w' => e = .returned (.int .i64 1) ∧ Below w.heap.size w w' := by
  obtain ⟨Am, cm, rfl, _⟩ := hL.m; obtain ⟨Av, cv, rfl, _⟩ := hL.s; obtain ⟨Ac, cc, rfl, _⟩ := hL.l.2.1; obtain ⟨Ai, ci, rfl, _⟩ := hL.l.2.2.1; obtain ⟨Ao, co, rfl, _⟩ := hL.l.2.2.2
  obtain ⟨g0, g1, gr, g18, g19, g20, g21, g22, g23, g24, glen⟩ := mc_get (M := M) (vm := .slice Am M.m.length cm) (vs := .slice Av M.s.length cv) (vc := .slice Ac M.calls.length cc) (vi := .slice Ai M.inp.length ci) (vo := .slice Ao M.out.length co) hL.rl
  clear glen gr
  clear hL
  go_enter Tryd.func17, Tryd.ntmps17
  go_wp2_with fail
  go_ret
  exact ⟨rfl, by repeat' (first | (with_reducible assumption) | (with_reducible exact Below.refl _ _) | (with_reducible refine Below.alloc ?_ ?_ _) | (with_reducible refine Bk.drewN_ ?_ _) | (with_reducible refine Below.drew ?_) | (with_reducible refine Below.setCell ?_ ?_ _) | go_size)⟩
set_option maxRecDepth 100000 in
theorem great25_2 {w : World} {D : Nat → Prop} {M : Mach} {vm vs vc vi vo : Value} {sv : List Value} (hL : MLs w D M vm vs vc vi vo sv) (A : Option Addr) (n cap : Nat) (im : Img) (t0 : decide (60 < (n : Int)) = false) (t1 : decide (40 < im.mem) = false) (t2 : decide (10 < im.stacks) = true) :
    Calls Tryd.prog 17 #[.agg #[.slice A n cap, .int .i64 im.mem, .int .i64 im.stacks], .agg (mcells M vm vs vc vi vo).toArray] w fun e w' => e = .returned (.int .i64 1) ∧ Below w.heap.size w w' := by
  obtain ⟨Am, cm, rfl, _⟩ := hL.m; obtain ⟨Av, cv, rfl, _⟩ := hL.s; obtain ⟨Ac, cc, rfl, _⟩ := hL.l.2.1; obtain ⟨Ai, ci, rfl, _⟩ := hL.l.2.2.1; obtain ⟨Ao, co, rfl, _⟩ := hL.l.2.2.2
  obtain ⟨g0, g1, gr, g18, g19, g20, g21, g22, g23, g24, glen⟩ := mc_get (M := M) (vm := .slice Am M.m.length cm) (vs := .slice Av M.s.length cv) (vc := .slice Ac M.calls.length cc) (vi := .slice Ai M.inp.length ci) (vo := .slice Ao M.out.length co) hL.rl
  clear glen gr
  clear hL
  go_enter Tryd.func17, Tryd.ntmps17
  go_wp2_with fail
  go_ret
  exact ⟨rfl, by repeat' (first | (with_reducible assumption) | (with_reducible exact Below.refl _ _) | (with_reducible refine Below.alloc ?_ ?_ _) | (with_reducible refine Bk.drewN_ ?_ _) | (with_reducible refine Below.drew ?_) | (with_reducible refine Below.setCell ?_ ?_ _) | go_size)⟩
set_option maxRecDepth 100000 in
theorem great25_3 {w : World} {D : Nat → Prop} {M : Mach} {vm vs vc vi vo : Value} {sv : List Value} (hL : MLs w D M vm vs vc vi vo sv) (A : Option Addr) (n cap : Nat) (im : Img) (t0 : decide (60 < (n : Int)) = false) (t1 : decide (40 < im.mem) = false) (t2 : decide (10 < im.stacks) = false) (t3 : decide (40 < (M.m.length : Int)) = true) :
    Calls Tryd.prog 17 #[.agg #[.slice A n cap, .int .i64 im.mem, .int .i64 im.stacks], .agg (mcells M vm vs vc vi vo).toArray] w fun e w' => e = .returned (.int .i64 1) ∧ Below w.heap.size w w' := by
  obtain ⟨Am, cm, rfl, _⟩ := hL.m; obtain ⟨Av, cv, rfl, _⟩ := hL.s; obtain ⟨Ac, cc, rfl, _⟩ := hL.l.2.1; obtain ⟨Ai, ci, rfl, _⟩ := hL.l.2.2.1; obtain ⟨Ao, co, rfl, _⟩ := hL.l.2.2.2
  obtain ⟨g0, g1, gr, g18, g19, g20, g21, g22, g23, g24, glen⟩ := mc_get (M := M) (vm := .slice Am M.m.length cm) (vs := .slice Av M.s.length cv) (vc := .slice Ac M.calls.length cc) (vi := .slice Ai M.inp.length ci) (vo := .slice Ao M.out.length co) hL.rl
  clear glen gr
  clear hL
  go_enter Tryd.func17, Tryd.ntmps17
  go_wp2_with fail
  go_ret
  exact ⟨rfl, by repeat' (first | (with_reducible assumption) | (with_reducible exact Below.refl _ _) | (with_reducible refine Below.alloc ?_ ?_ _) | (with_reducible refine Bk.drewN_ ?_ _) | (with_reducible refine Below.drew ?_) | (with_reducible refine Below.setCell ?_ ?_ _) | go_size)⟩
set_option maxRecDepth 100000 in
theorem great25_4 {w : World} {D : Nat → Prop} {M : Mach} {vm vs vc vi vo : Value} {sv : List Value} (hL : MLs w D M vm vs vc vi vo sv) (A : Option Addr) (n cap : Nat) (im : Img) (t0 : decide (60 < (n : Int)) = false) (t1 : decide (40 < im.mem) = false) (t2 : decide (10 < im.stacks) = false) (t3 : decide (40 < (M.m.length : Int)) = false) (t4 : decide (10 < (M.s.length : Int)) = true) :
    Calls Tryd.prog 17 #[.agg #[.slice A n cap, .int .i64 im.mem, .int .i64 im.stacks], .agg (mcells M vm vs vc vi vo).toArray] w fun e w' => e = .returned (.int .i64 1) ∧ Below w.heap.size w w' := by
  obtain ⟨Am, cm, rfl, _⟩ := hL.m; obtain ⟨Av, cv, rfl, _⟩ := hL.s; obtain ⟨Ac, cc, rfl, _⟩ := hL.l.2.1; obtain ⟨Ai, ci, rfl, _⟩ := hL.l.2.2.1; obtain ⟨Ao, co, rfl, _⟩ := hL.l.2.2.2
  obtain ⟨g0, g1, gr, g18, g19, g20, g21, g22, g23, g24, glen⟩ := mc_get (M := M) (vm := .slice Am M.m.length cm) (vs := .slice Av M.s.length cv) (vc := .slice Ac M.calls.length cc) (vi := .slice Ai M.inp.length ci) (vo := .slice Ao M.out.length co) hL.rl
  clear glen gr
  clear hL
  go_enter Tryd.func17, Tryd.ntmps17
  go_wp2_with fail
  go_ret
  exact ⟨rfl, by repeat' (first | (with_reducible assumption) | (with_reducible exact Below.refl _ _) | (with_reducible refine Below.alloc ?_ ?_ _) | (with_reducible refine Bk.drewN_ ?_ _) | (with_reducible refine Below.drew ?_) | (with_reducible refine Below.setCell ?_ ?_ _) | go_size)⟩
set_option maxRecDepth 100000 in
theorem great25_5 {w : World} {D : Nat → Prop} {M : Mach} {vm vs vc vi vo : Value} {sv : List Value} (hL : MLs w D M vm vs vc vi vo sv) (A : Option Addr) (n cap : Nat) (im : Img) (t0 : decide (60 < (n : Int)) = false) (t1 : decide (40 < im.mem) = false) (t2 : decide (10 < im.stacks) = false) (t3 : decide (40 < (M.m.length : Int)) = false) (t4 : decide (10 < (M.s.length : Int)) = false) (t5 : decide (100 < (M.calls.length : Int)) = true) :
    Calls Tryd.prog 17 #[.agg #[.slice A n cap, .int .i64 im.mem, .int .i64 im.stacks], .agg (mcells M vm vs vc vi vo).toArray] w fun e w' => e = .returned (.int .i64 1) ∧ Below w.heap.size w w' := by
  obtain ⟨Am, cm, rfl, _⟩ := hL.m; obtain ⟨Av, cv, rfl, _⟩ := hL.s; obtain ⟨Ac, cc, rfl, _⟩ := hL.l.2.1; obtain ⟨Ai, ci, rfl, _⟩ := hL.l.2.2.1; obtain ⟨Ao, co, rfl, _⟩ := hL.l.2.2.2
  obtain ⟨g0, g1, gr, g18, g19, g20, g21, g22, g23, g24, glen⟩ := mc_get (M := M) (vm := .slice Am M.m.length cm) (vs := .slice Av M.s.length cv) (vc := .slice Ac M.calls.length cc) (vi := .slice Ai M.inp.length ci) (vo := .slice Ao M.out.length co) hL.rl
  clear glen gr
  clear hL
  go_enter Tryd.func17, Tryd.ntmps17
  go_wp2_with fail
  go_ret
  exact ⟨rfl, by repeat' (first | (with_reducible assumption) | (with_reducible exact Below.refl _ _) | (with_reducible refine Below.alloc ?_ ?_ _) | (with_reducible refine Bk.drewN_ ?_ _) | (with_reducible refine Below.drew ?_) | (with_reducible refine Below.setCell ?_ ?_ _) | go_size)⟩
set_option maxRecDepth 100000 in
theorem great25_6 {w : World} {D : Nat → Prop} {M : Mach} {vm vs vc vi vo : Value} {sv : List Value} (hL : MLs w D M vm vs vc vi vo sv) (A : Option Addr) (n cap : Nat) (im : Img) (t0 : decide (60 < (n : Int)) = false) (t1 : decide (40 < im.mem) = false) (t2 : decide (10 < im.stacks) = false) (t3 : decide (40 < (M.m.length : Int)) = false) (t4 : decide (10 < (M.s.length : Int)) = false) (t5 : decide (100 < (M.calls.length : Int)) = false) (t6 : decide (40 < (M.inp.length : Int)) = true) :
    Calls Tryd.prog 17 #[.agg #[.slice A n cap, .int .i64 im.mem, .int .i64 im.stacks], .agg (mcells M vm vs vc vi vo).toArray] w fun e w' => e = .returned (.int .i64 1) ∧ Below w.heap.size w w' := by
  obtain ⟨Am, cm, rfl, _⟩ := hL.m; obtain ⟨Av, cv, rfl, _⟩ := hL.s; obtain ⟨Ac, cc, rfl, _⟩ := hL.l.2.1; obtain ⟨Ai, ci, rfl, _⟩ := hL.l.2.2.1; obtain ⟨Ao, co, rfl, _⟩ := hL.l.2.2.2
  obtain ⟨g0, g1, gr, g18, g19, g20, g21, g22, g23, g24, glen⟩ := mc_get (M := M) (vm := .slice Am M.m.length cm) (vs := .slice Av M.s.length cv) (vc := .slice Ac M.calls.length cc) (vi := .slice Ai M.inp.length ci) (vo := .slice Ao M.out.length co) hL.rl
  clear glen gr
  clear hL
  go_enter Tryd.func17, Tryd.ntmps17
  go_wp2_with fail
  go_ret
  exact ⟨rfl, by repeat' (first | (with_reducible assumption) | (with_reducible exact Below.refl _ _) | (with_reducible refine Below.alloc ?_ ?_ _) | (with_reducible refine Bk.drewN_ ?_ _) | (with_reducible refine Below.drew ?_) | (with_reducible refine Below.setCell ?_ ?_ _) | go_size)⟩
set_option maxRecDepth 100000 in
theorem great25_7 {w : World} {D : Nat → Prop} {M : Mach} {vm vs vc vi vo : Value} {sv : List Value} (hL : MLs w D M vm vs vc vi vo sv) (A : Option Addr) (n cap : Nat) (im : Img) (t0 : decide (60 < (n : Int)) = false) (t1 : decide (40 < im.mem) = false) (t2 : decide (10 < im.stacks) = false) (t3 : decide (40 < (M.m.length : Int)) = false) (t4 : decide (10 < (M.s.length : Int)) = false) (t5 : decide (100 < (M.calls.length : Int)) = false) (t6 : decide (40 < (M.inp.length : Int)) = false) (t7 : decide (40 < (M.out.length : Int)) = true) :
    Calls Tryd.prog 17 #[.agg #[.slice A n cap, .int .i64 im.mem, .int .i64 im.stacks], .agg (mcells M vm vs vc vi vo).toArray] w fun e w' => e = .returned (.int .i64 1) ∧ Below w.heap.size w w' := by
  obtain ⟨Am, cm, rfl, _⟩ := hL.m; obtain ⟨Av, cv, rfl, _⟩ := hL.s; obtain ⟨Ac, cc, rfl, _⟩ := hL.l.2.1; obtain ⟨Ai, ci, rfl, _⟩ := hL.l.2.2.1; obtain ⟨Ao, co, rfl, _⟩ := hL.l.2.2.2
  obtain ⟨g0, g1, gr, g18, g19, g20, g21, g22, g23, g24, glen⟩ := mc_get (M := M) (vm := .slice Am M.m.length cm) (vs := .slice Av M.s.length cv) (vc := .slice Ac M.calls.length cc) (vi := .slice Ai M.inp.length ci) (vo := .slice Ao M.out.length co) hL.rl
  clear glen gr
  clear hL
  go_enter Tryd.func17, Tryd.ntmps17
  go_wp2_with fail
  go_ret
  exact ⟨rfl, by repeat' (first | (with_reducible assumption) | (with_reducible exact Below.refl _ _) | (with_reducible refine Below.alloc ?_ ?_ _) | (with_reducible refine Bk.drewN_ ?_ _) | (with_reducible refine Below.drew ?_) | (with_reducible refine Below.setCell ?_ ?_ _) | go_size)⟩
set_option maxRecDepth 100000 in
set_option maxHeartbeats 4000000 in
theorem great25_loop {w : World} {D : Nat → Prop} {M : Mach} {vm vs vc vi vo : Value} {sv : List Value} (hL : MLs w D M vm vs vc vi vo sv) (A : Option Addr) (n cap : Nat) (im : Img) (t0 : decide (60 < (n : Int)) = false) (t1 : decide (40 < im.mem) = false) (t2 : decide (10 < im.stacks) = false) (t3 : decide (40 < (M.m.length : Int)) = false) (t4 : decide (10 < (M.s.length : Int)) = false) (t5 : decide (100 < (M.calls.length : Int)) = false) (t6 : decide (40 < (M.inp.length : Int)) = false) (t7 : decide (40 < (M.out.length : Int)) = false) (hl : ∀ l ∈ M.s, l.length ≤ 17592186043904) :
    Calls Tryd.prog 17 #[.agg #[.slice A n cap, .int .i64 im.mem, .int .i64 im.stacks], .agg (mcells M vm vs vc vi vo).toArray] w fun e w' => ((M.s.any (fun l => decide (20 < l.length)) = true ∧ e = .returned (.int .i64 1)) ∨ (M.s.any (fun l => decide (20 < l.length)) = false ∧ e = .returned (.int .i64 0))) ∧ Below w.heap.size w w' := by
  have HL := Lib.hid hL; have HLL := Lib.hid hl
  generalize hr : M.s.any (fun l => decide (20 < l.length)) = r
  have HRR := Lib.hid hr
  clear hr
  obtain ⟨Am, cm, rfl, _⟩ := hL.m; obtain ⟨Av, cv, rfl, _⟩ := hL.s; obtain ⟨Ac, cc, rfl, _⟩ := hL.l.2.1; obtain ⟨Ai, ci, rfl, _⟩ := hL.l.2.2.1; obtain ⟨Ao, co, rfl, _⟩ := hL.l.2.2.2
  obtain ⟨g0, g1, gr, g18, g19, g20, g21, g22, g23, g24, glen⟩ := mc_get (M := M) (vm := .slice Am M.m.length cm) (vs := .slice Av M.s.length cv) (vc := .slice Ac M.calls.length cc) (vi := .slice Ai M.inp.length ci) (vo := .slice Ao M.out.length co) hL.rl
  clear glen gr
  have hms : M.s.length ≤ 10 := by simp at t4; omega
  clear hL hl
  go_enter Tryd.func17, Tryd.ntmps17
  go_wp2_with fail
  refine wp_nameY ?_
  intro w2 hw2
  have hB2 : Below w.heap.size w w2 := by rw [hw2]; exact (by repeat' (first | (with_reducible assumption) | (with_reducible exact Below.refl _ _) | (with_reducible refine Below.alloc ?_ ?_ _) | (with_reducible refine Bk.drewN_ ?_ _) | (with_reducible refine Below.drew ?_) | (with_reducible refine Below.setCell ?_ ?_ _) | go_size))
  clear hw2
  go_loopw [54] (fun v5 wr => ∃ j : Nat, j ≤ M.s.length ∧ v5 = .int .i64 j ∧ (∀ k, k < j → (M.s.getD k []).length ≤ 20) ∧ w2 = wr) (fun v _ => M.s.length - (intOf v).toNat)
  case atStart => exact ⟨0, Nat.zero_le _, rfl, fun k hk => absurd hk (Nat.not_lt_zero _), rfl⟩
  case round =>
    obtain ⟨j, hj, rfl, hz, rfl⟩ := hrel
    have HZ := Lib.hid hz; clear hz
    by_cases hlt : j < M.s.length
    · have hL2 := HL.out.next hB2
      obtain ⟨_, _, ev, _, _, hR⟩ := hL2.s
      injection ev with ev _ _
      subst ev
      obtain ⟨bs, os, rfl, hds, hcell⟩ := hR.2 (by omega)
      obtain ⟨u, hu, A1, c1, rfl, _⟩ := hL2.l.1.2 j hlt
      have ec := hcell j _ hu
      have hle := HLL.out _ (getD_mem hlt)
      obtain ⟨lj, hlj⟩ : ∃ lj, lj = (M.s.getD j []).length := ⟨_, rfl⟩
      rw [← hlj] at ec hle
      have HLJ := Lib.hid hlj
      have j0 : (0 : Int) ≤ (j : Int) := by omega
      have j1 : (j : Int) < (M.s.length : Int) := by omega
      have HLE := Lib.hid hle
      clear hL2 hR hcell hu hle hlj
      by_cases h20 : 20 < lj
      · have h20' : (20 : Int) < (lj : Int) := by omega
        go_wp2_with fail
        go_ret
        refine ⟨.inl ⟨by rw [← HRR.out]; exact List.any_eq_true.2 ⟨_, getD_mem hlt, by rw [← HLJ.out]; simpa using h20⟩, rfl⟩, hB2⟩
      · have h20' : ¬ (20 : Int) < (lj : Int) := by omega
        go_wp2_with fail
        exact ⟨⟨j + 1, by omega, by go_num, fun k hk => (Nat.lt_succ_iff_lt_or_eq.1 hk).elim (HZ.out k) (fun e => by subst e; rw [← HLJ.out]; omega), trivial⟩, by simp [intOf]; omega⟩
    · obtain rfl : j = M.s.length := by omega
      go_wp2_with fail
      go_ret
      refine ⟨.inr ⟨?_, rfl⟩, hB2⟩
      rw [← HRR.out, List.any_eq_false]
      intro l hl
      obtain ⟨k, hk, rfl⟩ := List.mem_iff_getElem.1 hl
      have := HZ.out k hk
      rw [List.getD_eq_getElem?_getD, List.getElem?_eq_getElem hk] at this
      simpa using this
theorem great25_any {w : World} {D : Nat → Prop} {M : Mach} {vm vs vc vi vo : Value} {sv : List Value} (hL : MLs w D M vm vs vc vi vo sv) (A : Option Addr) (n cap : Nat) (im : Img) (hn : n = im.code.length) (hl : ∀ l ∈ M.s, l.length ≤ 17592186043904) :
    Calls Tryd.prog 17 #[.agg #[.slice A n cap, .int .i64 im.mem, .int .i64 im.stacks], .agg (mcells M vm vs vc vi vo).toArray] w fun e w' => ((great25 im M = true ∧ e = .returned (.int .i64 1)) ∨ (great25 im M = false ∧ e = .returned (.int .i64 0))) ∧ Below w.heap.size w w' := by
  subst hn
  by_cases h0 : (60 : Int) < (im.code.length : Int)
  · refine (great25_0 hL A _ cap im (by simpa using h0)).mono fun e w1 he => ⟨.inl ⟨by unfold great25; simp only [Bool.or_eq_true, decide_eq_true_eq]; exact .inl (by omega), he.1⟩, he.2⟩
  by_cases h1 : (40 : Int) < im.mem
  · refine (great25_1 hL A _ cap im (by simpa using h0) (by simpa using h1)).mono fun e w1 he => ⟨.inl ⟨by unfold great25; simp only [Bool.or_eq_true, decide_eq_true_eq]; exact .inl (by omega), he.1⟩, he.2⟩
  by_cases h2 : (10 : Int) < im.stacks
  · refine (great25_2 hL A _ cap im (by simpa using h0) (by simpa using h1) (by simpa using h2)).mono fun e w1 he => ⟨.inl ⟨by unfold great25; simp only [Bool.or_eq_true, decide_eq_true_eq]; exact .inl (by omega), he.1⟩, he.2⟩
  by_cases h3 : (40 : Int) < (M.m.length : Int)
  · refine (great25_3 hL A _ cap im (by simpa using h0) (by simpa using h1) (by simpa using h2) (by simpa using h3)).mono fun e w1 he => ⟨.inl ⟨by unfold great25; simp only [Bool.or_eq_true, decide_eq_true_eq]; exact .inl (by omega), he.1⟩, he.2⟩
  by_cases h4 : (10 : Int) < (M.s.length : Int)
  · refine (great25_4 hL A _ cap im (by simpa using h0) (by simpa using h1) (by simpa using h2) (by simpa using h3) (by simpa using h4)).mono fun e w1 he => ⟨.inl ⟨by unfold great25; simp only [Bool.or_eq_true, decide_eq_true_eq]; exact .inl (by omega), he.1⟩, he.2⟩
  by_cases h5 : (100 : Int) < (M.calls.length : Int)
  · refine (great25_5 hL A _ cap im (by simpa using h0) (by simpa using h1) (by simpa using h2) (by simpa using h3) (by simpa using h4) (by simpa using h5)).mono fun e w1 he => ⟨.inl ⟨by unfold great25; simp only [Bool.or_eq_true, decide_eq_true_eq]; exact .inl (by omega), he.1⟩, he.2⟩
  by_cases h6 : (40 : Int) < (M.inp.length : Int)
  · refine (great25_6 hL A _ cap im (by simpa using h0) (by simpa using h1) (by simpa using h2) (by simpa using h3) (by simpa using h4) (by simpa using h5) (by simpa using h6)).mono fun e w1 he => ⟨.inl ⟨by unfold great25; simp only [Bool.or_eq_true, decide_eq_true_eq]; exact .inl (by omega), he.1⟩, he.2⟩
  by_cases h7 : (40 : Int) < (M.out.length : Int)
  · refine (great25_7 hL A _ cap im (by simpa using h0) (by simpa using h1) (by simpa using h2) (by simpa using h3) (by simpa using h4) (by simpa using h5) (by simpa using h6) (by simpa using h7)).mono fun e w1 he => ⟨.inl ⟨by unfold great25; simp only [Bool.or_eq_true, decide_eq_true_eq]; exact .inl (by omega), he.1⟩, he.2⟩
  refine (great25_loop hL A _ cap im (by simpa using h0) (by simpa using h1) (by simpa using h2) (by simpa using h3) (by simpa using h4) (by simpa using h5) (by simpa using h6) (by simpa using h7) hl).mono fun e w1 he => ⟨he.1.elim (fun h => .inl ⟨?_, h.2⟩) (fun h => .inr ⟨?_, h.2⟩), he.2⟩
  · unfold great25; rw [h.1, Bool.or_true]
  · unfold great25; rw [h.1, Bool.or_false, decide_eq_false_iff_not]; omega
theorem c_Great25T {w : World} {D : Nat → Prop} {M : Mach} {vm vs vc vi vo : Value} {sv : List Value} (hL : MLs w D M vm vs vc vi vo sv) (A : Option Addr) (n cap : Nat) (im : Img) (hn : n = im.code.length) (hl : ∀ l ∈ M.s, l.length ≤ 17592186043904) (hv : great25 im M = true) :
    Calls Tryd.prog 17 #[.agg #[.slice A n cap, .int .i64 im.mem, .int .i64 im.stacks], .agg (mcells M vm vs vc vi vo).toArray] w fun e w' => e = .returned (.int .i64 1) ∧ Below w.heap.size w w' :=
  (great25_any hL A n cap im hn hl).mono fun e w1 he => ⟨he.1.elim (fun h => h.2) (fun h => by rw [hv] at h; cases h.1), he.2⟩
theorem c_Great25F {w : World} {D : Nat → Prop} {M : Mach} {vm vs vc vi vo : Value} {sv : List Value} (hL : MLs w D M vm vs vc vi vo sv) (A : Option Addr) (n cap : Nat) (im : Img) (hn : n = im.code.length) (hl : ∀ l ∈ M.s, l.length ≤ 17592186043904) (hv : great25 im M = false) :
    Calls Tryd.prog 17 #[.agg #[.slice A n cap, .int .i64 im.mem, .int .i64 im.stacks], .agg (mcells M vm vs vc vi vo).toArray] w fun e w' => e = .returned (.int .i64 0) ∧ Below w.heap.size w w' :=
  (great25_any hL A n cap im hn hl).mono fun e w1 he => ⟨he.1.elim (fun h => by rw [hv] at h; cases h.1) (fun h => h.2), he.2⟩
end Go.Proofs.YtfpcblgkcbfdoaaDoor

/- Facts that the laws of layers 25 and 33 share. -/
set_option maxRecDepth 100000
set_option linter.unusedVariables false
namespace Bk
theorem Sm25.sb {im : Img} {M : Mach} (h : Sm25 im M) : SB 20 M := h.l
theorem VEnv.sm {im : Img} {M : Mach} (hs : Sm25 im M) (hck : im.check.2 = 0) (hw : CodeWf im.code) (hwf : MWf M) (hf : fitsB im M = true) {J : Nat} (hJ : J ≤ 999980) : VEnv im M J :=
  VEnv.of hck hw (Fit.of hwf hf) hs.sb (by omega)
end Bk
namespace Go.Proofs.YtfpcblgkcbfdoaaDoor
open Go.RowKit Bk
theorem Env.oldV {w w' : World} {P : Pl} {A : Option Addr} {n : Nat} {code : Prg} (hC : Rd w (· < w.heap.size) 5 A n (codeCells code)) (hw : CodeWf code) (hT : TableAt w) (hl : code.length ≤ 65536) (hB : Below w.heap.size w w') (hO : ∀ k, k < w.heap.size → ¬ P.O k) : Env w' P A n code :=
  ⟨(hC.keep fun b o hd => hB.cell (p := ⟨b, o, none⟩) hd).mono fun k hk => ⟨Nat.lt_of_lt_of_le hk hB.size, hO k hk⟩, hw, hT.next hB, hO _ hT.lt, hl⟩
theorem _root_.Bk.MAt.rdV {w : World} {P : Pl} {M : Mach} (h : MAt w P M) : ∃ vm vs vc vi vo sv, MRd w (· < w.heap.size) P.b P.off M vm vs vc vi vo sv := by
  obtain ⟨vm, vs, vc, vi, vo, sv, h⟩ := h; exact ⟨_, _, _, _, _, _, h.rd⟩
theorem MLs.up {w w' : World} {M : Mach} {vm vs vc vi vo : Value} {sv : List Value} (h : MLs w (· < w.heap.size) M vm vs vc vi vo sv) (hb : Below w.heap.size w w') : MLs w' (· < w'.heap.size) M vm vs vc vi vo sv :=
  h.keep (fun b o hd => hb.cell (p := ⟨b, o, none⟩) hd) (fun k hk => Nat.lt_of_lt_of_le hk hb.size) fun _ h => h
theorem Rd.upL {w w' : World} {A : Option Addr} {n sz : Nat} {xs : List Value} (h : Rd w (· < w.heap.size) sz A n xs) (hb : Below w.heap.size w w') : Rd w' (· < w'.heap.size) sz A n xs :=
  (h.keep (fun b o hd => hb.cell (p := ⟨b, o, none⟩) hd)).mono (fun k hk => Nat.lt_of_lt_of_le hk hb.size)
end Go.Proofs.YtfpcblgkcbfdoaaDoor
