/-
PeepholeKeeps: all control instructions are kept in their order, an image that is not valid is not optimized, and an image is not changed; the law returns true and changes nothing.
Conditions: the package variable isa.table reads as the program's text lays it (the card ties it to the text).
-/
import Derived.Test.YtfobnkgfbdmakaaDoorLawL
import Derived.Test.YtfobnkgfbdmakaaDoorLaid
import Derived.Test.YtfobnkgfbdmakaaDoorOpenB
set_option linter.unusedVariables false
namespace Go.Proofs.YtfobnkgfbdmakaaDoor
open Go.RowKit Go.ChangeShapes Go.WideShapes Go.ChangeAt Bk
namespace LawKeeps

theorem contract (H : Type) (enc : TypeId × Value → H) (W : World) (base : Nat) (args : Array Value) (ds gs : List (DataW H)) (before : List MemPlace)
    (hval : ∀ (j : Nat) t v, Tryd.f7.params[j]? = some t → args[j]? = some v → Value.okWide Tryd.prog W .any base t v)
    (hW : DataW.Whole enc Tryd.prog Tryd.f7.params.toList Rows.peepholeKeepsSpec.vars false W args.toList ds gs before) (hL : laidMetH Tryd.prog Rows.peepholeKeepsRow.laid W) :
    Calls Tryd.prog 7 args W fun e W' => ∃ v, e = .returned v ∧ Rows.peepholeKeepsSpec.post enc Tryd.prog Tryd.f7 false true false false W args v W' := by
  have hW' := hW
  obtain ⟨p, q, hA0, hV, rfl, hfz, hnd⟩ := hW
  have hA : DataW.TrodAll enc Tryd.prog W 0 (fun _ => true) true Tryd.f7.params.toList args.toList ds p := hA0
  have hA1 := hA
  rw [Tryd.params7] at hA1 hval
  obtain ⟨v0, vs0, d0, ds0, p0, q0, hargs0, rfl, rfl, h0, r0⟩ := trodAll_cons hA1
  obtain ⟨rfl, rfl, rfl⟩ := trodAll_nil r0
  obtain rfl : args = #[v0] := by cases args; simp_all
  obtain ⟨rfl, rfl⟩ := trodVars_none hV
  obtain ⟨A0, n0, cap0, im0, rfl, hw0, hC0, hnil0⟩ := open_imgN (hval 0 _ v0 rfl rfl) h0
  refine (c_lawKeeps A0 n0 cap0 im0 W hnil0 hC0 hw0 (table_of hL)).mono fun e W' ⟨he, hb⟩ => ?_
  subst he
  have hread : ∀ t ∈ Tryd.f7.params.toList, Tryd.prog.readableRec t = true ∧ t < Tryd.prog.types.size := by
    rw [Tryd.params7]
    intro t ht
    simp only [List.mem_cons, List.mem_nil_iff, or_false] at ht
    first
      | (subst ht; exact ⟨by kernel_rfl, of_decide_eq_true (by kernel_rfl)⟩)
      | (rcases ht with rfl | rfl | rfl <;> exact ⟨by kernel_rfl, of_decide_eq_true (by kernel_rfl)⟩)
      | (rcases ht with rfl | rfl <;> exact ⟨by kernel_rfl, of_decide_eq_true (by kernel_rfl)⟩)
  exact ⟨_, rfl, law_post hW' hA hread rfl rfl (by simp) rfl rfl hb⟩

theorem laid_met (os : Os) : laidMet Tryd.prog Rows.peepholeKeepsRow.laid ((laidWorld os).forCall (fun _ _ => 0) ⟨#[], #[.agg #[.slice none 0 0, .int .i64 0, .int .i64 0]], []⟩).memory :=
  laidMet_of_run' 8 (by kernel_rfl) (by kernel_rfl)
theorem reads (os : Os) {H : Type} (enc : TypeId × Value → H) : ∃ ds places, DataW.whole enc Tryd.prog ((laidWorld os).forCall (fun _ _ => 0) ⟨#[], #[.agg #[.slice none 0 0, .int .i64 0, .int .i64 0]], []⟩).memory Tryd.f7.params.toList Rows.peepholeKeepsSpec.vars false #[Value.agg #[.slice none 0 0, .int .i64 0, .int .i64 0]].toList 8 = some (ds, [], places) :=
  ⟨[.agg [.nil, .lit (.int .i64 0), .lit (.int .i64 0)]], [], by kernel_rfl⟩

set_option maxRecDepth 100000 in
theorem lifted (os : Os) (started : os.Started) (H : Type) (enc : TypeId × Value → H) (F : Stop.Interp) :
    ReturnsInHanded {} Tryd.checked os 7 .any ((OpenSpec.ofChange Rows.peepholeKeepsSpec).preRow enc Tryd.prog Tryd.f7 Rows.peepholeKeepsRow.domain false Rows.peepholeKeepsRow.laid) (((OpenSpec.ofChange Rows.peepholeKeepsSpec).at F).post enc Tryd.prog Tryd.f7 false true false false) := by
  obtain ⟨ds, places, hx⟩ := reads os enc
  refine returnsInHanded_of_row (C := Tryd.checked) (s := OpenSpec.ofChange Rows.peepholeKeepsSpec) own_knob started (by kernel_rfl) Tryd.func7
    (witness_row_at (enc := enc) (C := Tryd.checked) false (laidWorld os) #[.agg #[.slice none 0 0, .int .i64 0, .int .i64 0]] rfl (by kernel_rfl) (by kernel_rfl) (by kernel_rfl)
      (OpenSpec.preRow_of_cond 8 hx (by kernel_rfl) (fun k hk => by cases hk) (by kernel_rfl) (laid_met os))) ?_
  intro W base args ds gs before hval hW _ _ _ hL _ _
  exact contract H enc W base args ds gs before hval hW hL

theorem said : Rows.PeepholeKeepsSaid :=
  OpenClaim.holds_of_cond 7 Tryd.f7 rfl rfl rfl rfl rfl rfl rfl ⟨rfl, rfl, rfl, rfl, rfl⟩ rfl rfl rfl rfl rfl (by kernel_rfl) Tryd.func7 (by kernel_rfl)
    (of_decide_eq_true (by kernel_rfl)) (by unfold Func.isWrapper; first | (rw [if_pos (by decide +kernel)]; kernel_rfl) | (rw [if_neg (by decide +kernel)]; exact ⟨rfl, rfl⟩))
    (fun os started H enc _ F => by rw [OpenClaim.pre_eq_preRow]; exact lifted os started H enc F)

theorem plain (f : FuncId) (fn : Func) (hf : Tryd.pinned.checked.prog.funcNamed "backstep/backsteplaw32.PeepholeKeeps" = some f) (hfn : Tryd.pinned.checked.prog.funcs[f]? = some fn) :
    false = Tryd.pinned.checked.prog.looks [] ∧ ∀ (j : Nat) t, fn.params[j]? = some t → Tryd.pinned.checked.prog.wantsStandIn t = false := by
  obtain rfl : f = 7 := Option.some.inj ((show Tryd.prog.funcNamed "backstep/backsteplaw32.PeepholeKeeps" = some 7 by kernel_rfl).symm.trans hf) |>.symm
  obtain rfl : fn = Tryd.f7 := (Option.some.inj (Tryd.func7.symm.trans hfn)).symm
  refine ⟨by kernel_rfl, fun j t ht => ?_⟩
  rw [Tryd.params7] at ht
  have hm := Array.mem_of_getElem? ht
  simp only [List.mem_toArray, List.mem_cons, List.mem_nil_iff, or_false] at hm
  subst hm
  exact (show Tryd.prog.wantsStandIn 30 = false by kernel_rfl)

theorem card : Rows.PeepholeKeepsCardSaid :=
  Claim7.holds_tied_plain_at .later [] _ _ _ _ said (fun _ h => by cases h) (by kernel_rfl) (fun _ h => by cases h) peepholeKeeps_row_tie rfl ⟨rfl, rfl⟩ (by kernel_rfl) rfl plain (by kernel_rfl)
end LawKeeps
end Go.Proofs.YtfobnkgfbdmakaaDoor
