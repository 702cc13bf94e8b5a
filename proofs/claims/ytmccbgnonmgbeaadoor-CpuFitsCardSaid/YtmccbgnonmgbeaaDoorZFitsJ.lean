/- cpu.Fits with both answers. -/
import Derived.Test.YtmccbgnonmgbeaaDoorZFitsI
set_option linter.unusedVariables false
set_option linter.unusedSimpArgs false
namespace Go.Proofs.YtmccbgnonmgbeaaDoor
open Go.RowKit Bk
set_option maxRecDepth 100000 in
set_option maxHeartbeats 400000 in
/-- cpu.Fits. -/
theorem c_FitsG {w : World} {D : Nat → Prop} {b off : Nat} {M : Mach} {vm vs vc vi vo : Value} {sv : List Value} (h : MRd w D b off M vm vs vc vi vo sv) (A : Option Addr) (n cap : Nat) (im : Img) (hn : n = im.code.length) (hn6 : n ≤ 65536) (hms : M.s.length ≤ 1000000) (hcl : M.calls.length ≤ 1000000) (hC : Rd w (· < w.heap.size) 5 A n (codeCells im.code)) (hw : CodeWf im.code) (hTab : TableAt w) {v : Bool} (hv : (im.valid && fitsB im M) = v) :
    Calls Tryd.prog 26 #[.agg #[.slice A n cap, .int .i64 im.mem, .int .i64 im.stacks], .pointer (some ⟨b, off, none⟩)] w fun e w' => e = .returned (.bool v) ∧ Below w.heap.size w w' := by
  have HT := Lib.hid hTab; have HC := Lib.hid hC; have HM := Lib.hid h
  obtain ⟨u, hu⟩ : ∃ u, im.valid = u := ⟨_, rfl⟩
  obtain ⟨f, hf⟩ : ∃ f, fitsB im M = f := ⟨_, rfl⟩
  rw [hu, hf] at hv
  subst hv
  have HU := Lib.hid hu; have HF := Lib.hid hf; have HN := Lib.hid hn
  clear hTab hC h hu hf hn
  go_enter Tryd.func26, Tryd.ntmps26
  go_wp2_with fail
  refine (c_imValid' A n cap im HU.out _ (HC.out.next (by repeat' (first | (with_reducible assumption) | (with_reducible exact Below.refl _ _) | (with_reducible refine Below.alloc ?_ ?_ _) | (with_reducible refine Bk.drewN_ ?_ _) | (with_reducible refine Below.drew ?_) | (with_reducible refine Below.setCell ?_ ?_ _) | go_size))) hw (HT.out.next (by repeat' (first | (with_reducible assumption) | (with_reducible exact Below.refl _ _) | (with_reducible refine Below.alloc ?_ ?_ _) | (with_reducible refine Bk.drewN_ ?_ _) | (with_reducible refine Below.drew ?_) | (with_reducible refine Below.setCell ?_ ?_ _) | go_size)))).mono ?_
  rintro e w2 ⟨rfl, hb2⟩
  have hB_w2 : Below w.heap.size w w2 := Below.next (by repeat' (first | (with_reducible assumption) | (with_reducible exact Below.refl _ _) | (with_reducible refine Below.alloc ?_ ?_ _) | (with_reducible refine Bk.drewN_ ?_ _) | (with_reducible refine Below.drew ?_) | (with_reducible refine Below.setCell ?_ ?_ _) | go_size)) hb2
  have K_1 : Blk w2 (w.heap.size) 24 #[.slice A n cap, .int .i64 im.mem, .int .i64 im.stacks] := Blk.next (by repeat' (first | with_reducible exact H_1.out | with_reducible exact K0_1 | (refine Blk.new' ?_ _ _; simp; done) | with_reducible refine Blk.alloc ?_ _ | with_reducible refine Blk.drewN ?_ _ | with_reducible refine Blk.drew ?_)) hb2; (try clear H_1); (try clear T_1); (try clear z_1); (try clear F_1); obtain ⟨z_1, T_1, F_1⟩ := K_1.open_; have H_1 := Lib.hid K_1; clear K_1
  clear hb2
  cases u with
  | false =>
    go_wp2_with fail
    go_ret
    exact ⟨rfl, hB_w2⟩
  | true =>
    go_wp2_with fail
    refine (c_fitsG (HM.out.next hB_w2) A n cap im HN.out hn6 hms hcl HF.out).mono ?_
    rintro e w3 ⟨rfl, hb3⟩
    have hB_w3 := hB_w2.next hb3
    go_wp2_with fail
    go_ret
    exact ⟨rfl, hB_w3⟩
end Go.Proofs.YtmccbgnonmgbeaaDoor
