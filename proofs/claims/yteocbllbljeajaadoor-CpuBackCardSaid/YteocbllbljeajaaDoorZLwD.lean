/- The walk of fits of the laws of layer 24. -/
import Derived.Test.YteocbllbljeajaaDoorZLwB
import Derived.Test.YteocbllbljeajaaDoorZLwC
import Derived.Test.YteocbllbljeajaaDoorCpV
set_option linter.unusedVariables false
set_option linter.unusedSimpArgs false
set_option maxRecDepth 100000
set_option maxHeartbeats 8000000
set_option maxRecDepth 100000
namespace Go.Proofs.YteocbllbljeajaaDoor
open Go.RowKit Bk
variable {w : World} {D : Nat → Prop} {P : Pl} {M : Mach} {vm vs vc vi vo : Value} {sv : List Value}
theorem fitsB_eq {n : Nat} {im : Img} {M : Mach} (hn : n = im.code.length) : fitsB im M = (rtestB n im M && ((M.s.drop 1).all (fun l => decide (l.length ≤ 1000)) && M.calls.all (fun a => decide (0 ≤ a.1 ∧ a.1 < (n : Int))))) := by
  subst hn
  unfold fitsB rtestB
  rw [Bool.eq_iff_iff]
  simp only [Bool.and_eq_true, decide_eq_true_eq]
  constructor
  · rintro ⟨⟨⟨⟨⟨⟨⟨h1, h2⟩, h3⟩, h4⟩, h5⟩, h6⟩, h7⟩, h8⟩
    exact ⟨⟨h1, by omega⟩, h5, h6⟩
  · rintro ⟨⟨h1, h2⟩, h5, h6⟩
    exact ⟨⟨⟨⟨⟨⟨⟨h1, by omega⟩, by omega⟩, by omega⟩, h5⟩, h6⟩, by omega⟩, by omega⟩
theorem c_rfits (hL : MLs w D M vm vs vc vi vo sv) (A : Option Addr) (n cap : Nat) (im : Img) (hn : n = im.code.length) (h6 : n ≤ 65536) (hms : M.s.length ≤ 1000000) {v : Bool} (hv : fitsB im M = v) :
    Calls Tryd.prog 29 #[.agg #[.slice A n cap, .int .i64 im.mem, .int .i64 im.stacks], .agg (mcells M vm vs vc vi vo).toArray] w fun e w' => e = .returned (.bool v) ∧ Below w.heap.size w w' := by
  rw [fitsB_eq hn] at hv
  cases ht : rtestB n im M with
  | false =>
    rw [ht, Bool.false_and] at hv
    subst hv
    exact c_rfits_bad hL A n cap im ht
  | true =>
    rw [ht, Bool.true_and] at hv
    unfold rtestB at ht
    simp only [Bool.and_eq_true, decide_eq_true_eq] at ht
    obtain ⟨hd, ht⟩ := ht
    rcases hd with hd | hd
    · exact rfits_loop hL A n cap im (.inl hd) (by simp; omega) (by simp; omega) (by simp; omega) (by simp; omega) (by simp; omega) (by simp; omega) (by simp; omega) (by simp; omega) (by simp; omega) (by simp; omega) (by simp; omega) (by simp; omega) h6 hms hv
    · exact rfits_loop hL A n cap im (.inr hd) (by simp; omega) (by simp; omega) (by simp; omega) (by simp; omega) (by simp; omega) (by simp; omega) (by simp; omega) (by simp; omega) (by simp; omega) (by simp; omega) (by simp; omega) (by simp; omega) h6 hms hv
/-- What the laws of layer 24 speak of. -/
def okB (im : Img) (M : Mach) : Bool := !greatB im M && (im.valid && fitsB im M)
theorem c_fits24 (hL : MLs w D M vm vs vc vi vo sv) (A : Option Addr) (n cap : Nat) (im : Img) (hn : n = im.code.length) (hl : ∀ l ∈ M.s, l.length ≤ 17592186043904) (hC : Rd w (· < w.heap.size) 5 A n (codeCells im.code)) (hw : CodeWf im.code) (hTab : TableAt w) {v : Bool} (hv : okB im M = v) :
    Calls Tryd.prog 9 #[.agg #[.slice A n cap, .int .i64 im.mem, .int .i64 im.stacks], .agg (mcells M vm vs vc vi vo).toArray] w fun e w' => e = .returned (.bool v) ∧ Below w.heap.size w w' := by
  obtain ⟨g, hg⟩ : ∃ g, greatB im M = g := ⟨_, rfl⟩
  obtain ⟨u, hu⟩ : ∃ u, im.valid = u := ⟨_, rfl⟩
  obtain ⟨f, hf⟩ : ∃ f, fitsB im M = f := ⟨_, rfl⟩
  unfold okB at hv
  rw [hg, hu, hf] at hv
  subst hv
  have HL := Lib.hid hL; have HLL := Lib.hid hl; have HC := Lib.hid hC; have HT := Lib.hid hTab; have HG := Lib.hid hg; have HU := Lib.hid hu; have HF := Lib.hid hf; have HN := Lib.hid hn
  clear hL hl hC hTab hg hu hf hn
  go_enter Tryd.func9, Tryd.ntmps9
  go_upto_region 1 with fail
  refine wp_nameY ?_
  intro w1 hw1
  have hB_w1 : Below w.heap.size w w1 := by rw [hw1]; exact (by go_grown)
  have K_1 : Blk w1 w.heap.size 24 #[.slice A n cap, .int .i64 im.mem, .int .i64 im.stacks] := by rw [hw1]; exact (by repeat' (first | assumption | exact Blk.new' (by simp) _ _ | apply Blk.alloc | apply Blk.drew))
  have KM : Blk w1 (w.heap.size + 1) 30 (mcells M vm vs vc vi vo).toArray := by rw [hw1]; exact (by repeat' (first | assumption | exact Blk.new' (by simp) _ _ | apply Blk.alloc | apply Blk.drew))
  have M_w1 := Lib.hid ((HL.out.next hB_w1).at_ KM)
  clear hw1 KM
  obtain ⟨z_1, T_1, F_1⟩ := K_1.open_; have H_1 := Lib.hid K_1; clear K_1
  go_wp2_with (refine wpList_loadG 30 rfl rfl rfl (load_mach M_w1.out) ?_; simp only [Act.put, Bk.PU])
  refine (c_great (HL.out.next hB_w1) A n cap im HN.out HLL.out HG.out).mono ?_
  rintro e w2 ⟨rfl, hb2⟩
  have hB_w2 : Below w.heap.size w w2 := hB_w1.next hb2
  have M_w2 := Lib.hid (M_w1.out.next hb2)
  have K_1 := H_1.out.next hb2; (try clear H_1); (try clear T_1); (try clear z_1); (try clear F_1); obtain ⟨z_1, T_1, F_1⟩ := K_1.open_; have H_1 := Lib.hid K_1; clear K_1
  clear hb2 M_w1
  cases g with
  | true =>
    go_wp2_with fail
    go_ret
    exact ⟨rfl, hB_w2⟩
  | false =>
    go_wp2_with fail
    refine (c_imValid' A n cap im HU.out _ (HC.out.next hB_w2) hw (HT.out.next hB_w2)).mono ?_
    rintro e w3 ⟨rfl, hb3⟩
    have hB_w3 : Below w.heap.size w w3 := hB_w2.next hb3
    have M_w3 := Lib.hid (M_w2.out.next hb3)
    have K_1 := H_1.out.next hb3; (try clear H_1); (try clear T_1); (try clear z_1); (try clear F_1); obtain ⟨z_1, T_1, F_1⟩ := K_1.open_; have H_1 := Lib.hid K_1; clear K_1
    clear hb3 M_w2
    cases u with
    | false =>
      go_wp2_with fail
      go_ret
      exact ⟨rfl, hB_w3⟩
    | true =>
      have hgg := HG.out
      unfold greatB at hgg
      rw [decide_eq_false_iff_not] at hgg
      have h6 : n ≤ 65536 := by have := HN.out; omega
      have hms : M.s.length ≤ 1000000 := by omega
      clear hgg
      go_wp2_with (refine wpList_loadG 30 rfl rfl rfl (load_mach M_w3.out) ?_; simp only [Act.put, Bk.PU])
      refine (c_rfits (HL.out.next hB_w3) A n cap im HN.out h6 hms HF.out).mono ?_
      rintro e w4 ⟨rfl, hb4⟩
      have hB_w4 : Below w.heap.size w w4 := hB_w3.next hb4
      go_wp2_with fail
      go_ret
      exact ⟨rfl, hB_w4⟩
end Go.Proofs.YteocbllbljeajaaDoor
