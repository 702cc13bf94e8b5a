/- cpu.fits and cpu.Fits with both answers: joined. -/
import Derived.Test.YteenmpjjaheggaaDoorZFitsH
import Derived.Test.YteenmpjjaheggaaDoorFr
set_option linter.unusedVariables false
set_option linter.unusedSimpArgs false
namespace Go.Proofs.YteenmpjjaheggaaDoor
open Go.RowKit Bk
theorem fitsB_eq2 {im : Img} {M : Mach} {n : Nat} (hn : n = im.code.length) (hd : M.dir = 1 ∨ M.dir = -1) (t0 : decide (M.pc < 0) = false) (t1 : decide ((n : Int) < M.pc) = false) (u0 : ((M.m.length : Int) != im.mem) = false) (u1 : ((M.s.length : Int) != im.stacks) = false) (u2 : decide ((M.s.length : Int) < 1) = false) :
    ((M.s.drop 1).all (fun l => decide (l.length ≤ 1000)) && (M.calls.all (fun a => decide (0 ≤ a.1 ∧ a.1 < (n : Int))) && decide (M.calls.length ≤ 100 ∧ M.inp.length ≤ 4096 ∧ M.out.length ≤ 4096 ∧ 0 ≤ M.fp ∧ M.fp ≤ im.mem ∧ 0 ≤ M.sb ∧ M.sb ≤ im.stacks))) = fitsB im M := by
  subst hn
  simp only [decide_eq_false_iff_not, bne_eq_false_iff_eq] at t0 t1 u0 u1 u2
  unfold fitsB
  rw [Bool.eq_iff_iff]
  simp only [Bool.and_eq_true, decide_eq_true_eq]
  constructor
  · rintro ⟨h1, h2, h3⟩
    exact ⟨⟨⟨⟨⟨⟨⟨hd, by omega⟩, u0⟩, u1, by omega⟩, h1⟩, h2⟩, h3.1, h3.2.1, h3.2.2.1⟩, h3.2.2.2⟩
  · rintro ⟨⟨⟨⟨⟨⟨⟨_, _⟩, _⟩, _⟩, h1⟩, h2⟩, h3⟩, h4⟩
    exact ⟨h1, h2, h3.1, h3.2.1, h3.2.2, h4⟩
theorem fitsB_no {im : Img} {M : Mach} {v : Bool} (hv : fitsB im M = v) (h : ¬ ((M.dir = 1 ∨ M.dir = -1) ∧ (0 ≤ M.pc ∧ M.pc ≤ im.code.length) ∧ (M.m.length : Int) = im.mem ∧ (M.s.length : Int) = im.stacks ∧ 1 ≤ M.s.length)) : false = v := by
  rw [← hv]
  symm
  rw [← Bool.not_eq_true]
  intro hf
  unfold fitsB at hf
  simp only [Bool.and_eq_true, decide_eq_true_eq] at hf
  obtain ⟨⟨⟨⟨⟨⟨⟨h1, h2⟩, h3⟩, h4⟩, h5⟩, h6⟩, h7⟩, h8⟩ := hf
  exact h ⟨h1, h2, h3, h4.1, h4.2⟩
/-- cpu.fits. -/
theorem c_fitsG {w : World} {D : Nat → Prop} {b off : Nat} {M : Mach} {vm vs vc vi vo : Value} {sv : List Value} (h : MRd w D b off M vm vs vc vi vo sv) (A : Option Addr) (n cap : Nat) (im : Img) (hn : n = im.code.length) (hn6 : n ≤ 65536) (hms : M.s.length ≤ 1000000) (hcl : M.calls.length ≤ 20000000000000) {v : Bool} (hv : fitsB im M = v) :
    Calls Tryd.prog 53 #[.agg #[.slice A n cap, .int .i64 im.mem, .int .i64 im.stacks], .pointer (some ⟨b, off, none⟩)] w fun e w' => e = .returned (.bool v) ∧ Below w.heap.size w w' := by
  by_cases hd : M.dir = 1 ∨ M.dir = -1
  case neg =>
    obtain rfl := fitsB_no hv (fun h => hd h.1)
    exact fg_dir h A n cap im (by simp; omega) (by simp; omega)
  cases t0 : decide (M.pc < 0) with
  | true =>
    obtain rfl := fitsB_no hv (fun h => by simp at t0; omega)
    rcases hd with hd | hd
    · exact fg_10 h A n cap im (.inl hd) t0
    · exact fg_10 h A n cap im (.inr hd) t0
  | false =>
  cases t1 : decide ((n : Int) < M.pc) with
  | true =>
    obtain rfl := fitsB_no hv (fun h => by simp at t1; omega)
    rcases hd with hd | hd
    · exact fg_11 h A n cap im (.inl hd) t0 t1
    · exact fg_11 h A n cap im (.inr hd) t0 t1
  | false =>
  cases u0 : ((M.m.length : Int) != im.mem) with
  | true =>
    obtain rfl := fitsB_no hv (fun h => by simp at u0; omega)
    rcases hd with hd | hd
    · exact fg_30 h A n cap im (.inl hd) t0 t1 u0
    · exact fg_30 h A n cap im (.inr hd) t0 t1 u0
  | false =>
  cases u1 : ((M.s.length : Int) != im.stacks) with
  | true =>
    obtain rfl := fitsB_no hv (fun h => by simp at u1; omega)
    rcases hd with hd | hd
    · exact fg_31 h A n cap im (.inl hd) t0 t1 u0 u1
    · exact fg_31 h A n cap im (.inr hd) t0 t1 u0 u1
  | false =>
  cases u2 : decide ((M.s.length : Int) < 1) with
  | true =>
    obtain rfl := fitsB_no hv (fun h => by simp at u2; omega)
    rcases hd with hd | hd
    · exact fg_32 h A n cap im (.inl hd) t0 t1 u0 u1 u2
    · exact fg_32 h A n cap im (.inr hd) t0 t1 u0 u1 u2
  | false =>
  have hv2 := (fitsB_eq2 hn hd t0 t1 u0 u1 u2).trans hv
  obtain ⟨m, hm⟩ : ∃ m, M.s.length = m + 1 := ⟨M.s.length - 1, by simp at u2; omega⟩
  obtain ⟨Av, cv, hvs, hcv, _⟩ := h.s
  have key : ∀ A n cap, vs = .slice A n cap → cap = cv := by
    intro A n cap e; rw [hvs] at e; injection e with _ _ e; exact e.symm
  rcases Nat.eq_or_lt_of_le (show 1 ≤ cv by omega) with e | e
  · rcases hd with hd | hd
    · exact fg_rest1 h A n cap im (.inl hd) t0 t1 u0 u1 u2 m hm (by omega) hcl hn6 (fun A n cap e' => by rw [key _ _ _ e', e]) hv2
    · exact fg_rest1 h A n cap im (.inr hd) t0 t1 u0 u1 u2 m hm (by omega) hcl hn6 (fun A n cap e' => by rw [key _ _ _ e', e]) hv2
  · obtain ⟨c, rfl⟩ : ∃ c, cv = c + 1 := ⟨cv - 1, by omega⟩
    rcases hd with hd | hd
    · exact fg_restN h A n cap im (.inl hd) t0 t1 u0 u1 u2 m hm (by omega) hcl hn6 c (by omega) key hv2
    · exact fg_restN h A n cap im (.inr hd) t0 t1 u0 u1 u2 m hm (by omega) hcl hn6 c (by omega) key hv2
end Go.Proofs.YteenmpjjaheggaaDoor
