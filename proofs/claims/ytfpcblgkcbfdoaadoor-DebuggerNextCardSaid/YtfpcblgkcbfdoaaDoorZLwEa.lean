/- Machines by value in new memory; cpu.New of a valid image. -/
import Derived.Test.YtfpcblgkcbfdoaaDoorZCpuNew
import Derived.Test.YtfpcblgkcbfdoaaDoorCpX
import Derived.Test.YtfpcblgkcbfdoaaDoorMh
set_option linter.unusedVariables false
set_option linter.unusedSimpArgs false
set_option maxRecDepth 100000
namespace Bk
open Go Go.RowKit
/-- A machine in new memory (blocks from B on), as it is read. -/
theorem MAt.new {w : World} {B b gm gs : Nat} {t : TypeId} {pre post : List Value} {off : Nat} {M : Mach} (h : MAt w ⟨b, t, pre, post, off, gm, gs, (· < B)⟩ M) (h2 : B ≤ gm) (h3 : B ≤ gs) :
    ∃ vm vs vc vi vo sv, MRd w (fun k => B ≤ k ∧ k < w.heap.size) b off M vm vs vc vi vo sv := by
  obtain ⟨vm, vs, vc, vi, vo, sv, h⟩ := h
  refine ⟨vm, vs, vc, vi, vo, sv, h.rd'.mono (fun k hk => ⟨?_, hk.1⟩) fun k hk => hk.2⟩
  rcases hk.2 with e | e | e
  · dsimp only at e; omega
  · dsimp only at e; omega
  · rcases Nat.lt_or_ge k B with hlt | hge
    · exact absurd (.inr (.inr (.inr hlt))) e.2
    · exact hge
theorem Rd.new {w : World} {g n size : Nat} {cs : Array Value} {t : TypeId} (hg : g = w.heap.size) (h : cs.size = n * size) : Rd (w.alloc (.cells cs t)) (· < (w.alloc (.cells cs t)).heap.size) size (some ⟨g, 0, none⟩) n cs.toList := by
  subst hg
  refine ⟨by simpa using h, fun _ => ⟨_, _, rfl, by simp, fun j u hu => ?_⟩⟩
  have h := (Blk.new w t cs).cell j
  rw [Nat.zero_add, h]
  simpa using hu
theorem Rd.blk_ {w : World} {g n size : Nat} {cs : Array Value} {t : TypeId} {D : Nat → Prop} (hk : Blk w g t cs) (hD : D g) (h : cs.size = n * size) : Rd w D size (some ⟨g, 0, none⟩) n cs.toList :=
  ⟨by simpa using h, fun _ => ⟨_, _, rfl, hD, fun j u hu => by rw [Nat.zero_add, hk.cell]; simpa using hu⟩⟩
end Bk
namespace Go.Proofs.YtfpcblgkcbfdoaaDoor
open Go.RowKit Bk
theorem mc_one {M : Mach} {vm vs vc vi vo : Value} (h1 : vm.oneCell' = true) (h2 : vs.oneCell' = true) (h3 : vc.oneCell' = true) (h4 : vi.oneCell' = true) (h5 : vo.oneCell' = true) : ∀ v ∈ mcells M vm vs vc vi vo, v.oneCell' = true := by
  intro v hv
  simp only [mcells, List.mem_cons, List.mem_append, List.not_mem_nil, or_false] at hv
  rcases hv with rfl | rfl | hv | rfl | rfl | rfl | rfl | rfl | rfl | rfl <;> first | rfl | assumption | exact oneInt _ _ hv
theorem c_NewI {w : World} {A : Option Addr} {n cap : Nat} {im : Img} (hv : im.check.2 = 0) (hC : Rd w (· < w.heap.size) 5 A n (codeCells im.code)) (hw : CodeWf im.code) (hTab : TableAt w)
    {D : Nat → Prop} {v : Value} {l : List Int} (hI : Sl w D 1 v l.length (intCells l)) (hD : ∀ k, D k → k < w.heap.size) (hl : l.length ≤ 4096) :
    Calls Tryd.prog 31 #[.agg #[.slice A n cap, .int .i64 im.mem, .int .i64 im.stacks], v] w fun e w' => ∃ vm vs vi sv, e = .returned (.tuple #[.agg (mcells (newM im.mem.toNat im.stacks.toNat l) vm vs (.slice none 0 0) vi (.slice none 0 0)).toArray, .int .i64 0]) ∧ MOwn w' w.heap.size (newM im.mem.toNat im.stacks.toNat l) vm vs (.slice none 0 0) vi (.slice none 0 0) sv ∧ Below w.heap.size w w' := by
  have hz := (check_fault hv).1
  unfold Img.sized at hz
  simp only [Bool.and_eq_true, decide_eq_true_eq] at hz
  have hva : im.valid = true := by unfold Img.valid; rw [hv]; rfl
  obtain ⟨code, mem, st⟩ := im
  dsimp only at *
  obtain ⟨mm, rfl⟩ : ∃ k : Nat, mem = (k : Int) := ⟨mem.toNat, by omega⟩
  obtain ⟨ss, rfl⟩ : ∃ k : Nat, st = (k : Int) := ⟨st.toNat, by omega⟩
  rw [Int.toNat_natCast, Int.toNat_natCast]
  exact c_NewG hva (by omega) (by omega) hC hw hTab hI hD hl
end Go.Proofs.YtfpcblgkcbfdoaaDoor
