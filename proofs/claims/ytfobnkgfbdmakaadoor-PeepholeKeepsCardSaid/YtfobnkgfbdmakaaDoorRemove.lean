/- The walks of the reference's shift and remove. -/
import Derived.Test.YtfobnkgfbdmakaaDoorOptimize
set_option linter.unusedVariables false
namespace Go.Proofs.YtfobnkgfbdmakaaDoor
open Go.RowKit Bk

theorem c_shift (t k : Int) (h0 : 0 ≤ k) (h1 : t ≤ 9223372036854775807) (w : World) :
    Calls Tryd.prog 40 #[.int .i64 t, .int .i64 k] w fun e w' => e = .returned (.int .i64 (shT t k)) ∧ w = w' := by
  by_cases h : k < t
  · go_enter Tryd.func40, Tryd.ntmps40
    go_wp2
    go_ret
    exact ⟨ret_int (by unfold shT; rw [if_pos h]), rfl⟩
  · go_enter Tryd.func40, Tryd.ntmps40
    go_wp2
    go_ret
    exact ⟨ret_int (by unfold shT; rw [if_neg (by omega)]), rfl⟩

/-- The cells of the code without the pair, behind i rounds. -/
def remCells (c : Prg) (k i : Nat) : List Value := codeCells (remPre c k i)
theorem remCells_skip (c : Prg) (k i : Nat) (h : i = k ∨ i = k + 1) : remCells c k (i + 1) = remCells c k i ∧ (remPre c k (i + 1)).length = (remPre c k i).length := by
  unfold remCells; rw [remPre, if_pos h]; exact ⟨rfl, rfl⟩
theorem remCells_step (c : Prg) (k i : Nat) (x : Ins) (hx : c.getD i default = x) (h : ¬ (i = k ∨ i = k + 1)) :
    remCells c k (i + 1) = remCells c k i ++ [.int .u8 x.op, .int .i64 (retA x.op x.a (shT x.a k)), .int .i64 (retB x.op x.b (shT x.b k)), .int .i64 x.c, .int .i64 x.d] ∧ (remPre c k (i + 1)).length = (remPre c k i).length + 1 := by
  unfold remCells; rw [remPre, if_neg h, codeCells_append, hx]; exact ⟨rfl, by simp⟩

set_option maxRecDepth 100000 in
set_option maxHeartbeats 8000000 in
theorem c_remove (b off n cap k : Nat) (code : Prg) (w : World) (hn0 : 0 < n) (hmax : n ≤ 65536) (hk : k < n)
    (hC : Rd w (· < w.heap.size) 5 (some ⟨b, off, none⟩) n (codeCells code)) (hw : CodeWf code) :
    Calls Tryd.prog 36 #[.slice (some ⟨b, off, none⟩) n cap, .int .i64 k] w fun e w' =>
      ∃ v, e = .returned v ∧ w'.ownsRow w.heap.size 23 5 v (removeAt code k).length (codeCells (removeAt code k)) ∧ Below w.heap.size w w' := by
  have hn : n = code.length := by have := hC.1; rw [codeCells_length] at this; omega
  have hb : b < w.heap.size := hC.blk (by omega)
  obtain ⟨i2, li, lz, ls, lb⟩ := info_parts info_ins
  have HN := Lib.hid hn; have HC := Lib.hid hC
  clear hn hC
  go_enter Tryd.func36, Tryd.ntmps36
  go_wp2_with fail
  go_loopw [5, 6] (fun v5 v6 wr => ∃ i : Nat, i ≤ n ∧ v6 = .int .i64 i ∧ wr.ownsRow w.heap.size 23 5 v5 (remPre code k i).length (remCells code k i) ∧ Below w.heap.size w wr) (fun _ i _ => n - (intOf i).toNat)
  case atStart => exact ⟨0, Nat.zero_le _, rfl, ⟨by simp [remCells, remPre, codeCells], .inl ⟨rfl, rfl⟩⟩, Below.refl _ _⟩
  case round =>
    obtain ⟨i, hi, rfl, hown, hB⟩ := hrel
    have hBs := hB.size
    by_cases hlt : i < n
    · have hbr : b < wr.heap.size := Nat.lt_of_lt_of_le hb hB.size
      by_cases hsk : i = k ∨ i = k + 1
      · obtain ⟨e1, e2⟩ := remCells_skip code k i hsk
        rw [← e1, ← e2] at hown
        have HO := Lib.hid hown
        clear hown e1 e2
        rcases hsk with rfl | rfl
        all_goals
          go_wp2_with fail
          exact ⟨⟨_, hlt, by go_num, HO.out, hB⟩, by simp [intOf]; omega⟩
      · obtain ⟨x0, x1, x2, x3, x4⟩ := (HC.out.below hB (fun _ h => h)).insAt (k := i) (HN.out ▸ hlt)
        have hxa := (hw i (HN.out ▸ hlt)).a1
        have hxb := (hw i (HN.out ▸ hlt)).b1
        obtain ⟨e1, e2⟩ := remCells_step code k i (code.getD i default) rfl hsk
        generalize hx : code.getD i default = x at *
        have hle := remPre_length code k i
        have hle' : (remPre code k i).length ≤ 65536 := by omega
        generalize hL : (remPre code k i).length = L at *
        have HO := Lib.hid hown; have HE1 := Lib.hid e1; have HE2 := Lib.hid e2
        have s1 : ((i : Int) == (k : Int)) = false := by simp; omega
        have s2 : ((i : Int) == (k : Int) + 1) = false := by simp; omega
        have hOB : ∀ g, u5.ownBlock = some g → w.heap.size ≤ g := fun g hg => own_block_ge hown hg
        have HOB := Lib.hid hOB
        clear hown e1 e2 hx hle hL hsk hOB
        go_upto_region 20 with (first
          | (go_at_call 40; ((with_reducible refine (c_shift x.a _ (by omega) hxa _).mono ?_); rintro e w' ⟨rfl, rfl⟩))
          | (go_at_call 40; ((with_reducible refine (c_shift x.b _ (by omega) hxb _).mono ?_); rintro e w' ⟨rfl, rfl⟩)))
        all_goals go_wp2_with (first | (at_builtin; refine wpList_append_own _ rfl (.tmp 51) (.tmp 53) 28 rfl w.heap.size 23 i2 _ 5 40 Tryd.underlying28 li lz ls lb rfl (by decide) u5 L (remCells code k i) rfl ((HO.out.alloc _).alloc _) ⟨_, 0, none⟩ 1 1 [.int .u8 x.op, .int .i64 (shT x.a k), .int .i64 (x.b), .int .i64 x.c, .int .i64 x.d] rfl rfl (cells_new' _ #[.int .u8 x.op, .int .i64 (shT x.a k), .int .i64 (x.b), .int .i64 x.c, .int .i64 x.d] _ (by simp)) (by simp [Value.oneCell']) (by simp [maxLen]; omega) (by omega) (by simp; omega) ?_) | (at_builtin; refine wpList_append_own _ rfl (.tmp 51) (.tmp 53) 28 rfl w.heap.size 23 i2 _ 5 40 Tryd.underlying28 li lz ls lb rfl (by decide) u5 L (remCells code k i) rfl ((HO.out.alloc _).alloc _) ⟨_, 0, none⟩ 1 1 [.int .u8 x.op, .int .i64 (x.a), .int .i64 (shT x.b k), .int .i64 x.c, .int .i64 x.d] rfl rfl (cells_new' _ #[.int .u8 x.op, .int .i64 (x.a), .int .i64 (shT x.b k), .int .i64 x.c, .int .i64 x.d] _ (by simp)) (by simp [Value.oneCell']) (by simp [maxLen]; omega) (by omega) (by simp; omega) ?_) | (at_builtin; refine wpList_append_own _ rfl (.tmp 51) (.tmp 53) 28 rfl w.heap.size 23 i2 _ 5 40 Tryd.underlying28 li lz ls lb rfl (by decide) u5 L (remCells code k i) rfl ((HO.out.alloc _).alloc _) ⟨_, 0, none⟩ 1 1 [.int .u8 x.op, .int .i64 (x.a), .int .i64 (x.b), .int .i64 x.c, .int .i64 x.d] rfl rfl (cells_new' _ #[.int .u8 x.op, .int .i64 (x.a), .int .i64 (x.b), .int .i64 x.c, .int .i64 x.d] _ (by simp)) (by simp [Value.oneCell']) (by simp [maxLen]; omega) (by omega) (by simp; omega) ?_))
        all_goals
          intro v2 w2 hown2 hg2 _
          have hB2 : Below w.heap.size w w2 := Below.trans (by repeat' (first | (with_reducible assumption) | (with_reducible exact Below.refl _ _) | (with_reducible refine Below.alloc ?_ ?_ _) | (with_reducible refine Bk.drewN_ ?_ _) | (with_reducible refine Below.drew ?_) | (with_reducible refine Below.setCell ?_ ?_ _) | go_size)) (below_grown (B := w.heap.size) hg2 (by simp; omega) HOB.out)
          have HO2 := Lib.hid hown2
          clear hown2 hg2
          go_wp2_with fail
          refine ⟨⟨i + 1, by omega, by go_num, ?_, hB2⟩, by simp [intOf]; omega⟩
          rw [HE1.out, HE2.out]
          have h := HO2.out
          go_tidy
          simp_all [retA, retB]
    · obtain rfl : n = i := by omega
      have HO := Lib.hid hown
      go_wp2_with fail
      go_ret
      refine ⟨_, rfl, ?_, hB⟩
      unfold removeAt
      rw [← HN.out]
      exact HO.out
end Go.Proofs.YtfobnkgfbdmakaaDoor
