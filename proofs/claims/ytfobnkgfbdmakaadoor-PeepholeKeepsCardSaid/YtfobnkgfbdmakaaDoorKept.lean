/- The walks of image.Procs and of the law's own function that lists the opcodes of the control instructions. -/
import Derived.Test.YtfobnkgfbdmakaaDoorClone
import Derived.Test.YtfobnkgfbdmakaaDoorVan
import Derived.Laws.BytesArg
import Derived.Outline
set_option linter.unusedVariables false
namespace Go.Proofs.YtfobnkgfbdmakaaDoor
open Go.RowKit Bk

theorem info_u8 : (Tryd.prog.info? 5).map (fun i => (i.zero, i.size, i.bytes)) = some (some (.int .u8 0), 1, 1) := by kernel_rfl

/-- The indices of the starts among the first i instructions. -/
def procsAt (c : Prg) : Nat → List Nat
  | 0 => []
  | i + 1 => if (c.getD i default).op = 32 then procsAt c i ++ [i] else procsAt c i
theorem procsAt_length (c : Prg) (i : Nat) (hi : i ≤ c.length) : (procsAt c i).length = ((c.take i).filter fun x => decide (x.op = 32)).length := by
  induction i with
  | zero => simp [procsAt]
  | succ i ih =>
    have e : c.take (i + 1) = c.take i ++ [c.getD i default] := by
      rw [List.take_add_one]; simp [List.getD_eq_getElem?_getD, show i < c.length by omega]
    rw [procsAt, e, List.filter_append]
    have ih := ih (by omega)
    generalize c.getD i default = x
    by_cases h : x.op = 32
    · rw [if_pos h]
      simp [h, ih]
    · rw [if_neg h]
      simp [h, ih]
theorem procsAt_le (c : Prg) (i : Nat) : (procsAt c i).length ≤ i := by
  induction i with
  | zero => simp [procsAt]
  | succ i ih => rw [procsAt]; split <;> (try simp) <;> omega
def pCells (l : List Nat) : List Value := l.map fun (k : Nat) => Value.int .i64 (k : Int)

/-- The opcodes that the law keeps, of the first i instructions. -/
def keepB (x : Ins) : Bool := tgt x || decide (x.op = 34) || decide (x.op = 21) || decide (x.op = 0)
def opsAt (c : Prg) : Nat → List Int
  | 0 => []
  | i + 1 => if keepB (c.getD i default) = true then opsAt c i ++ [(c.getD i default).op] else opsAt c i
theorem opsAt_eq (c : Prg) (i : Nat) (hi : i ≤ c.length) : opsAt c i = ((c.take i).filter keepB).map (·.op) := by
  induction i with
  | zero => simp [opsAt]
  | succ i ih =>
    have e : c.take (i + 1) = c.take i ++ [c.getD i default] := by
      rw [List.take_add_one]; simp [List.getD_eq_getElem?_getD, show i < c.length by omega]
    rw [opsAt, e, List.filter_append]
    have ih := ih (by omega)
    generalize c.getD i default = x
    cases h : keepB x with
    | true => simp only [if_true, List.filter_cons, h, List.filter_nil, List.map_append, List.map_cons, List.map_nil, ih]
    | false => simp [h, ih]
theorem opsAt_le (c : Prg) (i : Nat) : (opsAt c i).length ≤ i := by
  induction i with
  | zero => simp [opsAt]
  | succ i ih => rw [opsAt]; split <;> (try simp) <;> omega
def oCells (l : List Int) : List Value := l.map fun k => Value.int .u8 k

set_option maxRecDepth 100000 in
set_option maxHeartbeats 4000000 in
theorem Procs.some_ (b off n cap : Nat) (im : Img) (w : World) (hn0 : 0 < n) (hmax : n ≤ 65536) (hC : Rd w (· < w.heap.size) 5 (some ⟨b, off, none⟩) n (codeCells im.code)) :
    Calls Tryd.prog 24 #[.agg #[.slice (some ⟨b, off, none⟩) n cap, .int .i64 im.mem, .int .i64 im.stacks]] w fun e w' =>
      ∃ v, e = .returned v ∧ w'.ownsRow w.heap.size 3 1 v (procsAt im.code n).length (pCells (procsAt im.code n)) ∧ Below w.heap.size w w' := by
  have hn : n = im.code.length := by have := hC.1; rw [codeCells_length] at this; omega
  have hb : b < w.heap.size := hC.blk hn0
  obtain ⟨i2, li, lz, ls, lb⟩ := info_parts info_int'
  have HN := Lib.hid hn; have HC := Lib.hid hC
  clear hn hC
  go_enter Tryd.func24, Tryd.ntmps24
  go_wp2_with fail
  go_loopw [3, 9] (fun v3 v9 wr => ∃ i : Nat, i ≤ n ∧ v9 = .int .i64 i ∧ wr.ownsRow w.heap.size 3 1 v3 (procsAt im.code i).length (pCells (procsAt im.code i)) ∧ Below w.heap.size w wr) (fun _ i _ => n - (intOf i).toNat)
  case atStart => exact ⟨0, Nat.zero_le _, rfl, ⟨by simp [procsAt, pCells], .inl ⟨rfl, rfl⟩⟩, by repeat' (first | (with_reducible assumption) | (with_reducible exact Below.refl _ _) | (with_reducible refine Below.alloc ?_ ?_ _) | (with_reducible refine Bk.drewN_ ?_ _) | (with_reducible refine Below.drew ?_) | (with_reducible refine Below.setCell ?_ ?_ _) | go_size)⟩
  case round =>
    obtain ⟨i, hi, rfl, hown, hB⟩ := hrel
    have hBs := hB.size
    by_cases hlt : i < n
    · obtain ⟨x0, x1, x2, x3, x4⟩ := (HC.out.below hB (fun _ h => h)).insAt (k := i) (HN.out ▸ hlt)
      have hstep : procsAt im.code (i + 1) = if (im.code.getD i default).op = 32 then procsAt im.code i ++ [i] else procsAt im.code i := rfl
      have hle := procsAt_le im.code i
      generalize hx : im.code.getD i default = x at *
      have hOB : ∀ g, u3.ownBlock = some g → w.heap.size ≤ g := fun g hg => own_block_ge hown hg
      have HOB := Lib.hid hOB
      have HO := Lib.hid hown; have HX := Lib.hid hx
      generalize hL : (procsAt im.code i).length = L at *
      have HLen := Lib.hid hL
      clear hown hx hOB hL
      by_cases hop : x.op = 32
      · have hop1 : (x.op == 32) = true := by simp [hop]
        rw [if_pos hop] at hstep
        have HS := Lib.hid hstep
        clear hstep hop
        go_wp2_with (at_builtin; go_must (refine wpList_append_own _ rfl (.tmp 17) (.tmp 19) 46 rfl w.heap.size 3 i2 _ 1 8 Tryd.underlying46 li lz ls lb rfl (by decide) u3 L (pCells (procsAt im.code i)) rfl ((HO.out.alloc _).alloc _) ⟨_, 0, none⟩ 1 1 [.int .i64 i] rfl rfl (cells_new' _ #[.int .i64 i] _ (by simp)) (by simp [Value.oneCell']) (by simp [maxLen]; omega) (by omega) (by simp; omega) ?_))
        intro v2 w2 hown2 hg2 _
        have hB2 : Below w.heap.size w w2 := Below.trans (by repeat' (first | (with_reducible assumption) | (with_reducible exact Below.refl _ _) | (with_reducible refine Below.alloc ?_ ?_ _) | (with_reducible refine Bk.drewN_ ?_ _) | (with_reducible refine Below.drew ?_) | (with_reducible refine Below.setCell ?_ ?_ _) | go_size)) (below_grown (B := w.heap.size) hg2 (by simp; omega) HOB.out)
        have HO2 := Lib.hid hown2
        clear hown2 hg2
        go_wp2_with fail
        refine ⟨⟨i + 1, by omega, by go_num, ?_, hB2⟩, by simp [intOf]; omega⟩
        rw [HS.out]
        have h := HO2.out
        simp only [pCells, List.map_append, List.map_cons, List.map_nil, List.length_append, List.length_cons, List.length_nil, HLen.out]
        exact h
      · have hop1 : (x.op == 32) = false := by simp [hop]
        rw [if_neg hop] at hstep
        have HS := Lib.hid hstep
        clear hstep hop
        go_wp2_with fail
        refine ⟨⟨i + 1, by omega, by go_num, ?_, by repeat' (first | (with_reducible assumption) | (with_reducible exact Below.refl _ _) | (with_reducible refine Below.alloc ?_ ?_ _) | (with_reducible refine Bk.drewN_ ?_ _) | (with_reducible refine Below.drew ?_) | (with_reducible refine Below.setCell ?_ ?_ _) | go_size)⟩, by simp [intOf]; omega⟩
        rw [HS.out, HLen.out]
        exact HO.out.alloc _
    · obtain rfl : i = n := by omega
      go_wp2_with fail
      go_ret
      exact ⟨_, rfl, hown, hB⟩

set_option maxRecDepth 100000 in
theorem Procs.none_ (A : Option Addr) (cap : Nat) (mem st : Int) (w : World) :
    Calls Tryd.prog 24 #[.agg #[.slice A 0 cap, .int .i64 mem, .int .i64 st]] w fun e w' => e = .returned (.slice none 0 0) ∧ Below w.heap.size w w' := by
  go_enter Tryd.func24, Tryd.ntmps24
  go_wp2_with fail
  go_rounds 1
  go_ret
  exact ⟨rfl, by repeat' (first | (with_reducible assumption) | (with_reducible exact Below.refl _ _) | (with_reducible refine Below.alloc ?_ ?_ _) | (with_reducible refine Bk.drewN_ ?_ _) | (with_reducible refine Below.drew ?_) | (with_reducible refine Below.setCell ?_ ?_ _) | go_size)⟩

set_option maxRecDepth 100000 in
set_option maxHeartbeats 4000000 in
theorem Kept.some_ (b off n cap : Nat) (code : Prg) (w : World) (hn0 : 0 < n) (hmax : n ≤ 65536) (hC : Rd w (· < w.heap.size) 5 (some ⟨b, off, none⟩) n (codeCells code)) :
    Calls Tryd.prog 23 #[.slice (some ⟨b, off, none⟩) n cap] w fun e w' =>
      ∃ v, e = .returned v ∧ w'.ownsRow w.heap.size 5 1 v (opsAt code n).length (oCells (opsAt code n)) ∧ Below w.heap.size w w' := by
  have hn : n = code.length := by have := hC.1; rw [codeCells_length] at this; omega
  have hb : b < w.heap.size := hC.blk hn0
  obtain ⟨i2, li, lz, ls, lb⟩ := info_parts info_u8
  have HN := Lib.hid hn; have HC := Lib.hid hC
  clear hn hC
  go_enter Tryd.func23, Tryd.ntmps23
  go_wp2_with fail
  go_loopw [3, 10] (fun v3 v9 wr => ∃ i : Nat, i ≤ n ∧ v9 = .int .i64 i ∧ wr.ownsRow w.heap.size 5 1 v3 (opsAt code i).length (oCells (opsAt code i)) ∧ Below w.heap.size w wr) (fun _ i _ => n - (intOf i).toNat)
  case atStart => exact ⟨0, Nat.zero_le _, rfl, ⟨by simp [opsAt, oCells], .inl ⟨rfl, rfl⟩⟩, by repeat' (first | (with_reducible assumption) | (with_reducible exact Below.refl _ _) | (with_reducible refine Below.alloc ?_ ?_ _) | (with_reducible refine Bk.drewN_ ?_ _) | (with_reducible refine Below.drew ?_) | (with_reducible refine Below.setCell ?_ ?_ _) | go_size)⟩
  case round =>
    obtain ⟨i, hi, rfl, hown, hB⟩ := hrel
    have hBs := hB.size
    by_cases hlt : i < n
    · obtain ⟨x0, x1, x2, x3, x4⟩ := (HC.out.below hB (fun _ h => h)).insAt (k := i) (HN.out ▸ hlt)
      have hstep : opsAt code (i + 1) = if keepB (code.getD i default) = true then opsAt code i ++ [(code.getD i default).op] else opsAt code i := rfl
      have hle := opsAt_le code i
      generalize hx : code.getD i default = x at *
      have hOB : ∀ g, u3.ownBlock = some g → w.heap.size ≤ g := fun g hg => own_block_ge hown hg
      have HOB := Lib.hid hOB
      have HO := Lib.hid hown; have HX := Lib.hid hx
      generalize hL : (opsAt code i).length = L at *
      have HLen := Lib.hid hL
      obtain ⟨⟨t, ok⟩, ht⟩ : ∃ p, targetP x.op x.a x.b = p := ⟨_, rfl⟩
      have hk : keepB x = (ok || decide (x.op = 34) || decide (x.op = 21) || decide (x.op = 0)) := by
        unfold keepB tgt Ins.target; rw [ht]
      have HT := Lib.hid ht
      clear hown hx hOB hL ht
      have hcase : (keepB x = true ∧ (ok = true ∨ (ok = false ∧ (x.op == 34) = true) ∨ (ok = false ∧ (x.op == 34) = false ∧ (x.op == 21) = true) ∨ (ok = false ∧ (x.op == 34) = false ∧ (x.op == 21) = false ∧ (x.op == 0) = true))) ∨ (keepB x = false ∧ ok = false ∧ (x.op == 34) = false ∧ (x.op == 21) = false ∧ (x.op == 0) = false) := by
        rw [hk]
        by_cases e1 : x.op = 34
        · cases ok <;> simp [e1]
        · by_cases e2 : x.op = 21
          · cases ok <;> simp [e2]
          · by_cases e3 : x.op = 0
            · cases ok <;> simp [e3]
            · cases ok <;> simp [e1, e2, e3]
      clear hk
      rcases hcase with ⟨hkb, hc⟩ | ⟨hkb, rfl, e1, e2, e3⟩
      · rw [if_pos hkb] at hstep
        have HS := Lib.hid hstep
        clear hstep hkb
        rcases hc with rfl | ⟨rfl, e1⟩ | ⟨rfl, e1, e2⟩ | ⟨rfl, e1, e2, e3⟩
        all_goals
          go_wp2_with fail
          refine (c_Target' _ _ _ _ _ HT.out _).mono ?_
          rintro e w2 ⟨rfl, hb2⟩
          have hB2 : Below w.heap.size w w2 := Below.trans (by repeat' (first | (with_reducible assumption) | (with_reducible exact Below.refl _ _) | (with_reducible refine Below.alloc ?_ ?_ _) | (with_reducible refine Bk.drewN_ ?_ _) | (with_reducible refine Below.drew ?_) | (with_reducible refine Below.setCell ?_ ?_ _) | go_size)) (hb2.mono (by go_size))
          have K1 : Blk w2 wr.heap.size 23 #[.int .u8 (x.op), .int .i64 (x.a), .int .i64 (x.b), .int .i64 (x.c), .int .i64 (x.d)] := Blk.next (by repeat' (first | with_reducible assumption | (refine Blk.new' ?_ _ _; simp; done) | refine Blk.alloc ?_ _ | refine Blk.drewN ?_ _ | refine Blk.drew ?_)) hb2
          have O2 := own_below (HO.out.alloc _) hb2 (Nat.le_refl _)
          have hs2 := hb2.size
          have HO2 := Lib.hid O2
          obtain ⟨z1, T1, F1⟩ := K1.open_
          clear K1 O2 hb2 x0 x1 x2 x3 x4
          go_wp2_with (at_builtin; refine wpList_append_own _ rfl (.tmp 35) (.tmp 38) 44 rfl w.heap.size 5 i2 _ 1 1 Tryd.underlying44 li lz ls lb rfl (by decide) u3 L (oCells (opsAt code i)) rfl (HO2.out.alloc _) ⟨_, 0, none⟩ 1 1 [.int .u8 x.op] rfl rfl (cell_one_new _ _ _) (by simp [Value.oneCell']) (by simp [maxLen]; omega) (by omega) (by simp; simp at hs2; omega) ?_)
          intro v3 w3 hown3 hg3 _
          have hB3 : Below w.heap.size w w3 := Below.trans (by repeat' (first | (with_reducible assumption) | (with_reducible exact Below.refl _ _) | (with_reducible refine Below.alloc ?_ ?_ _) | (with_reducible refine Bk.drewN_ ?_ _) | (with_reducible refine Below.drew ?_) | (with_reducible refine Below.setCell ?_ ?_ _) | go_size)) (below_grown (B := w.heap.size) hg3 (by simp; simp at hs2; omega) HOB.out)
          have HO3 := Lib.hid hown3
          clear hown3 hg3
          go_wp2_with fail
          refine ⟨⟨i + 1, by omega, by go_num, ?_, hB3⟩, by simp [intOf]; omega⟩
          rw [HS.out]
          have h := HO3.out
          simp only [oCells, List.map_append, List.map_cons, List.map_nil, List.length_append, List.length_cons, List.length_nil, HLen.out]
          exact h
      · rw [if_neg (by rw [hkb]; simp)] at hstep
        have HS := Lib.hid hstep
        clear hstep hkb
        go_wp2_with fail
        refine (c_Target' _ _ _ _ _ HT.out _).mono ?_
        rintro e w2 ⟨rfl, hb2⟩
        have hB2 : Below w.heap.size w w2 := Below.trans (by repeat' (first | (with_reducible assumption) | (with_reducible exact Below.refl _ _) | (with_reducible refine Below.alloc ?_ ?_ _) | (with_reducible refine Bk.drewN_ ?_ _) | (with_reducible refine Below.drew ?_) | (with_reducible refine Below.setCell ?_ ?_ _) | go_size)) (hb2.mono (by go_size))
        have K1 : Blk w2 wr.heap.size 23 #[.int .u8 (x.op), .int .i64 (x.a), .int .i64 (x.b), .int .i64 (x.c), .int .i64 (x.d)] := Blk.next (by repeat' (first | with_reducible assumption | (refine Blk.new' ?_ _ _; simp; done) | refine Blk.alloc ?_ _ | refine Blk.drewN ?_ _ | refine Blk.drew ?_)) hb2
        have O2 := own_below (HO.out.alloc _) hb2 (Nat.le_refl _)
        have HO2 := Lib.hid O2
        obtain ⟨z1, T1, F1⟩ := K1.open_
        clear K1 O2 hb2 x0 x1 x2 x3 x4
        go_wp2_with fail
        refine ⟨⟨i + 1, by omega, by go_num, ?_, by repeat' (first | (with_reducible assumption) | (with_reducible exact Below.refl _ _) | (with_reducible refine Below.alloc ?_ ?_ _) | (with_reducible refine Bk.drewN_ ?_ _) | (with_reducible refine Below.drew ?_) | (with_reducible refine Below.setCell ?_ ?_ _) | go_size)⟩, by simp [intOf]; omega⟩
        rw [HS.out, HLen.out]
        exact HO2.out
    · obtain rfl : i = n := by omega
      go_wp2_with fail
      go_ret
      exact ⟨_, rfl, hown, hB⟩

set_option maxRecDepth 100000 in
theorem Kept.none_ (A : Option Addr) (cap : Nat) (w : World) :
    Calls Tryd.prog 23 #[.slice A 0 cap] w fun e w' => e = .returned (.slice none 0 0) ∧ Below w.heap.size w w' := by
  go_enter Tryd.func23, Tryd.ntmps23
  go_wp2_with fail
  go_rounds 1
  go_ret
  exact ⟨rfl, by repeat' (first | (with_reducible assumption) | (with_reducible exact Below.refl _ _) | (with_reducible refine Below.alloc ?_ ?_ _) | (with_reducible refine Bk.drewN_ ?_ _) | (with_reducible refine Below.drew ?_) | (with_reducible refine Below.setCell ?_ ?_ _) | go_size)⟩
end Go.Proofs.YtfobnkgfbdmakaaDoor
