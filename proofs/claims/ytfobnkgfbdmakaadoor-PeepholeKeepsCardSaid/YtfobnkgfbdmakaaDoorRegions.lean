/- The walk of image.regions. -/
import Derived.Test.YtfobnkgfbdmakaaDoorPartner
set_option linter.unusedVariables false
namespace Go.Proofs.YtfobnkgfbdmakaaDoor
open Go.RowKit Bk

/-- The cells of the stack of open procedures: the first one opened stands first. -/
def openCells : List (Int × Int) → List Value
  | [] => []
  | (f, t) :: rest => openCells rest ++ [.int .i64 f, .int .i64 t]
theorem openCells_length (l : List (Int × Int)) : (openCells l).length = l.length * 2 := by
  induction l with
  | nil => rfl
  | cons x l ih => obtain ⟨f, t⟩ := x; simp [openCells, ih]; omega

/-- What the two rows hold behind i rounds. -/
def regF (code : Prg) (i : Nat) (k : Nat) : Value := if k < i then .int .i64 (regionAt code k) else .int .i64 0
def insF (code : Prg) (i : Nat) (k : Nat) : Value := if k < i then .bool (insideAt code k) else .bool false

theorem regF_succ {code : Prg} {i : Nat} {r : Int} (h : regionAt code i = r) (k : Nat) : (if k = i then .int .i64 r else regF code i k) = regF code (i + 1) k := by
  unfold regF
  by_cases h1 : k = i
  · subst h1; simp [h]
  · by_cases h2 : k < i
    · rw [if_neg h1, if_pos h2, if_pos (by omega)]
    · rw [if_neg h1, if_neg h2, if_neg (by omega)]
theorem regF_succ2 {code : Prg} {i : Nat} {r : Int} {x : Value} (h : regionAt code i = r) (k : Nat) : (if k = i then .int .i64 r else if k = i then x else regF code i k) = regF code (i + 1) k := by
  rw [← regF_succ h k]
  by_cases h1 : k = i <;> simp [h1]
theorem insF_succ {code : Prg} {i : Nat} {r : Bool} (h : insideAt code i = r) (k : Nat) : (if k = i then .bool r else insF code i k) = insF code (i + 1) k := by
  unfold insF
  by_cases h1 : k = i
  · subst h1; simp [h]
  · by_cases h2 : k < i
    · rw [if_neg h1, if_pos h2, if_pos (by omega)]
    · rw [if_neg h1, if_neg h2, if_neg (by omega)]

theorem info_int : (Tryd.prog.info? 3).map (fun i => (i.zero, i.size, i.bytes)) = some (some (.int .i64 0), 1, 8) := by kernel_rfl
theorem info_bool : (Tryd.prog.info? 4).map (fun i => (i.zero, i.size, i.bytes)) = some (some (.bool false), 1, 1) := by kernel_rfl
theorem info_link : (Tryd.prog.info? 64).map (fun i => (i.zero, i.size, i.bytes)) = some (some (.agg #[.int .i64 0, .int .i64 0]), 2, 16) := by kernel_rfl

set_option maxRecDepth 100000 in
set_option maxHeartbeats 2000000 in
theorem c_regions (b off n cap : Nat) (code : Prg) (w : World) (hn0 : 0 < n) (hmax : n ≤ 65536)
    (hC : Rd w (· < w.heap.size) 5 (some ⟨b, off, none⟩) n (codeCells code)) (hw : CodeWf code) (hTab : TableAt w) :
    Calls Tryd.prog 37 #[.slice (some ⟨b, off, none⟩) n cap] w fun e w' =>
      e = .returned (.tuple #[.slice (some ⟨w.heap.size + 1, 0, none⟩) n n, .slice (some ⟨w.heap.size + 2, 0, none⟩) n n]) ∧
        w'.rowIs (w.heap.size + 1) 3 n (fun k => .int .i64 (regionAt code k)) ∧ w'.rowIs (w.heap.size + 2) 4 n (fun k => .bool (insideAt code k)) ∧ Below w.heap.size w w' := by
  have hn : n = code.length := by have := hC.1; rw [codeCells_length] at this; omega
  have hb : b < w.heap.size := hC.blk (by omega)
  obtain ⟨i0, hi0, hz0, hs0, hb0⟩ := info_parts info_int
  obtain ⟨i1, hi1, hz1, hs1, hb1⟩ := info_parts info_bool
  obtain ⟨i2, li, lz, ls, lb⟩ := info_parts info_link
  have mk0 : ∀ W : World, (Instr.makeSlice 46 (.int .i64 (n : Int)) (.int .i64 (n : Int))).run Tryd.prog W = .ok (.slice (some ⟨W.heap.size, 0, none⟩) n n) (W.alloc (.cells (madeCells #[.int .i64 0] n) 3)) := fun W => by
    have := run_make_rowN (P := Tryd.prog) 46 3 i0 _ Tryd.underlying46 hi0 hz0 .i64 .i64 n n (Nat.le_refl _) (by rw [hb0]; omega) (by omega) W
    rw [hs0, Nat.mul_one] at this; exact this
  have mk1 : ∀ W : World, (Instr.makeSlice 57 (.int .i64 (n : Int)) (.int .i64 (n : Int))).run Tryd.prog W = .ok (.slice (some ⟨W.heap.size, 0, none⟩) n n) (W.alloc (.cells (madeCells #[.bool false] n) 4)) := fun W => by
    have := run_make_rowN (P := Tryd.prog) 57 4 i1 _ Tryd.underlying57 hi1 hz1 .i64 .i64 n n (Nat.le_refl _) (by rw [hb1]; omega) (by omega) W
    rw [hs1, Nat.mul_one] at this; exact this
  have HN := Lib.hid hn; have HC := Lib.hid hC; have HT := Lib.hid hTab
  clear hn hC hTab hi0 hz0 hs0 hb0 hi1 hz1 hs1 hb1
  go_enter Tryd.func37, Tryd.ntmps37
  go_wp2_with fail
  clear mk0 mk1
  go_loopw [7, 22] (fun v7 v22 wr => ∃ i : Nat, i ≤ n ∧ v22 = .int .i64 i ∧ wr.rowIs (w.heap.size + 1) 3 n (regF code i) ∧ wr.rowIs (w.heap.size + 2) 4 n (insF code i) ∧
      wr.ownsRow (w.heap.size + 3) 64 2 v7 (openAt code i).length (openCells (openAt code i)) ∧ wr.cell? ⟨w.heap.size, 0, none⟩ = some (.slice (some ⟨b, off, none⟩) n cap) ∧ wr.cell? ⟨w.heap.size, 1, none⟩ = some (.int .i64 0) ∧ wr.cell? ⟨w.heap.size, 2, none⟩ = some (.int .i64 0) ∧ Below w.heap.size w wr)
    (fun _ i _ => n - (intOf i).toNat)
  case atStart =>
    refine ⟨0, Nat.zero_le _, rfl, ?_, ?_, ⟨rfl, .inl ⟨rfl, rfl⟩⟩, ?_, ?_, ?_, by repeat' (first | (with_reducible assumption) | (with_reducible exact Below.refl _ _) | (with_reducible refine Below.alloc ?_ ?_ _) | (with_reducible refine Bk.drewN_ ?_ _) | (with_reducible refine Below.drew ?_) | (with_reducible refine Below.setCell ?_ ?_ _) | go_size)⟩
    · have := (World.rowIs_made (w.alloc (.cells #[.slice (some ⟨b, off, none⟩) n cap, .int .i64 0, .int .i64 0] 30)) (.int .i64 0) n 3).alloc (.cells (madeCells #[.bool false] n) 4)
      exact (by simpa using this : World.rowIs _ (w.heap.size + 1) 3 n _).congr (fun k _ => by simp [regF])
    · have := World.rowIs_made ((w.alloc (.cells #[.slice (some ⟨b, off, none⟩) n cap, .int .i64 0, .int .i64 0] 30)).alloc (.cells (madeCells #[.int .i64 0] n) 3)) (.bool false) n 4
      exact (by simpa using this : World.rowIs _ (w.heap.size + 2) 4 n _).congr (fun k _ => by simp [insF])
    · go_simp
    · go_simp
    · go_simp
  case round =>
    obtain ⟨i, hi, rfl, hreg, hins, hown, c0, c1, c2, hB⟩ := hrel
    by_cases hlt : i < n
    · have hbr : b < wr.heap.size := Nat.lt_of_lt_of_le hb hB.size
      obtain ⟨x0, x1, x2, x3, x4⟩ := (HC.out.below hB (fun _ h => h)).insAt (k := i) (HN.out ▸ hlt)
      have hreg' := Lib.hid hreg; have hins' := Lib.hid hins; have hown' := Lib.hid hown
      clear hreg hins hown
      generalize hx : code.getD i default = x at *
      have HX := Lib.hid hx; clear hx
      go_wp2_with fail
      have ci := hins'.out.cell hlt
      have fi := hins'.out.frozen i
      have cr := hreg'.out.cell hlt
      have fr := hreg'.out.frozen i
      have hz2 := hins'.out.lt
      have hz1 := hreg'.out.lt
      have hz0 : w.heap.size < wr.heap.size := by omega
      simp only [insF, regF, Nat.lt_irrefl, if_false] at ci cr
      obtain ⟨p, pok, hp⟩ : ∃ p pok, partner code i = (p, pok) := ⟨_, _, rfl⟩
      have HP := Lib.hid hp; clear hp
      obtain ⟨v32, h32⟩ : ∃ v, (x.op == 32) = v := ⟨_, rfl⟩
      have H32 := Lib.hid h32
      have HS : ∀ l, dropOpen i (openAt code i) = l → openAt code (i + 1) = if pok = true ∧ v32 = true then ((i : Int), p) :: l else l := by
        intro l hl
        rw [openAt_succ, HP.out, HX.out, hl, ← h32]; simp
      have HS := Lib.hid HS
      go_loop [7] (fun v => ∃ l : List (Int × Int), dropOpen i l = dropOpen i (openAt code i) ∧ l.length ≤ 65536 ∧ wr.ownsRow (w.heap.size + 3) 64 2 v l.length (openCells l)) (fun v => sliceLen v)
      case atStart => exact ⟨_, rfl, by have := openAt_length code i; omega, hown'.out⟩
      case round =>
        obtain ⟨l, hl, hlen, ho⟩ := hrel
        rcases l with _ | ⟨⟨f, t⟩, rest⟩
        · have hl' : dropOpen i (openAt code i) = [] := hl.symm
          have HL := Lib.hid (HS.out _ hl')
          have HI := Lib.hid ((insideAt_eq code i).trans (by rw [hl']; rfl : (!(dropOpen i (openAt code i)).isEmpty) = false))
          have HR := Lib.hid (regionAt_eq code i)
          obtain ⟨A, cap', hv⟩ : ∃ A cap', u7 = Value.slice A 0 cap' := by
            rcases ho.2 with ⟨hv, _⟩ | ⟨g, cap', cur, hv, _⟩
            · exact ⟨_, _, hv⟩
            · exact ⟨_, _, hv⟩
          have hOB : ∀ k, (Value.slice A 0 cap').ownBlock = some k → w.heap.size + 3 ≤ k := fun k hk => own_block_ge (hv ▸ ho) hk
          have HO := Lib.hid ho
          clear ho hl hl' hlen
          subst hv
          cases pok <;> cases v32
          case' true.true =>
            go_wp2_with fail
            refine (c_Partner' _ _ _ _ _ _ _ HP.out _ (HC.out.next (by repeat' (first | (with_reducible assumption) | (with_reducible exact Below.refl _ _) | (with_reducible refine Below.alloc ?_ ?_ _) | (with_reducible refine Bk.drewN_ ?_ _) | (with_reducible refine Below.drew ?_) | (with_reducible refine Below.setCell ?_ ?_ _) | go_size))) hw (HT.out.next (by repeat' (first | (with_reducible assumption) | (with_reducible exact Below.refl _ _) | (with_reducible refine Below.alloc ?_ ?_ _) | (with_reducible refine Bk.drewN_ ?_ _) | (with_reducible refine Below.drew ?_) | (with_reducible refine Below.setCell ?_ ?_ _) | go_size)))).mono ?_
            rintro e w1 ⟨rfl, hb1⟩
            have hB1 : Below w.heap.size w w1 := Below.next (by repeat' (first | (with_reducible assumption) | (with_reducible exact Below.refl _ _) | (with_reducible refine Below.alloc ?_ ?_ _) | (with_reducible refine Bk.drewN_ ?_ _) | (with_reducible refine Below.drew ?_) | (with_reducible refine Below.setCell ?_ ?_ _) | go_size)) hb1
            have R1 : w1.rowIs (w.heap.size + 1) 3 n (regF code i) := rowIs_below ((hreg'.out.setOther (by simp) _).alloc _) hb1 (by simp; omega)
            have I1 : w1.rowIs (w.heap.size + 2) 4 n (fun j => if j = i then .bool false else insF code i j) := rowIs_below ((hins'.out.set i _).alloc _) hb1 (by simp; omega)
            have O1 := own_below ((own_setCell HO.out (by omega)).alloc _) hb1 (Nat.le_refl _)
            obtain ⟨hc1, hf1⟩ := bcell hb1
            have HR1 := Lib.hid R1; have HI1 := Lib.hid I1; have HO1 := Lib.hid O1
            have hzz : w.heap.size + 2 < w1.heap.size := I1.lt
            have hzx : wr.heap.size < w1.heap.size := by have := hb1.size; simp at this; omega
            have hzy : w.heap.size < w1.heap.size := by omega
            clear hb1 R1 I1 O1 hf1
            go_wp2_with (at_builtin; go_loud (refine wpList_append_own _ rfl (.tmp 64) (.tmp 68) 62 rfl (w.heap.size + 3) 64 i2 _ 2 16 Tryd.underlying62 li lz ls lb rfl (by decide) _ _ _ rfl (HO1.out.alloc _) ⟨w1.heap.size, 0, none⟩ 1 1 [.int .i64 i, .int .i64 p] rfl rfl (cell_two_new _ _ _ _) (by simp [Value.oneCell']) (by first | decide | (simp [maxLen]; omega)) (by simp; try omega) (by simp; omega) ?_))
            intro v2 w2 hown2 hg2 _
            have R2 : w2.rowIs (w.heap.size + 1) 3 n (regF code i) := rowIs_grown (HR1.out.alloc _) hg2 (rowIs_own (HR1.out.alloc (.cells #[.int .i64 i, .int .i64 p] 64)) (HO1.out.alloc (.cells #[.int .i64 i, .int .i64 p] 64)) (by decide))
            have I2 := rowIs_grown (HI1.out.alloc _) hg2 (rowIs_own (HI1.out.alloc (.cells #[.int .i64 i, .int .i64 p] 64)) (HO1.out.alloc (.cells #[.int .i64 i, .int .i64 p] 64)) (by decide))
            have hB2 : Below w.heap.size w w2 := Below.trans (by repeat' (first | (with_reducible assumption) | (with_reducible exact Below.refl _ _) | (with_reducible refine Below.alloc ?_ ?_ _) | (with_reducible refine Bk.drewN_ ?_ _) | (with_reducible refine Below.drew ?_) | (with_reducible refine Below.setCell ?_ ?_ _) | go_size)) (below_grown (B := w.heap.size) hg2 (by simp; omega) (fun k hk => by have := hOB k hk; omega))
            have hbk : w2.heap[w.heap.size]? = (w1.alloc (.cells #[.int .i64 i, .int .i64 p] 64)).heap[w.heap.size]? := hg2.block _ (by simp; omega) (fun e => by have := hOB _ e.symm; omega)
            have k0 : w2.cell? ⟨w.heap.size, 0, none⟩ = some (.slice (some ⟨b, off, none⟩) n cap) := (World.cell?_of_block hbk).trans (by go_simp)
            have k1 : w2.cell? ⟨w.heap.size, 1, none⟩ = some (.int .i64 0) := (World.cell?_of_block hbk).trans (by go_simp)
            have k2 : w2.cell? ⟨w.heap.size, 2, none⟩ = some (.int .i64 0) := (World.cell?_of_block hbk).trans (by go_simp)
            obtain ⟨g2, cap2, hv2, hgg1, hgg2, hgg3, hgg4, hcells2⟩ := own_some hown2 (by omega)
            have hx2 : w2.cell? ⟨g2, 0, none⟩ = some (.int .i64 i) := hcells2 _ _ (by rfl)
            subst hv2
            have cr2 := R2.cell hlt
            have fr2 := R2.frozen i
            simp only [regF, Nat.lt_irrefl, if_false] at cr2
            have HR2 := Lib.hid R2; have HI2 := Lib.hid I2; have HO2 := Lib.hid hown2
            have hne : ¬ g2 = w.heap.size + 1 := by omega
            clear hc1 R2 I2 hown2 hcells2 hg2 hbk
            go_wp2_with fail
            have hI : insideAt code i = false := HI.out
            have e1 : openAt code (i + 1) = [((i : Int), p)] := by rw [HL.out]; simp
            have hR : regionAt code i = i := by rw [HR.out, e1]
            refine ⟨⟨i + 1, by omega, by go_num, ?_, ?_, ?_, ?_, ?_, ?_, by repeat' (first | (with_reducible assumption) | (with_reducible exact Below.refl _ _) | (with_reducible refine Below.alloc ?_ ?_ _) | (with_reducible refine Bk.drewN_ ?_ _) | (with_reducible refine Below.drew ?_) | (with_reducible refine Below.setCell ?_ ?_ _) | go_size)⟩, by simp [intOf]; omega⟩
            · exact ((HR2.out.set i _).set i _).congr fun k _ => regF_succ2 hR k
            · exact ((HI2.out.setOther (by simp) _).setOther (by simp) _).congr fun k _ => insF_succ hI k
            · rw [e1]; exact own_setCell (own_setCell HO2.out (by omega)) (by omega)
            · go_simp
            · go_simp
            · go_simp
          all_goals
            go_wp2_with fail
            refine (c_Partner' _ _ _ _ _ _ _ HP.out _ (HC.out.next (by repeat' (first | (with_reducible assumption) | (with_reducible exact Below.refl _ _) | (with_reducible refine Below.alloc ?_ ?_ _) | (with_reducible refine Bk.drewN_ ?_ _) | (with_reducible refine Below.drew ?_) | (with_reducible refine Below.setCell ?_ ?_ _) | go_size))) hw (HT.out.next (by repeat' (first | (with_reducible assumption) | (with_reducible exact Below.refl _ _) | (with_reducible refine Below.alloc ?_ ?_ _) | (with_reducible refine Bk.drewN_ ?_ _) | (with_reducible refine Below.drew ?_) | (with_reducible refine Below.setCell ?_ ?_ _) | go_size)))).mono ?_
            rintro e w1 ⟨rfl, hb1⟩
            have hB1 : Below w.heap.size w w1 := Below.next (by repeat' (first | (with_reducible assumption) | (with_reducible exact Below.refl _ _) | (with_reducible refine Below.alloc ?_ ?_ _) | (with_reducible refine Bk.drewN_ ?_ _) | (with_reducible refine Below.drew ?_) | (with_reducible refine Below.setCell ?_ ?_ _) | go_size)) hb1
            have R1 : w1.rowIs (w.heap.size + 1) 3 n (regF code i) := rowIs_below ((hreg'.out.setOther (by simp) _).alloc _) hb1 (by simp; omega)
            have I1 : w1.rowIs (w.heap.size + 2) 4 n (fun j => if j = i then .bool false else insF code i j) := rowIs_below ((hins'.out.set i _).alloc _) hb1 (by simp; omega)
            have O1 := own_below ((own_setCell HO.out (by omega)).alloc _) hb1 (Nat.le_refl _)
            obtain ⟨hc1, hf1⟩ := bcell hb1
            have HR1 := Lib.hid R1; have HI1 := Lib.hid I1; have HO1 := Lib.hid O1
            have hzz : w.heap.size + 2 < w1.heap.size := I1.lt
            have hzx : wr.heap.size < w1.heap.size := by have := hb1.size; simp at this; omega
            have hzy : w.heap.size < w1.heap.size := by omega
            have cr1 := R1.cell hlt
            have fr1 := R1.frozen i
            simp only [regF, Nat.lt_irrefl, if_false] at cr1
            clear hb1 R1 I1 O1 hf1
            go_wp2_with fail
            have hI : insideAt code i = false := HI.out
            have e1 : openAt code (i + 1) = [] := by rw [HL.out]; simp
            have hR : regionAt code i = -1 := by rw [HR.out, e1]
            refine ⟨⟨i + 1, by omega, by go_num, ?_, ?_, ?_, ?_, ?_, ?_, by repeat' (first | (with_reducible assumption) | (with_reducible exact Below.refl _ _) | (with_reducible refine Below.alloc ?_ ?_ _) | (with_reducible refine Bk.drewN_ ?_ _) | (with_reducible refine Below.drew ?_) | (with_reducible refine Below.setCell ?_ ?_ _) | go_size)⟩, by simp [intOf]; omega⟩
            · exact (HR1.out.set i _).congr fun k _ => regF_succ hR k
            · exact (HI1.out.setOther (by simp) _).congr fun k _ => insF_succ hI k
            · rw [e1]; exact own_setCell HO1.out (by omega)
            · go_simp
            · go_simp
            · go_simp
        · have hlen' : rest.length + 1 ≤ 65536 := by simpa using hlen
          obtain ⟨g, cap', hv, hg1, hg2, hg3, hg4, hcells⟩ := own_some ho (by simp)
          have hg5 : rest.length + 1 ≤ cap' := by simpa using hg3
          have hg6 : rest.length ≤ cap' := by omega
          have hf : wr.cell? ⟨g, rest.length * 2 + 1, none⟩ = some (.int .i64 t) := hcells _ _ (by simp [openCells, openCells_length])
          have hf0 : wr.cell? ⟨g, rest.length * 2, none⟩ = some (.int .i64 f) := hcells _ _ (by simp [openCells, openCells_length])
          by_cases hti : t < (i : Int)
          · have hl' : dropOpen i rest = dropOpen i (openAt code i) := by rw [← hl]; simp [dropOpen, hti]
            have hpop := ownsRow_pop (openCells_length rest) (hv ▸ ho)
            have HPop := Lib.hid hpop; have HL := Lib.hid hl'; have HCL := Lib.hid hcells
            clear ho hpop hl hl' hcells
            subst hv
            go_wp2_with fail
            exact ⟨⟨rest, HL.out, by omega, HPop.out⟩, by simp [sliceLen]⟩
          · have hl' : dropOpen i (openAt code i) = (f, t) :: rest := by rw [← hl]; simp [dropOpen, hti]
            have HL := Lib.hid (HS.out _ hl')
            have HI := Lib.hid ((insideAt_eq code i).trans (by rw [hl']; rfl : (!(dropOpen i (openAt code i)).isEmpty) = true))
            have HR := Lib.hid (regionAt_eq code i)
            have hOB : ∀ k, (Value.slice (some ⟨g, 0, none⟩) (rest.length + 1) cap').ownBlock = some k → w.heap.size + 3 ≤ k := fun k hk => own_block_ge (hv ▸ ho) hk
            have HO := Lib.hid ho; have HCL := Lib.hid hcells
            clear ho hl hl' hlen hcells
            subst hv
            cases pok <;> cases v32
            case' true.true =>
              go_wp2_with fail
              refine (c_Partner' _ _ _ _ _ _ _ HP.out _ (HC.out.next (by repeat' (first | (with_reducible assumption) | (with_reducible exact Below.refl _ _) | (with_reducible refine Below.alloc ?_ ?_ _) | (with_reducible refine Bk.drewN_ ?_ _) | (with_reducible refine Below.drew ?_) | (with_reducible refine Below.setCell ?_ ?_ _) | go_size))) hw (HT.out.next (by repeat' (first | (with_reducible assumption) | (with_reducible exact Below.refl _ _) | (with_reducible refine Below.alloc ?_ ?_ _) | (with_reducible refine Bk.drewN_ ?_ _) | (with_reducible refine Below.drew ?_) | (with_reducible refine Below.setCell ?_ ?_ _) | go_size)))).mono ?_
              rintro e w1 ⟨rfl, hb1⟩
              have hB1 : Below w.heap.size w w1 := Below.next (by repeat' (first | (with_reducible assumption) | (with_reducible exact Below.refl _ _) | (with_reducible refine Below.alloc ?_ ?_ _) | (with_reducible refine Bk.drewN_ ?_ _) | (with_reducible refine Below.drew ?_) | (with_reducible refine Below.setCell ?_ ?_ _) | go_size)) hb1
              have R1 : w1.rowIs (w.heap.size + 1) 3 n (regF code i) := rowIs_below ((hreg'.out.setOther (by simp) _).alloc _) hb1 (by simp; omega)
              have I1 : w1.rowIs (w.heap.size + 2) 4 n (fun j => if j = i then .bool true else insF code i j) := rowIs_below ((hins'.out.set i _).alloc _) hb1 (by simp; omega)
              have O1 := own_below ((own_setCell HO.out (by omega)).alloc _) hb1 (Nat.le_refl _)
              obtain ⟨hc1, hf1⟩ := bcell hb1
              have HR1 := Lib.hid R1; have HI1 := Lib.hid I1; have HO1 := Lib.hid O1
              have hzz : w.heap.size + 2 < w1.heap.size := I1.lt
              have hzx : wr.heap.size < w1.heap.size := by have := hb1.size; simp at this; omega
              have hzy : w.heap.size < w1.heap.size := by omega
              clear hb1 R1 I1 O1 hf1
              go_wp2_with (at_builtin; go_loud (refine wpList_append_own _ rfl (.tmp 64) (.tmp 68) 62 rfl (w.heap.size + 3) 64 i2 _ 2 16 Tryd.underlying62 li lz ls lb rfl (by decide) _ _ _ rfl (HO1.out.alloc _) ⟨w1.heap.size, 0, none⟩ 1 1 [.int .i64 i, .int .i64 p] rfl rfl (cell_two_new _ _ _ _) (by simp [Value.oneCell']) (by first | decide | (simp [maxLen]; omega)) (by simp; try omega) (by simp; omega) ?_))
              intro v2 w2 hown2 hg2 _
              have R2 : w2.rowIs (w.heap.size + 1) 3 n (regF code i) := rowIs_grown (HR1.out.alloc _) hg2 (rowIs_own (HR1.out.alloc (.cells #[.int .i64 i, .int .i64 p] 64)) (HO1.out.alloc (.cells #[.int .i64 i, .int .i64 p] 64)) (by decide))
              have I2 := rowIs_grown (HI1.out.alloc _) hg2 (rowIs_own (HI1.out.alloc (.cells #[.int .i64 i, .int .i64 p] 64)) (HO1.out.alloc (.cells #[.int .i64 i, .int .i64 p] 64)) (by decide))
              have hB2 : Below w.heap.size w w2 := Below.trans (by repeat' (first | (with_reducible assumption) | (with_reducible exact Below.refl _ _) | (with_reducible refine Below.alloc ?_ ?_ _) | (with_reducible refine Bk.drewN_ ?_ _) | (with_reducible refine Below.drew ?_) | (with_reducible refine Below.setCell ?_ ?_ _) | go_size)) (below_grown (B := w.heap.size) hg2 (by simp; omega) (fun k hk => by have := hOB k hk; omega))
              have hbk : w2.heap[w.heap.size]? = (w1.alloc (.cells #[.int .i64 i, .int .i64 p] 64)).heap[w.heap.size]? := hg2.block _ (by simp; omega) (fun e => by have := hOB _ e.symm; omega)
              have k0 : w2.cell? ⟨w.heap.size, 0, none⟩ = some (.slice (some ⟨b, off, none⟩) n cap) := (World.cell?_of_block hbk).trans (by go_simp)
              have k1 : w2.cell? ⟨w.heap.size, 1, none⟩ = some (.int .i64 0) := (World.cell?_of_block hbk).trans (by go_simp)
              have k2 : w2.cell? ⟨w.heap.size, 2, none⟩ = some (.int .i64 0) := (World.cell?_of_block hbk).trans (by go_simp)
              obtain ⟨g2, cap2, hv2, hgg1, hgg2, hgg3, hgg4, hcells2⟩ := own_some hown2 (by omega)
              have hx2 : w2.cell? ⟨g2, (rest.length + 1) * 2, none⟩ = some (.int .i64 i) := hcells2 _ _ (by rw [List.getElem?_append_right (by rw [openCells_length]; exact Nat.le_refl _), openCells_length]; simp)
              subst hv2
              have cr2 := R2.cell hlt
              have fr2 := R2.frozen i
              simp only [regF, Nat.lt_irrefl, if_false] at cr2
              have HR2 := Lib.hid R2; have HI2 := Lib.hid I2; have HO2 := Lib.hid hown2
              have hne : ¬ g2 = w.heap.size + 1 := by omega
              clear hc1 R2 I2 hown2 hcells2 hg2 hbk
              go_wp2_with fail
              have hI : insideAt code i = true := HI.out
              have e1 : openAt code (i + 1) = ((i : Int), p) :: (f, t) :: rest := by rw [HL.out]; simp
              have hR : regionAt code i = i := by rw [HR.out, e1]
              refine ⟨⟨i + 1, by omega, by go_num, ?_, ?_, ?_, ?_, ?_, ?_, by repeat' (first | (with_reducible assumption) | (with_reducible exact Below.refl _ _) | (with_reducible refine Below.alloc ?_ ?_ _) | (with_reducible refine Bk.drewN_ ?_ _) | (with_reducible refine Below.drew ?_) | (with_reducible refine Below.setCell ?_ ?_ _) | go_size)⟩, by simp [intOf]; omega⟩
              · exact ((HR2.out.set i _).set i _).congr fun k _ => regF_succ2 hR k
              · exact ((HI2.out.setOther (by simp) _).setOther (by simp) _).congr fun k _ => insF_succ hI k
              · rw [e1]; exact own_setCell (own_setCell HO2.out (by omega)) (by omega)
              · go_simp
              · go_simp
              · go_simp
            all_goals
              go_wp2_with fail
              refine (c_Partner' _ _ _ _ _ _ _ HP.out _ (HC.out.next (by repeat' (first | (with_reducible assumption) | (with_reducible exact Below.refl _ _) | (with_reducible refine Below.alloc ?_ ?_ _) | (with_reducible refine Bk.drewN_ ?_ _) | (with_reducible refine Below.drew ?_) | (with_reducible refine Below.setCell ?_ ?_ _) | go_size))) hw (HT.out.next (by repeat' (first | (with_reducible assumption) | (with_reducible exact Below.refl _ _) | (with_reducible refine Below.alloc ?_ ?_ _) | (with_reducible refine Bk.drewN_ ?_ _) | (with_reducible refine Below.drew ?_) | (with_reducible refine Below.setCell ?_ ?_ _) | go_size)))).mono ?_
              rintro e w1 ⟨rfl, hb1⟩
              have hB1 : Below w.heap.size w w1 := Below.next (by repeat' (first | (with_reducible assumption) | (with_reducible exact Below.refl _ _) | (with_reducible refine Below.alloc ?_ ?_ _) | (with_reducible refine Bk.drewN_ ?_ _) | (with_reducible refine Below.drew ?_) | (with_reducible refine Below.setCell ?_ ?_ _) | go_size)) hb1
              have R1 : w1.rowIs (w.heap.size + 1) 3 n (regF code i) := rowIs_below ((hreg'.out.setOther (by simp) _).alloc _) hb1 (by simp; omega)
              have I1 : w1.rowIs (w.heap.size + 2) 4 n (fun j => if j = i then .bool true else insF code i j) := rowIs_below ((hins'.out.set i _).alloc _) hb1 (by simp; omega)
              have O1 := own_below ((own_setCell HO.out (by omega)).alloc _) hb1 (Nat.le_refl _)
              obtain ⟨hc1, hf1⟩ := bcell hb1
              have HR1 := Lib.hid R1; have HI1 := Lib.hid I1; have HO1 := Lib.hid O1
              have hzz : w.heap.size + 2 < w1.heap.size := I1.lt
              have hzx : wr.heap.size < w1.heap.size := by have := hb1.size; simp at this; omega
              have hzy : w.heap.size < w1.heap.size := by omega
              have cr1 := R1.cell hlt
              have fr1 := R1.frozen i
              simp only [regF, Nat.lt_irrefl, if_false] at cr1
              clear hb1 R1 I1 O1 hf1
              go_wp2_with fail
              have hI : insideAt code i = true := HI.out
              have e1 : openAt code (i + 1) = (f, t) :: rest := by rw [HL.out]; simp
              have hR : regionAt code i = f := by rw [HR.out, e1]
              refine ⟨⟨i + 1, by omega, by go_num, ?_, ?_, ?_, ?_, ?_, ?_, by repeat' (first | (with_reducible assumption) | (with_reducible exact Below.refl _ _) | (with_reducible refine Below.alloc ?_ ?_ _) | (with_reducible refine Bk.drewN_ ?_ _) | (with_reducible refine Below.drew ?_) | (with_reducible refine Below.setCell ?_ ?_ _) | go_size)⟩, by simp [intOf]; omega⟩
              · exact ((HR1.out.set i _).set i _).congr fun k _ => regF_succ2 hR k
              · exact ((HI1.out.setOther (by simp) _).setOther (by simp) _).congr fun k _ => insF_succ hI k
              · rw [e1]; exact own_setCell (own_setCell HO1.out (by omega)) (by omega)
              · go_simp
              · go_simp
              · go_simp
    · obtain rfl : i = n := by omega
      go_wp2_with fail
      go_ret2
      exact ⟨rfl, hreg.congr (fun k hk => by simp [regF, hk]), hins.congr (fun k hk => by simp [insF, hk]), hB⟩

set_option maxRecDepth 100000 in
theorem c_regions0 (A : Option Addr) (cap : Nat) (code : Prg) (w : World) :
    Calls Tryd.prog 37 #[.slice A 0 cap] w fun e w' =>
      e = .returned (.tuple #[.slice (some ⟨w.heap.size + 1, 0, none⟩) 0 0, .slice (some ⟨w.heap.size + 2, 0, none⟩) 0 0]) ∧ Below w.heap.size w w' := by
  obtain ⟨i0, hi0, hz0, hs0, hb0⟩ := info_parts info_int
  obtain ⟨i1, hi1, hz1, hs1, hb1⟩ := info_parts info_bool
  have mk0 : ∀ W : World, (Instr.makeSlice 46 (.int .i64 0) (.int .i64 0)).run Tryd.prog W = .ok (.slice (some ⟨W.heap.size, 0, none⟩) 0 0) (W.alloc (.cells (madeCells #[.int .i64 0] 0) 3)) := fun W => by
    have := run_make_rowN (P := Tryd.prog) 46 3 i0 _ Tryd.underlying46 hi0 hz0 .i64 .i64 0 0 (Nat.le_refl _) (by omega) (by omega) W
    rw [hs0, Nat.mul_one] at this; exact this
  have mk1 : ∀ W : World, (Instr.makeSlice 57 (.int .i64 0) (.int .i64 0)).run Tryd.prog W = .ok (.slice (some ⟨W.heap.size, 0, none⟩) 0 0) (W.alloc (.cells (madeCells #[.bool false] 0) 4)) := fun W => by
    have := run_make_rowN (P := Tryd.prog) 57 4 i1 _ Tryd.underlying57 hi1 hz1 .i64 .i64 0 0 (Nat.le_refl _) (by omega) (by omega) W
    rw [hs1, Nat.mul_one] at this; exact this
  clear hi0 hz0 hs0 hb0 hi1 hz1 hs1 hb1
  go_enter Tryd.func37, Tryd.ntmps37
  go_wp2_with fail
  go_rounds 1
  go_ret2
  exact ⟨by simp, by repeat' (first | (with_reducible assumption) | (with_reducible exact Below.refl _ _) | (with_reducible refine Below.alloc ?_ ?_ _) | (with_reducible refine Bk.drewN_ ?_ _) | (with_reducible refine Below.drew ?_) | (with_reducible refine Below.setCell ?_ ?_ _) | go_size)⟩
end Go.Proofs.YtfobnkgfbdmakaaDoor
