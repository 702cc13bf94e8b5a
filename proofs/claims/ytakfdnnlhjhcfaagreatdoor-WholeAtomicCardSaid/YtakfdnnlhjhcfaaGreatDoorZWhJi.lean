/- The interpreter's start. -/
import Derived.Test.YtakfdnnlhjhcfaaGreatDoorM35
set_option linter.unusedVariables false
set_option linter.unusedSimpArgs false
set_option maxRecDepth 100000
set_option maxHeartbeats 8000000
namespace Go.Proofs.YtakfdnnlhjhcfaaGreatDoor
open Go.RowKit Bk
structure ProgAt (w : World) (B d : Nat) (V : Option Addr) (nv cv : Nat) (Q : Option Addr) (nq cq : Nat) (m : Nd) (p : Pg) (pcs : List Pc) : Prop where
  hB : B ≤ w.heap.size
  vars : VsAt w B V p.vars
  hnv : p.vars.length = nv
  procs : PrsAt w B (d + 1) Q pcs
  hnq : pcs.length = nq
  hnq2 : nq ≤ 1000
  len : p.procs.length = nq
  pr : ∀ (i : Nat) (c : Pc) (u : Pr), pcs[i]? = some c → p.procs[i]? = some u → c.nm = u.nm ∧ c.vs = u.params ∧ SqAt w B d u.body c.body ∧ c.vs.length ≤ 8 ∧ u.body.cok p.procs
  main : SqAt w B d p.main m
  kv : KV w B (d + 1) m
  cok : p.main.cok p.procs
  valid : ∀ W, Below B w W → Calls Tryz.prog 16 #[.agg #[.slice V nv cv, .slice Q nq cq, .int .u8 m.k, .int .i64 m.num, .string m.nm, .slice m.A m.n m.cap]] W fun e w' => e = .returned (.bool true) ∧ Below W.heap.size W w'
  check : ∀ W, Below B w W → Calls Tryz.prog 17 #[.agg #[.slice V nv cv, .slice Q nq cq, .int .u8 m.k, .int .i64 m.num, .string m.nm, .slice m.A m.n m.cap]] W fun e w' => ∃ A c, e = .returned (.slice A 0 c) ∧ Below W.heap.size W w'
theorem calls_nameW {Q : Program} {f : FuncId} {args : Array Value} {R : Ending → World → Prop} {w : World} (h : ∀ w', w' = w → Calls Q f args w' R) : Calls Q f args w R := h w rfl
theorem results_tmp_cell {P : Program} {fn : Func} {p u : Tmp} {ty : TypeId} (h : fn.results = #[.tmp u, .cell p ty]) (tmps : Array Value) (w : World) (g : Nat) (t : TypeId) (cs : Array Value) (d : TypeDesc)
    (hp : tmps.getD p undef = .pointer (some ⟨g, 0, none⟩)) (hg : Blk w g t cs) (hu : P.underlying ty = some d) (hd : (match d with | .struct _ | .array _ _ => true | _ => false) = true) (hi : (P.info? ty).map (·.size) = some cs.size) :
    (results fn tmps).run P w = .ok (.tuple #[tmps.getD u undef, .agg cs]) w := by
  simp only [results, h]
  simp only [Array.getD_eq_getD_getElem?] at hp ⊢
  simp [Sem.run_bind, Result.andThen, hp, asAddr, run_loadVar_row w g t ty cs (0, 0) d hg hu hd hi]
theorem info_result : (Tryz.prog.info? 41).map (·.size) = some 5 := by kernel_rfl
def ResP (cs : List (List Int)) (inp out : List Int) (fuel : Nat) (q : Except Int (PSt × Nat)) (v : Value) (lo : Nat) (w : World) : Prop := match q with
  | .error x => ∃ uC uI uO, v = .agg #[uC, uI, uO, .int .i64 0, .int .i64 x] ∧ SW w (fun k => lo ≤ k ∧ k < w.heap.size) uC uI uO cs inp out
  | .ok p => ∃ uC uI uO, v = .agg #[uC, uI, uO, .int .i64 ((fuel : Int) - p.2), .int .i64 0] ∧ SW w (fun k => lo ≤ k ∧ k < w.heap.size) uC uI uO p.1.fin p.1.inp p.1.out
def StartP (cs : List (List Int)) (inp out : List Int) (fuel : Nat) (q : Except Int (PSt × Nat)) (w : World) (e : Ending) (w' : World) : Prop := ∃ u v, e = .returned (.tuple #[u, v]) ∧ ResP cs inp out fuel q v w.heap.size w' ∧ Below w.heap.size w w'
section
variable {w w' : World} {B : Nat}
theorem c_start {d nv cv nq cq fuel : Nat} {V Q : Option Addr} {m : Nd} {p : Pg} {pcs : List Pc} (hp : ProgAt w B d V nv cv Q nq cq m p pcs) {vC vI vO : Value} {cs : List (List Int)} {inp out : List Int} (hS : SW w (· < B) vC vI vO cs inp out) (hfit : fitsS p.vars cs inp out = true) (hfu : fuel ≤ 2000) (back : Bool) (hb : Below B w w') :
    Calls Tryz.prog 20 #[.agg #[.slice V nv cv, .slice Q nq cq, .int .u8 m.k, .int .i64 m.num, .string m.nm, .slice m.A m.n m.cap], .agg #[vC, vI, vO], .int .i64 fuel, .bool back] w' fun e w'' => StartP cs inp out fuel (runP p back cs inp out fuel) w' e w'' := by
  have HVL := Lib.hid (fun W hW => hp.valid W hW)
  have HCH := Lib.hid (fun W hW => hp.check W hW)
  have HNW := Lib.hid (fun W hW => c_StoreNew (cv := cv) hp.hB hp.vars hp.hnv hS hfit W hW)
  have hok := start_ok hfit
  have HSC := Lib.hid (fun W (hW : Below B w W) => c_StClone (w := W) (hS.next hW) (by have := hW.size; have := hp.hB; omega) (by
    have hc := hok.base.len; have := hok.base.bd
    have h2 : cs.length = p.vars.length := by
      unfold fitsS at hfit; simp only [Bool.and_eq_true, decide_eq_true_eq] at hfit; exact hfit.2.1
    have h3 : p.vars.length ≤ 32 := this
    omega) (fun l hl => by
    obtain ⟨i, hi⟩ := List.mem_iff_getElem?.1 hl
    have := (hok.one i l hi).2; omega) (by have : inp.length ≤ 4096 := hok.inp; omega) (by have : out.length ≤ 4096 := hok.out; omega))
  have HP := Lib.hid hp; have HF := Lib.hid hfit; have HB := Lib.hid hb; have HOK := Lib.hid hok
  have hB' : B ≤ w'.heap.size := by have := hb.size; have := hp.hB; omega
  have hnq := hp.hnq2
  obtain ⟨AC, nc, cC, rfl⟩ : ∃ A n c, vC = .slice A n c := by obtain ⟨sv, ⟨A, c, e, _⟩, _⟩ := hS.row; exact ⟨A, _, c, e⟩
  obtain ⟨AI, ni, cI, rfl⟩ : ∃ A n c, vI = .slice A n c := by obtain ⟨A, c, e, _⟩ := hS.inp; exact ⟨A, _, c, e⟩
  obtain ⟨AO, no, cO, rfl⟩ : ∃ A n c, vO = .slice A n c := by obtain ⟨A, c, e, _⟩ := hS.out; exact ⟨A, _, c, e⟩
  obtain ⟨QR, hQR⟩ : ∃ q, runP p back cs inp out fuel = q := ⟨_, rfl⟩
  have HQR := Lib.hid hQR
  rw [hQR]
  clear hp hS hfit hb hok hQR
  obtain ⟨mk, mnum, mnm, mA, mn, mc⟩ := m
  dsimp only at *
  obtain ⟨ie, li, lz, ls, lb⟩ := info_parts info_int8M
  have mkE : ∀ W : World, (Instr.makeSlice 30 (.int .i64 (nq : Int)) (.int .i64 (nq : Int))).run Tryz.prog W = .ok (.slice (some ⟨W.heap.size, 0, none⟩) nq nq) (W.alloc (.cells (madeCells #[.int .i64 0] nq) 3)) := fun W => by
    have := run_make_rowN (P := Tryz.prog) 30 3 ie _ Tryz.underlying30 li lz .i64 .i64 nq nq (Nat.le_refl _) (by rw [lb]; omega) (by omega) W
    rw [ls, Nat.mul_one] at this; exact this
  have hmf : ∀ (fn : Fn) (first cap : Array Value) (w : World), (Instr.makeFunc fn first cap).run Tryz.prog w = .ok (.func fn first cap) w := fun _ _ _ _ => rfl
  clear li lz ls lb
  go_enter Tryz.func20, Tryz.ntmps20
  go_upto_region 1 with fail
  refine wp_nameE ?_
  intro w1 hw1
  have hb1 : Below w'.heap.size w' w1 := (by rw [hw1]; exact (by go_grown))
  have K4 : Blk w1 w'.heap.size 28 #[.slice V nv cv, .slice Q nq cq, .int .u8 mk, .int .i64 mnum, .string mnm, .slice mA mn mc] := (by rw [hw1]; exact blkA)
  have K5 : Blk w1 (w'.heap.size + 1) 32 #[.slice AC nc cC, .slice AI ni cI, .slice AO no cO] := (by rw [hw1]; exact (((Blk.new' (by simp) _ _).alloc _).alloc _))
  have K7 : Blk w1 (w'.heap.size + 1 + 1) 4 #[.bool back] := (by rw [hw1]; exact ((Blk.new' (by simp) _ _).alloc _))
  have K9 : Blk w1 (w'.heap.size + 1 + 1 + 1) 41 #[.slice none 0 0, .slice none 0 0, .slice none 0 0, .int .i64 0, .int .i64 0] := (by rw [hw1]; exact (Blk.new' (by simp) _ _))
  have HK4 := Lib.hid K4; have HK5 := Lib.hid K5; have HK7 := Lib.hid K7; have HK9 := Lib.hid K9; have HB1 := Lib.hid hb1
  have hs1 := K9.lt
  clear hw1 hb1 K4 K5 K7 K9
  obtain ⟨z_4, T_4, F_4⟩ := HK4.out.open_
  go_wp2_with fail
  refine (HVL.out w1 (HB.out.trans (HB1.out.mono hB'))).mono ?_
  rintro en w2 ⟨rfl, hb2⟩
  have HB2 := Lib.hid (HB1.out.next hb2); have HX2 := Lib.hid hb2
  clear z_4 T_4 F_4 hb2
  obtain ⟨z_4, T_4, F_4⟩ := (HK4.out.next HX2.out).open_
  go_wp2_with fail
  refine (HCH.out w2 (HB.out.trans (HB2.out.mono hB'))).mono ?_
  rintro en w3 ⟨A0, c0, rfl, hb3⟩
  have HB3 := Lib.hid (HB2.out.next hb3); have HX3 := Lib.hid (HX2.out.next hb3)
  have hs3 := HX3.out.size
  clear z_4 T_4 F_4 hb3 HB2 HX2 HVL HCH
  obtain ⟨z_4, T_4, F_4⟩ := (HK4.out.next HX3.out).open_
  obtain ⟨z_5, T_5, F_5⟩ := (HK5.out.next HX3.out).open_
  go_wp2_with fail
  refine (HNW.out w3 (HB.out.trans (HB3.out.mono hB'))).mono ?_
  rintro en w4 ⟨S, B1, rfl, hon, hB1, hb4⟩
  have HB4 := Lib.hid (HB3.out.next hb4); have HX4 := Lib.hid (HX3.out.next hb4); have HON := Lib.hid hon
  have hs4 := hb4.size
  have hB14 : B1 ≤ w4.heap.size := Nat.le_trans (hon.new _ (show S.ro S.st ≠ .none by rw [hon.rst]; simp)).1 (Nat.le_of_lt hon.top.lt)
  clear z_4 T_4 F_4 z_5 T_5 F_5 hb4 hon HB3 HX3 HNW
  obtain ⟨z_4, T_4, F_4⟩ := (HK4.out.next HX4.out).open_
  have HK44 := Lib.hid (HK4.out.next HX4.out)
  go_upto_region 6 with fail
  go_cut [12] (fun v12 wx => ∃ r eg b12, v12 = .pointer (some ⟨b12, 0, none⟩) ∧ Blk wx b12 84 #[.pointer (some ⟨r, 0, none⟩)] ∧ Blk wx r 86 #[.slice V nv cv, .slice Q nq cq, .int .u8 mk, .int .i64 mnum, .string mnm, .slice mA mn mc, .pointer (some ⟨S.st, 0, none⟩), .int .i64 0, .int .i64 fuel, .slice (some ⟨eg, 0, none⟩) nq nq] ∧ Blk wx eg 3 (madeCells #[.int .i64 0] nq) ∧ (w4.heap.size ≤ r ∧ w4.heap.size ≤ eg ∧ w4.heap.size ≤ b12) ∧ (eg ≠ r ∧ b12 ≠ r ∧ b12 ≠ eg) ∧ Below w4.heap.size w4 wx)
  case first =>
    refine wp_region_held_drew (S := fun W => Below w4.heap.size w4 W) (by kernel_rfl) ((Below.refl _ _).drew) (fun hH => ?_)
    refine wpAnyH_atN ?_
    intro wa hwa
    have hX : Below w4.heap.size w4 wa := by rw [hwa]; exact (Below.refl _ _).drew
    replace hH : Below w4.heap.size w4 wa := hX
    have hza := hX.size
    clear hwa
    refine tkK 0 (v := ?_) rfl ?hy hH ?_
    case hy => (intro w9_ hS9; have t := (HK44.out.next hS9).cell; clear hS9; go_simp; try with_reducible rfl)
    (try simp only [PU, Act.put])
    refine tkQ 1 (v := ?_) rfl hH ?_
    (try simp only [PU, Act.put])
    refine tkQ 2 (v := ?_) rfl hH ?_
    (try simp only [PU, Act.put])
    refine tkQ 3 (v := ?_) rfl hH ?_
    (try simp only [PU, Act.put])
    refine tkK 4 (v := ?_) rfl ?hy hH ?_
    case hy => (intro w9_ hS9; have t := (HK44.out.next hS9).cell; clear hS9; go_simp; try with_reducible rfl)
    (try simp only [PU, Act.put])
    refine tkQ 5 (v := ?_) rfl hH ?_
    (try simp only [PU, Act.put])
    refine wpAnyH_ready (rs := [6, 9]) (by kernel_rfl) (by simp) ?_
    refine AllReadyH.cons rfl (fun K hK => ?_) (AllReadyH.cons rfl (fun K hK => ?_) (AllReadyH.nil))
    · go_simp
      refine hK.out _ _ (hX.alloc hX.size _) (fun hH => ?_)
      clear hK
      (try simp only [PU, Act.put])
      refine wpAnyH_atW ?_
      intro wb hwn
      have hbn : Below wa.heap.size wa wb := by rw [hwn]; exact (Below.refl _ _).alloc (Nat.le_refl _) _
      have hywb : wa.heap.size < wb.heap.size := by rw [hwn]; simp
      have ke : Blk wb wa.heap.size 3 (madeCells #[.int .i64 0] nq) := by rw [hwn]; exact Blk.new _ _ _
      replace hX := hX.next hbn
      replace hH := hX
      clear hwn hbn
      refine tkQ 7 (v := ?_) rfl hH ?_
      (try simp only [PU, Act.put])
      refine wpAnyH_ready (rs := [8, 9]) (by kernel_rfl) (by simp) ?_
      refine AllReadyH.cons rfl (fun K hK => ?_) (AllReadyH.cons rfl (fun K hK => ?_) (AllReadyH.nil))
      · go_simp
        refine hK.out _ _ (hX.alloc hX.size _) (fun hH => ?_)
        clear hK
        (try simp only [PU, Act.put])
        refine wpAnyH_atW ?_
        intro wd hwn
        have hbn : Below wb.heap.size wb wd := by rw [hwn]; exact (Below.refl _ _).alloc (Nat.le_refl _) _
        have hywd : wb.heap.size < wd.heap.size := by rw [hwn]; simp
        replace ke := ke.next hbn
        have kr : Blk wd wb.heap.size 86 #[.slice V nv cv, .slice Q nq cq, .int .u8 mk, .int .i64 mnum, .string mnm, .slice mA mn mc, .pointer (some ⟨S.st, 0, none⟩), .int .i64 0, .int .i64 fuel, .slice (some ⟨wa.heap.size, 0, none⟩) nq nq] := by rw [hwn]; exact Blk.new _ _ _
        replace hX := hX.next hbn
        replace hH := hX
        clear hwn hbn
        refine nxH 9 (by kernel_rfl) rfl (fun K hK => ?_)
        go_simp
        refine hK.out _ _ (hX.alloc hX.size _) (fun hH => ?_)
        clear hK
        (try simp only [PU, Act.put])
        refine wpAnyH_atW ?_
        intro we hwn
        have hbn : Below wd.heap.size wd we := by rw [hwn]; exact (Below.refl _ _).alloc (Nat.le_refl _) _
        have hywe : wd.heap.size < we.heap.size := by rw [hwn]; simp
        replace ke := ke.next hbn
        replace kr := kr.next hbn
        have kb : Blk we wd.heap.size 84 #[.pointer none] := by rw [hwn]; exact Blk.new _ _ _
        replace hX := hX.next hbn
        replace hH := hX
        clear hwn hbn
        refine nxH 10 (by kernel_rfl) rfl (fun K hK => ?_)
        obtain ⟨z_3, T_3, F_3⟩ := kb.open_
        go_simp
        refine hK.out _ _ ?h1 (fun hH => ?_)
        case h1 => exact hX.trans (Fr.below (O := fun k => k = wd.heap.size) (by repeat (first | exact Fr.refl _ _ | (refine Fr.set ?_ ?_ _; rotate_left; exact rfl))) hX.size (fun k hk => by rw [hk]; omega))
        clear hK
        (try simp only [PU, Act.put])
        clear T_3 F_3
        refine wpAnyH_done (by kernel_rfl) ?_ _
        refine then_name ?_
        intro wf hwf
        have kf : Blk wf wd.heap.size 84 #[.pointer (some ⟨wb.heap.size, 0, none⟩)] := (by rw [hwf]; simpa using kb.set_ 0 (.pointer (some ⟨wb.heap.size, 0, none⟩)))
        have ff : Fr (fun k => k = wd.heap.size) we wf := (by rw [hwf]; repeat (first | exact Fr.refl _ _ | (refine Fr.set ?_ ?_ _; rotate_left; exact rfl)))
        rw [← hwf] at hH
        replace kr := ff.blk kr (by omega)
        replace ke := ff.blk ke (by omega)
        clear hwf ff hX kb
        go_wp2_with fail
        go_meet
        exact ⟨wb.heap.size, wa.heap.size, wd.heap.size, rfl, kf, kr, ke, ⟨by omega, by omega, by omega⟩, ⟨by omega, by omega, by omega⟩, hH⟩
      · go_simp
        refine hK.out _ _ (hX.alloc hX.size _) (fun hH => ?_)
        clear hK
        (try simp only [PU, Act.put])
        refine wpAnyH_atW ?_
        intro wd hwn
        have hbn : Below wb.heap.size wb wd := by rw [hwn]; exact (Below.refl _ _).alloc (Nat.le_refl _) _
        have hywd : wb.heap.size < wd.heap.size := by rw [hwn]; simp
        replace ke := ke.next hbn
        have kb : Blk wd wb.heap.size 84 #[.pointer none] := by rw [hwn]; exact Blk.new _ _ _
        replace hX := hX.next hbn
        replace hH := hX
        clear hwn hbn
        refine nxH 8 (by kernel_rfl) rfl (fun K hK => ?_)
        go_simp
        refine hK.out _ _ (hX.alloc hX.size _) (fun hH => ?_)
        clear hK
        (try simp only [PU, Act.put])
        refine wpAnyH_atW ?_
        intro we hwn
        have hbn : Below wd.heap.size wd we := by rw [hwn]; exact (Below.refl _ _).alloc (Nat.le_refl _) _
        have hywe : wd.heap.size < we.heap.size := by rw [hwn]; simp
        replace ke := ke.next hbn
        replace kb := kb.next hbn
        have kr : Blk we wd.heap.size 86 #[.slice V nv cv, .slice Q nq cq, .int .u8 mk, .int .i64 mnum, .string mnm, .slice mA mn mc, .pointer (some ⟨S.st, 0, none⟩), .int .i64 0, .int .i64 fuel, .slice (some ⟨wa.heap.size, 0, none⟩) nq nq] := by rw [hwn]; exact Blk.new _ _ _
        replace hX := hX.next hbn
        replace hH := hX
        clear hwn hbn
        refine nxH 10 (by kernel_rfl) rfl (fun K hK => ?_)
        obtain ⟨z_3, T_3, F_3⟩ := kb.open_
        go_simp
        refine hK.out _ _ ?h1 (fun hH => ?_)
        case h1 => exact hX.trans (Fr.below (O := fun k => k = wb.heap.size) (by repeat (first | exact Fr.refl _ _ | (refine Fr.set ?_ ?_ _; rotate_left; exact rfl))) hX.size (fun k hk => by rw [hk]; omega))
        clear hK
        (try simp only [PU, Act.put])
        clear T_3 F_3
        refine wpAnyH_done (by kernel_rfl) ?_ _
        refine then_name ?_
        intro wf hwf
        have kf : Blk wf wb.heap.size 84 #[.pointer (some ⟨wd.heap.size, 0, none⟩)] := (by rw [hwf]; simpa using kb.set_ 0 (.pointer (some ⟨wd.heap.size, 0, none⟩)))
        have ff : Fr (fun k => k = wb.heap.size) we wf := (by rw [hwf]; repeat (first | exact Fr.refl _ _ | (refine Fr.set ?_ ?_ _; rotate_left; exact rfl)))
        rw [← hwf] at hH
        replace kr := ff.blk kr (by omega)
        replace ke := ff.blk ke (by omega)
        clear hwf ff hX kb
        go_wp2_with fail
        go_meet
        exact ⟨wd.heap.size, wa.heap.size, wb.heap.size, rfl, kf, kr, ke, ⟨by omega, by omega, by omega⟩, ⟨by omega, by omega, by omega⟩, hH⟩
    · go_simp
      refine hK.out _ _ (hX.alloc hX.size _) (fun hH => ?_)
      clear hK
      (try simp only [PU, Act.put])
      refine wpAnyH_atW ?_
      intro wb hwn
      have hbn : Below wa.heap.size wa wb := by rw [hwn]; exact (Below.refl _ _).alloc (Nat.le_refl _) _
      have hywb : wa.heap.size < wb.heap.size := by rw [hwn]; simp
      have kb : Blk wb wa.heap.size 84 #[.pointer none] := by rw [hwn]; exact Blk.new _ _ _
      replace hX := hX.next hbn
      replace hH := hX
      clear hwn hbn
      refine nxH 6 (by kernel_rfl) rfl (fun K hK => ?_)
      go_simp
      refine hK.out _ _ (hX.alloc hX.size _) (fun hH => ?_)
      clear hK
      (try simp only [PU, Act.put])
      refine wpAnyH_atW ?_
      intro wd hwn
      have hbn : Below wb.heap.size wb wd := by rw [hwn]; exact (Below.refl _ _).alloc (Nat.le_refl _) _
      have hywd : wb.heap.size < wd.heap.size := by rw [hwn]; simp
      replace kb := kb.next hbn
      have ke : Blk wd wb.heap.size 3 (madeCells #[.int .i64 0] nq) := by rw [hwn]; exact Blk.new _ _ _
      replace hX := hX.next hbn
      replace hH := hX
      clear hwn hbn
      refine tkQ 7 (v := ?_) rfl hH ?_
      (try simp only [PU, Act.put])
      refine nxH 8 (by kernel_rfl) rfl (fun K hK => ?_)
      go_simp
      refine hK.out _ _ (hX.alloc hX.size _) (fun hH => ?_)
      clear hK
      (try simp only [PU, Act.put])
      refine wpAnyH_atW ?_
      intro we hwn
      have hbn : Below wd.heap.size wd we := by rw [hwn]; exact (Below.refl _ _).alloc (Nat.le_refl _) _
      have hywe : wd.heap.size < we.heap.size := by rw [hwn]; simp
      replace ke := ke.next hbn
      replace kb := kb.next hbn
      have kr : Blk we wd.heap.size 86 #[.slice V nv cv, .slice Q nq cq, .int .u8 mk, .int .i64 mnum, .string mnm, .slice mA mn mc, .pointer (some ⟨S.st, 0, none⟩), .int .i64 0, .int .i64 fuel, .slice (some ⟨wb.heap.size, 0, none⟩) nq nq] := by rw [hwn]; exact Blk.new _ _ _
      replace hX := hX.next hbn
      replace hH := hX
      clear hwn hbn
      refine nxH 10 (by kernel_rfl) rfl (fun K hK => ?_)
      obtain ⟨z_3, T_3, F_3⟩ := kb.open_
      go_simp
      refine hK.out _ _ ?h1 (fun hH => ?_)
      case h1 => exact hX.trans (Fr.below (O := fun k => k = wa.heap.size) (by repeat (first | exact Fr.refl _ _ | (refine Fr.set ?_ ?_ _; rotate_left; exact rfl))) hX.size (fun k hk => by rw [hk]; omega))
      clear hK
      (try simp only [PU, Act.put])
      clear T_3 F_3
      refine wpAnyH_done (by kernel_rfl) ?_ _
      refine then_name ?_
      intro wf hwf
      have kf : Blk wf wa.heap.size 84 #[.pointer (some ⟨wd.heap.size, 0, none⟩)] := (by rw [hwf]; simpa using kb.set_ 0 (.pointer (some ⟨wd.heap.size, 0, none⟩)))
      have ff : Fr (fun k => k = wa.heap.size) we wf := (by rw [hwf]; repeat (first | exact Fr.refl _ _ | (refine Fr.set ?_ ?_ _; rotate_left; exact rfl)))
      rw [← hwf] at hH
      replace kr := ff.blk kr (by omega)
      replace ke := ff.blk ke (by omega)
      clear hwf ff hX kb
      go_wp2_with fail
      go_meet
      exact ⟨wd.heap.size, wb.heap.size, wa.heap.size, rfl, kf, kr, ke, ⟨by omega, by omega, by omega⟩, ⟨by omega, by omega, by omega⟩, hH⟩
  case rest =>
    obtain ⟨r, eg, b12, rfl, kb, kr, ke, ⟨hr4, he4, hb4⟩, ⟨n1, n2, n3⟩, hbc⟩ := hcut
    have HKB := Lib.hid kb; have HKR := Lib.hid kr; have HKE := Lib.hid ke; have HBC := Lib.hid hbc
    have hlr := kr.lt; have hle := ke.lt; have hlb := kb.lt
    clear kb kr ke hbc z_4 T_4 F_4
    go_wp2_with fail
    refine calls_nameW ?_
    intro w6 hw6
    have hb6 : Below wc.heap.size wc w6 := (by rw [hw6]; exact (by go_grown))
    have HJ : Hid (Blk w6 wc.heap.size 91 #[.slice none 0 0, .bool false]) := Lib.hid (by rw [hw6]; exact Blk.new _ _ _)
    have HB6 := Lib.hid hb6
    have hz6 : w6.heap.size = wc.heap.size + 1 := by rw [hw6]; simp
    have hs6 := HBC.out.size
    clear hw6 hb6
    -- what the run needs, at the world where it begins
    have HEW : Hid (∀ W, Below w6.heap.size w6 W → Below w4.heap.size w4 W ∧ Below B w W) := Lib.hid fun W hW => by
      have h1 : Below w4.heap.size w4 W := (HBC.out.next HB6.out).next hW
      exact ⟨h1, HB.out.trans ((HB4.out.next h1).mono hB')⟩
    have HRT : Hid (∀ W, Below w6.heap.size w6 W → RAt W B1 W r ⟨.slice V nv cv, .slice Q nq cq, ⟨mk, mnum, mnm, mA, mn, mc⟩, S.st, .slice (some ⟨eg, 0, none⟩) nq nq, keptX W S r eg⟩ S ⟨cs, ⟨p.vars, List.range p.vars.length, 0⟩, [], inp, out⟩ fuel fuel (fun i => (p.vars.getD i ⟨⟨#[]⟩, 0, 0⟩).k) 32) := Lib.hid fun W hW => by
      have hW4 := (HEW.out W hW).1
      have nro : ∀ k, w4.heap.size ≤ k → S.ro k = .none := fun k hk => Decidable.byContradiction fun hn => by have := (HON.out.new k hn).2; omega
      exact RAt.start HF.out (HON.out.next hW4) hfu ((HKR.out.next HB6.out).next hW) ((HKE.out.next HB6.out).next hW) (by have := hW4.size; omega) (by omega) (by omega) (nro _ hr4) (nro _ he4) n1 hnq
    have HPG : Hid (∀ W, Below w6.heap.size w6 W → PgAt W B1 d ⟨.slice V nv cv, .slice Q nq cq, ⟨mk, mnum, mnm, mA, mn, mc⟩, S.st, .slice (some ⟨eg, 0, none⟩) nq nq, keptX W S r eg⟩ p.procs pcs) := Lib.hid fun W hW => by
      obtain ⟨hW4, hWB⟩ := HEW.out W hW
      have hBB : B ≤ B1 := by have := HX4.out.size; omega
      refine ⟨by have := hW4.size; omega, ⟨V, nv, cv, rfl⟩, ⟨Q, cq, by rw [HP.out.hnq], HP.out.procs.upS hWB hBB⟩, ⟨_, nq, by rw [HP.out.hnq]⟩, by rw [HP.out.hnq]; exact hnq, by rw [HP.out.hnq]; exact HP.out.len, fun i c u h1 h2 => ?_⟩
      obtain ⟨a1, a2, a3, a4, a5⟩ := HP.out.pr i c u h1 h2
      exact ⟨a1, a2, a3.upS hWB hBB, a4, a5⟩
    have HK46 := Lib.hid ((HK44.out.next HBC.out).next HB6.out)
    have HK76 := Lib.hid (((HK7.out.next HX4.out).next HBC.out).next HB6.out)
    have HKB6 := Lib.hid (HKB.out.next HB6.out)
    have HRUN : Hid (∀ W, Below w6.heap.size w6 W → Calls Tryz.prog 43 #[.pointer (some ⟨b12, 0, none⟩), .pointer (some ⟨w'.heap.size, 0, none⟩), .pointer (some ⟨w'.heap.size + 1 + 1, 0, none⟩)] W fun en w' => RunP W B1 W r ⟨.slice V nv cv, .slice Q nq cq, ⟨mk, mnum, mnm, mA, mn, mc⟩, S.st, .slice (some ⟨eg, 0, none⟩) nq nq, keptX W S r eg⟩ S fuel QR en w') := Lib.hid fun W hW => by
      obtain ⟨hW4, hWB⟩ := HEW.out W hW
      have hBB : B ≤ B1 := by have := HX4.out.size; omega
      have := c_start1 (n := 2001) (HPG.out W hW) (HRT.out W hW) (by omega) back (HP.out.main.upS hWB hBB) (HP.out.kv.upS hWB hBB) HP.out.cok (HKB6.out.next hW) (HK46.out.next hW) (HK76.out.next hW)
      have hq := HQR.out
      unfold runP at hq
      rw [hq] at this
      exact this
    have HNO : Hid (∀ (W : World) (k : Nat), (k < B1 ∨ w4.heap.size ≤ k) → k ≠ r → k ≠ eg → ¬ RO S ⟨.slice V nv cv, .slice Q nq cq, ⟨mk, mnum, mnm, mA, mn, mc⟩, S.st, .slice (some ⟨eg, 0, none⟩) nq nq, keptX W S r eg⟩ r k) := Lib.hid fun W k hk h1 h2 h3 => by
      rcases h3 with h3 | h3 | h3
      · have := HON.out.new k h3; omega
      · exact h1 h3
      · injection h3 with h3; exact h2 h3.symm
    have HRN : Hid (∀ k, (k < B1 ∨ w4.heap.size ≤ k) → S.ro k = .none) := Lib.hid fun k hk => Decidable.byContradiction fun hn => by have := HON.out.new k hn; omega
    have EG : ∀ (args : Array Value) (W : World), (callFunc 43 args).run Tryz.prog W = .ok (.enter 43 args) W := fun _ _ => rfl
    have HK56 := Lib.hid (((HK5.out.next HX4.out).next HBC.out).next HB6.out)
    have HK96 := Lib.hid (((HK9.out.next HX4.out).next HBC.out).next HB6.out)
    have hl9 : w'.heap.size + 1 + 1 + 1 < B1 := by omega
    cases QR with
    | error x =>
      have hx0 := runP_ne0 HQR.out
      have HAT := c_AttemptErr (w := w6) (x := x) (Q := fun W w' => Bs W B1 ⟨.slice V nv cv, .slice Q nq cq, ⟨mk, mnum, mnm, mA, mn, mc⟩, S.st, .slice (some ⟨eg, 0, none⟩) nq nq, keptX W S r eg⟩ w') HJ.out rfl (EG _) (fun W hW => HRUN.out W hW) (fun W W' b t cs hW hq hb hbl => (hq.2 b ⟨hbl.lt, HRN.out b (by rcases hb with hb | hb <;> omega), by rcases hb with hb | hb <;> omega, by rcases hb with hb | hb <;> omega⟩).trans hbl)
      refine HAT.mono ?_
      rintro en w8 ⟨rfl, W, W', b, hW, hq, hbW, hbW2, hf⟩
      have HKP : Hid (∀ k t cs, (k < B1 ∨ w4.heap.size ≤ k) → k ≠ r → k ≠ eg → k < w6.heap.size → Blk w6 k t cs → Blk w8 k t cs) := Lib.hid fun k t cs h1 h2 h3 h4 hk => hf.blk ((hq.2 k ⟨by have := hW.size; omega, HRN.out k h1, h2, h3⟩).trans (hk.next hW)) (by omega)
      have HB8 : Hid (Below w'.heap.size w' w8) := Lib.hid (by
        have h1 : Below w'.heap.size w' W := HB4.out.next (HEW.out W hW).1
        have h2 : Below w'.heap.size W W' := hq.1.mono (by omega)
        exact (h1.trans h2).trans (hf.below (by have := h1.size; have := h2.size; omega) fun k hk => by omega))
      clear hq hf hW hbW HAT
      have HK58 := Lib.hid (HKP.out _ _ _ (.inl (by omega)) (by omega) (by omega) HK56.out.lt HK56.out)
      have HK98 := Lib.hid (HKP.out _ _ _ (.inl (by omega)) (by omega) (by omega) HK96.out.lt HK96.out)
      obtain ⟨z_5, T_5, F_5⟩ := HK58.out.open_
      have q0 : (x != 0) = true := by simpa using hx0
      go_wp2_with fail
      refine (HSC.out w8 (HB.out.trans (HB8.out.mono hB'))).mono ?_
      rintro en w9 ⟨uC, uI, uO, rfl, hsw, hb9⟩
      obtain ⟨A1, m1, c1, rfl⟩ : ∃ A n c, uC = .slice A n c := by obtain ⟨sv, ⟨A, c, e, _⟩, _⟩ := hsw.row; exact ⟨A, _, c, e⟩
      obtain ⟨A2, m2, c2, rfl⟩ : ∃ A n c, uI = .slice A n c := by obtain ⟨A, c, e, _⟩ := hsw.inp; exact ⟨A, _, c, e⟩
      obtain ⟨A3, m3, c3, rfl⟩ : ∃ A n c, uO = .slice A n c := by obtain ⟨A, c, e, _⟩ := hsw.out; exact ⟨A, _, c, e⟩
      have HSW := Lib.hid hsw; have HB9 := Lib.hid (HB8.out.next hb9); have HK99 := Lib.hid (HK98.out.next hb9)
      clear hsw hb9 z_5 T_5 F_5
      obtain ⟨z_5, T_5, F_5⟩ := HK99.out.open_
      go_wp2_with fail
      generalize hwf : World.setCell _ _ _ = wf at *
      have kf : Blk wf (w'.heap.size + 1 + 1 + 1) 41 #[.slice A1 m1 c1, .slice A2 m2 c2, .slice A3 m3 c3, .int .i64 0, .int .i64 x] := (by rw [← hwf]; simpa using ((((HK99.out.set_ 0 (.slice A1 m1 c1)).set_ 1 (.slice A2 m2 c2)).set_ 2 (.slice A3 m3 c3)).set_ 3 (.int .i64 0)).set_ 4 (.int .i64 x))
      have ff : Fr (fun k => k = w'.heap.size + 1 + 1 + 1) w9 wf := (by rw [← hwf]; repeat (first | exact Fr.refl _ _ | (refine Fr.set ?_ ?_ _; rotate_left; exact rfl)))
      have HKF := Lib.hid kf; have HFF := Lib.hid ff
      clear hwf kf ff z_5 T_5 F_5
      refine bodyPost_ret_by (results_tmp_cell rfl _ _ (w'.heap.size + 1 + 1 + 1) _ _ _ rfl HKF.out Tryz.underlying41 rfl (by rw [info_result]; rfl)) rfl ?_
      have hs9 := HFF.out.size
      refine ⟨_, _, rfl, ⟨_, _, _, rfl, HSW.out.map (fun b o hb => HFF.out.cell hb.2 (by have := hb.1; have := HK98.out.lt; omega) o) (fun k hk => ⟨by have := hk.1; have := HB8.out.size; omega, Nat.lt_of_lt_of_le hk.2 hs9⟩)⟩, HB9.out.trans (HFF.out.below HB9.out.size fun k hk => by omega)⟩
    | ok pr =>
      obtain ⟨σ, f⟩ := pr
      have HAT := c_AttemptOk (w := w6) (Q := fun W w' => ∃ S' kd' m', RAt W B1 w' r ⟨.slice V nv cv, .slice Q nq cq, ⟨mk, mnum, mnm, mA, mn, mc⟩, S.st, .slice (some ⟨eg, 0, none⟩) nq nq, keptX W S r eg⟩ S' σ fuel f kd' m' ∧ S.Ext S' W ∧ Fr (RO S ⟨.slice V nv cv, .slice Q nq cq, ⟨mk, mnum, mnm, mA, mn, mc⟩, S.st, .slice (some ⟨eg, 0, none⟩) nq nq, keptX W S r eg⟩ r) W w') HJ.out rfl (EG _) (fun W hW => HRUN.out W hW) (fun W W' b t cs hW hq hb hbl => by
        obtain ⟨S', kd', m', _, _, hfr⟩ := hq
        exact hfr.blk hbl (HNO.out W b (.inr (by rcases hb with hb | hb <;> omega)) (by rcases hb with hb | hb <;> omega) (by rcases hb with hb | hb <;> omega)))
      refine HAT.mono ?_
      rintro en w8 ⟨rfl, W, W', b, hW, ⟨S', kd', m', hra, hxx, hfr⟩, hbW, hbW2, hf⟩
      have HKP : Hid (∀ k t cs, (k < B1 ∨ w4.heap.size ≤ k) → k ≠ r → k ≠ eg → k < w6.heap.size → Blk w6 k t cs → Blk w8 k t cs) := Lib.hid fun k t cs h1 h2 h3 h4 hk => hf.blk (hfr.blk (hk.next hW) (HNO.out W k h1 h2 h3)) (by omega)
      have HB8 : Hid (Below w'.heap.size w' w8) := Lib.hid (by
        have h1 : Below w'.heap.size w' W := HB4.out.next (HEW.out W hW).1
        have h2 : Below w'.heap.size W W' := hra.base.mono (by omega)
        exact (h1.trans h2).trans (hf.below (by have := h1.size; have := h2.size; omega) fun k hk => by omega))
      have HON8 : Hid (SOn w8 B1 S' σ) := Lib.hid (hra.on.other hf fun k _ hk => by rw [hk, hxx.2 b hbW2]; exact HRN.out b (.inr (by omega)))
      have HOK8 := Lib.hid hra.ok
      have hm8 : m' ≤ 5000 := by have := hra.fm; omega
      have HST8 : Hid (S'.st = S.st) := Lib.hid hxx.1
      have HR8 := hf.blk hra.blk (by omega)
      unfold Rn.cells at HR8
      dsimp only at HR8
      have HR8 := Lib.hid HR8
      have HSTA := Lib.hid (fun X (hX : Below w8.heap.size w8 X) => by have := c_State (HON8.out.next hX) HOK8.out hm8; rw [HST8.out] at this; exact this)
      clear hra hxx hfr hf hW hbW HAT hbW2
      have HK98 := Lib.hid (HKP.out _ _ _ (.inl (by omega)) (by omega) (by omega) HK96.out.lt HK96.out)
      have HKB8 := Lib.hid (HKP.out _ _ _ (.inr hb4) n2 n3 HKB6.out.lt HKB6.out)
      have hn9 : ¬ (b12 = w'.heap.size + 1 + 1 + 1) := by omega
      have hr9 : ¬ (r = w'.heap.size + 1 + 1 + 1) := by omega
      go_wp2_with fail
      refine wp_region_held_drew (S := fun W => Fr (fun k => k = w'.heap.size + 1 + 1 + 1) w8 W) (by kernel_rfl) ((Fr.refl _ _).drew) (fun hH => ?_)
      refine wpAnyH_atN ?_
      intro wa hwa
      have hX : Below w8.heap.size w8 wa := by rw [hwa]; exact (Below.refl _ _).drew
      replace hH : Fr (fun k => k = w'.heap.size + 1 + 1 + 1) w8 wa := Fr.of hX
      have hza := hX.size
      clear hwa
      refine tkK 0 (v := ?_) rfl ?hy hH ?_
      case hy => (intro w9_ hS9; have t := (hS9.blk HKB8.out hn9).cell; clear hS9; go_simp; try with_reducible rfl)
      (try simp only [PU, Act.put])
      refine tkQ 1 (v := ?_) rfl hH ?_
      (try simp only [PU, Act.put])
      refine tkQ 2 (v := ?_) rfl hH ?_
      (try simp only [PU, Act.put])
      refine tkK 3 (v := ?_) rfl ?hy hH ?_
      case hy => (intro w9_ hS9; have t := (hS9.blk HR8.out hr9).cell; clear hS9; go_simp; try with_reducible rfl)
      (try simp only [PU, Act.put])
      refine tkQ 4 (v := ?_) rfl hH ?_
      (try simp only [PU, Act.put])
      refine tkK 6 (v := ?_) rfl ?hy hH ?_
      case hy => (intro w9_ hS9; have t := (hS9.blk HKB8.out hn9).cell; clear hS9; go_simp; try with_reducible rfl)
      (try simp only [PU, Act.put])
      refine tkQ 7 (v := ?_) rfl hH ?_
      (try simp only [PU, Act.put])
      refine tkQ 8 (v := ?_) rfl hH ?_
      (try simp only [PU, Act.put])
      refine tkK 9 (v := ?_) rfl ?hy hH ?_
      case hy => (intro w9_ hS9; have t := (hS9.blk HR8.out hr9).cell; clear hS9; go_simp; try with_reducible rfl)
      (try simp only [PU, Act.put])
      refine nxH 5 (by kernel_rfl) rfl (fun K hK => ?_)
      go_simp
      refine (HSTA.out _ hX).mono ?_
      rintro en wb ⟨uC, uI, uO, rfl, hsw, hbn⟩
      refine hK.out _ _ (hH.next hbn) (fun hH => ?_)
      clear hK
      (try simp only [PU, Act.put])
      obtain ⟨A1, m1, c1, rfl⟩ : ∃ A n c, uC = .slice A n c := by obtain ⟨sv, ⟨A, c, e, _⟩, _⟩ := hsw.row; exact ⟨A, _, c, e⟩
      obtain ⟨A2, m2, c2, rfl⟩ : ∃ A n c, uI = .slice A n c := by obtain ⟨A, c, e, _⟩ := hsw.inp; exact ⟨A, _, c, e⟩
      obtain ⟨A3, m3, c3, rfl⟩ : ∃ A n c, uO = .slice A n c := by obtain ⟨A, c, e, _⟩ := hsw.out; exact ⟨A, _, c, e⟩
      replace hX := hX.next hbn
      clear hbn
      refine tkQ 10 (v := ?_) rfl hH ?_
      (try simp only [PU, Act.put])
      refine tkQ 11 (v := ?_) rfl hH ?_
      (try simp only [PU, Act.put])
      refine nxH 12 (by kernel_rfl) rfl (fun K hK => ?_)
      obtain ⟨z_2, T_2, F_2⟩ := (HK98.out.next hX).open_
      go_simp
      refine hK.out _ _ ?h1 (fun hH => ?_)
      case h1 => (repeat (first | exact hH | (refine Fr.set ?_ ?_ _; rotate_left; exact rfl)))
      clear hK
      (try simp only [PU, Act.put])
      clear z_2 T_2 F_2
      refine wpAnyH_done (by kernel_rfl) ?_ _
      have HSW := Lib.hid hsw; have HB9 := Lib.hid (HB8.out.next hX); have hzx := hX.size
      generalize hwf : World.setCell _ _ _ = wf at *
      have kf : Blk wf (w'.heap.size + 1 + 1 + 1) 41 #[.slice A1 m1 c1, .slice A2 m2 c2, .slice A3 m3 c3, .int .i64 ((fuel : Int) - f), .int .i64 0] := (by rw [← hwf]; simpa using (((((HK98.out.next hX).set_ 0 (.slice A1 m1 c1)).set_ 1 (.slice A2 m2 c2)).set_ 2 (.slice A3 m3 c3)).set_ 3 (.int .i64 ((fuel : Int) - f))).set_ 4 (.int .i64 0))
      have ff : Fr (fun k => k = w'.heap.size + 1 + 1 + 1) wb wf := (by rw [← hwf]; repeat (first | exact Fr.refl _ _ | (refine Fr.set ?_ ?_ _; rotate_left; exact rfl)))
      have HKF := Lib.hid kf; have HFF := Lib.hid ff
      clear hwf kf ff hX hsw hH
      go_wp2_with fail
      refine bodyPost_ret_by (results_tmp_cell rfl _ _ (w'.heap.size + 1 + 1 + 1) _ _ _ rfl HKF.out Tryz.underlying41 rfl (by rw [info_result]; rfl)) rfl ?_
      have hs9 := HFF.out.size
      refine ⟨_, _, rfl, ⟨_, _, _, rfl, HSW.out.map (fun b o hb => HFF.out.cell hb.2 (by have := hb.1; have := HK98.out.lt; omega) o) (fun k hk => ⟨by have := hk.1; have := HB8.out.size; omega, Nat.lt_of_lt_of_le hk.2 hs9⟩)⟩, HB9.out.trans (HFF.out.below HB9.out.size fun k hk => by omega)⟩
end
end Go.Proofs.YtakfdnnlhjhcfaaGreatDoor
