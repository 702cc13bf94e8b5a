/- The reference of layer 24: Step at the other instructions. -/
import Derived.Test.YteocbllbljeajaaDoorRU
set_option linter.unusedVariables false
set_option linter.unusedSimpArgs false
set_option maxRecDepth 100000
set_option maxHeartbeats 8000000
set_option maxRecDepth 100000
namespace Go.Proofs.YteocbllbljeajaaDoor
open Go.RowKit Bk
variable {w : World} {D : Nat → Prop} {P : Pl} {M : Mach} {vm vs vc vi vo : Value} {sv : List Value}
theorem rt_inF (hL : MLs w D M vm vs vc vi vo sv) {A : Option Addr} {n : Nat} (cap : Nat) {code : Prg} (hC : Rd w (· < w.heap.size) 5 A n (codeCells code)) (hw : CodeWf code) (hT : TableAt w) (hl : code.length ≤ 65536) (mem st : Int) (hB : MBd M) (k : Nat) (hk : k < code.length) (hd : M.dir = 1) (hp : M.pc = (k : Int)) (op a b c d : Int) (hx : code.getD k default = ⟨op, a, b, c, d⟩) (x : Int × Mach) (hor : (op = 34 ∧ x = (4, M)) ∨ (op = 30 ∧ 100 ≤ M.calls.length ∧ x = (19, M)) ∨ (op = 30 ∧ M.calls.length < 100 ∧ ∃ (t : Nat) (y : Ins), a = t ∧ t < code.length ∧ code.getD t default = y ∧ x = (0, { M with calls := M.calls ++ [((k : Int), false)], pc := (t : Int) + 1 })) ∨ (op = 31 ∧ 100 ≤ M.calls.length ∧ x = (19, M)) ∨ (op = 31 ∧ M.calls.length < 100 ∧ ∃ (t : Nat) (y : Ins), a = t ∧ t < code.length ∧ code.getD t default = y ∧ x = (0, { M with calls := M.calls ++ [((k : Int), true)], dir := -1, pc := y.a })) ∨ (op = 32 ∧ x = (23, M)) ∨ (op = 33 ∧ (M.calls.length = 0 ∨ ∃ (q : Nat) (tu : Bool), q < code.length ∧ M.calls.getLastD (0, false) = ((q : Int), tu) ∧ ((code.getD q default).a ≠ a ∨ (code.getD q default).op ≠ if tu then 31 else 30)) ∧ x = (23, M)) ∨ (op = 33 ∧ M.calls.length ≠ 0 ∧ ∃ q : Nat, q < code.length ∧ M.calls.getLastD (0, false) = ((q : Int), false) ∧ (code.getD q default).a = a ∧ (code.getD q default).op = 30 ∧ x = (0, { M with calls := M.calls.dropLast, pc := (q : Int) + 1 })) ∨ (op = 33 ∧ M.calls.length ≠ 0 ∧ ∃ q : Nat, q < code.length ∧ M.calls.getLastD (0, false) = ((q : Int), true) ∧ (code.getD q default).a = a ∧ (code.getD q default).op = 31 ∧ x = (0, { M with calls := M.calls.dropLast, dir := -1, pc := (q : Int) })) ∨ (straightB op = true ∧ ∃ (ee : Int) (N : Mach), (Ins.mk op a b c d).valid = true ∧ exec M ⟨op, a, b, c, d⟩ = (ee, N) ∧ 1 ≤ M.s.length ∧ x = (ee, { N with pc := (k : Int) + 1 }))) :
    Calls Tryd.prog 10 #[.agg #[.slice A n cap, .int .i64 mem, .int .i64 st], .agg (mcells M vm vs vc vi vo).toArray] w (RSt w x) := by
  have HOR := Lib.hid hor; clear hor
  have hn : n = code.length := by have := hC.1; rw [codeCells_length] at this; omega
  have hn6 : n ≤ 65536 := by omega
  have HL := Lib.hid hL; have HC := Lib.hid hC; have HT := Lib.hid hT; have HB := Lib.hid hB; have HN := Lib.hid hn
  clear hL hC hT hB hn
  go_enter Tryd.func10, Tryd.ntmps10
  go_upto_region 1 with fail
  refine wp_nameY ?_
  intro w1 hw1
  have hB1 : Below w.heap.size w w1 := by rw [hw1]; exact (by go_grown)
  have KI : Blk w1 w.heap.size 24 #[.slice A n cap, .int .i64 mem, .int .i64 st] := by rw [hw1]; exact ((Blk.new _ _ _).alloc _).alloc _
  have KB : Blk w1 (w.heap.size + 1) 30 (mcells M vm vs vc vi vo).toArray := by rw [hw1]; exact (Blk.new' (by simp) _ _).alloc _
  have KZ : Blk w1 (w.heap.size + 2) 30 #[.int .i64 0, .int .i64 0, .int .i64 0, .int .i64 0, .int .i64 0, .int .i64 0, .int .i64 0, .int .i64 0, .int .i64 0, .int .i64 0, .int .i64 0, .int .i64 0, .int .i64 0, .int .i64 0, .int .i64 0, .int .i64 0, .int .i64 0, .int .i64 0, .slice none 0 0, .slice none 0 0, .slice none 0 0, .int .i64 0, .int .i64 0, .slice none 0 0, .slice none 0 0] := by rw [hw1]; exact Blk.new' (by simp) _ _
  have z1 : w1.heap.size = w.heap.size + 3 := by rw [hw1]; simp
  have HKI := Lib.hid KI; have HKZ := Lib.hid KZ
  have HM := Lib.hid ((HL.out.next hB1).at_ KB)
  clear hw1 KI KB KZ
  go_wp2_with (refine wpList_loadG 30 rfl rfl rfl (load_mach HM.out) ?_; simp only [Act.put, Bk.PU])
  refine (c_RCopy HM.out.mls HB.out.ln).mono ?_
  rintro e w2 ⟨vm2, vs2, vc2, vi2, vo2, sv2, rfl, hO, hb2⟩
  have hlen := mc_len M vm2 vs2 vc2 vi2 vo2 hO.1
  have hone : ∀ v ∈ mcells M vm2 vs2 vc2 vi2 vo2, v.oneCell' = true := by
    have h' := hO.mls
    obtain ⟨_, _, rfl, _⟩ := h'.m; obtain ⟨_, _, rfl, _⟩ := h'.s; obtain ⟨_, _, rfl, _⟩ := h'.l.2.1; obtain ⟨_, _, rfl, _⟩ := h'.l.2.2.1; obtain ⟨_, _, rfl, _⟩ := h'.l.2.2.2
    exact mc_one rfl rfl rfl rfl rfl
  have HLEN := Lib.hid hlen; have HONE := Lib.hid hone; have HO := Lib.hid hO; have HB2 := Lib.hid hb2
  have hB2 := hB1.next hb2
  clear hlen hone hO hb2
  go_upto_region 2 with (refine wpList_store_row rfl 30 (.tmp 6) (.tmp 19) rfl w2.heap.size (mcells M vm2 vs2 vc2 vi2 vo2).toArray rfl rfl 30 #[.int .i64 0, .int .i64 0, .int .i64 0, .int .i64 0, .int .i64 0, .int .i64 0, .int .i64 0, .int .i64 0, .int .i64 0, .int .i64 0, .int .i64 0, .int .i64 0, .int .i64 0, .int .i64 0, .int .i64 0, .int .i64 0, .int .i64 0, .int .i64 0, .slice none 0 0, .slice none 0 0, .slice none 0 0, .int .i64 0, .int .i64 0, .slice none 0 0, .slice none 0 0] (heap_alloc_new w2 _) (by rw [info_mach25]; simp [HLEN.out]) (by simp [HLEN.out]) (all_oneCell_toArray HONE.out) ?_; simp only [Act.put, Bk.PU])
  refine wp_nameY ?_
  intro w3 hw3
  rw [World.setRow_alloc_new] at hw3
  have hb3 : Below w2.heap.size w2 w3 := by rw [hw3]; exact (Below.refl _ _).alloc (Nat.le_refl _) _
  have KM : Blk w3 w2.heap.size 30 (mcells M vm2 vs2 vc2 vi2 vo2).toArray := by rw [hw3]; exact Blk.new _ _ _
  obtain ⟨P, hpb, hpo, hm3, hpO, hown, hpW⟩ := nameM HO.out HB2.out hb3 KM
  have hB3 := hB2.next hb3
  have HPO := Lib.hid hpO; have HOWN := Lib.hid hown; have HPW := Lib.hid hpW; have HM3 := Lib.hid hm3
  have hs3 := KM.lt
  have HKI3 := Lib.hid ((HKI.out.next HB2.out).next hb3); have HKZ3 := Lib.hid ((HKZ.out.next HB2.out).next hb3)
  have HE3 : Hid (Env w3 P A n code) := Lib.hid (Env.old HC.out hw HT.out hl hB3 (fun k hk => hpO k (by omega)))
  have hs12 : w1.heap.size ≤ w2.heap.size := HB2.out.size
  have e0 : w3.cell? ⟨w2.heap.size, 0, none⟩ = some (.int .i64 M.pc) := by have := hm3.c0; rw [hpb, hpo] at this; exact this
  have e1 : w3.cell? ⟨w2.heap.size, 1, none⟩ = some (.int .i64 M.dir) := by have := hm3.c1; rw [hpb, hpo] at this; exact this
  have f0 : w3.frozen? ⟨w2.heap.size, 0, none⟩ = false := by have := hm3.frozen 0; rw [hpb] at this; exact this
  have f1 : w3.frozen? ⟨w2.heap.size, 1, none⟩ = false := by have := hm3.frozen 1; rw [hpb] at this; exact this
  obtain ⟨zI, TI, FI⟩ := HKI3.out.open_
  have HZO : Hid (¬ P.O (w.heap.size + 2)) := Lib.hid (hpO _ (by omega))
  clear hw3 KM hm3 hpO hown hpW HO hb3
  rw [hd] at e1
  rw [hp] at e0
  have hkn : k < n := by have := HN.out; omega
  have k0 : (0 : Int) ≤ (k : Int) := by omega
  have k1 : (k : Int) < (n : Int) := by omega
  obtain ⟨bc, oc, rfl⟩ := HE3.out.form hk
  obtain ⟨x0, x1, x2, x3, x4⟩ := HE3.out.at_ hk hx
  dsimp only at x0 x1 x2 x3 x4
  have HX := Lib.hid hx; have HD := Lib.hid hd; have HP := Lib.hid hp; have HK := Lib.hid hk
  clear hx hd hp hk
  go_upto_region 9 with fail
  refine wp_nameY ?_
  intro w4 hw4
  have hb4 : Below w3.heap.size w3 w4 := by rw [hw4]; exact (by go_grown)
  have K9 : Blk w4 w3.heap.size 42 #[.int .u8 (op), .int .i64 (a), .int .i64 (b), .int .i64 (c), .int .i64 (d)] := by rw [hw4]; exact Blk.new _ _ _
  have HSc := Lib.hid (show St P _ n cap mem st code w3 w.heap.size w3.heap.size op a b c d w4 M _ _ _ _ _ _ from ⟨HM3.out.next hb4, HE3.out.next hb4, HKI3.out.next hb4, K9, Fr.of hb4, HPO.out _ (by omega), fun ho => by have := HPW.out _ ho; omega⟩)
  clear hw4 x0 x1 x2 x3 x4 e0 e1 f0 f1 zI TI FI K9
  obtain ⟨e0, e1, f0, f1, HRc, ⟨zI, TI, FI⟩, z9, T9, F9⟩ := HSc.out.open_ hpb hpo HP.out HD.out
  rcases HOR.out with ⟨rfl, rfl⟩ | ⟨rfl, hcl, rfl⟩ | ⟨rfl, hcl, t, y, rfl, htl, hy, rfl⟩ | ⟨rfl, hcl, rfl⟩ | ⟨rfl, hcl, t, y, rfl, htl, hy, rfl⟩ | ⟨rfl, rfl⟩ | ⟨rfl, hb, rfl⟩ | ⟨rfl, h0, q, hq, hlc, ha, ho, rfl⟩ | ⟨rfl, h0, q, hq, hlc, ha, ho, rfl⟩ | ⟨hs, ee, N, hv, hex, hs1, rfl⟩
  · clear HOR
    go_upto_region 11 with fail
    refine wp_nameY ?_
    intro wf hwf
    have hS := HSc.out.next (wy := wf) (by rw [hwf]; exact (by go_grown))
    clear hwf
    have HSf := Lib.hid hS
    obtain ⟨zf, HRf, HZf, HLf, HOf⟩ := hS.exit hpb hpo HKZ3.out HZO.out
    clear hS e0 e1 f0 f1 zI TI FI z9 T9 F9 HRc
    go_wp2_with (first | (refine wpList_loadG 30 rfl rfl rfl (load_mach HRf.out) ?_; simp only [Act.put, Bk.PU]) | (refine wpList_store_row rfl 30 (.tmp 4) (.tmp 49) rfl (w.heap.size + 2) (mcells (M) vm2 vs2 vc2 vi2 vo2).toArray rfl rfl 30 _ HZf.out (by rw [info_mach25]; simp [HLf.out]) (by simp [HLf.out]) (all_oneCell_toArray HOf.out) ?_; simp only [Act.put, Bk.PU]))
    (try simp only [Exit.inBlock, Exit.then])
    refine bodyPost_ret_by (results_cell_row2 rfl _ _ (w.heap.size + 2) _ _ _ rfl (setRow_heap _ _ _ _ _ _ HZf.out) Tryd.underlying30 rfl (by rw [info_mach25]; simp [HLf.out])) rfl ?_
    exact HSf.out.fin hB3 (B1 := w1.heap.size) (by omega) HPO.out HOWN.out (by omega) (by omega) (rfl) (fun h => by cases h)
  · clear HOR
    have HCL := Lib.hid hcl; clear hcl
    go_wp2_with fail
    have hs := ra_full HSc.out.hm (k : Int) false HCL.out (by have := HB.out.cl; omega)
    (try unfold SC at hs)
    rw [hpb, hpo] at hs
    refine hs.mono ?_
    rintro e w6 ⟨rfl, hm6, hf6⟩
    clear e0 e1 f0 f1 zI TI FI z9 T9 F9 HRc
    obtain ⟨vm6, vs6, vc6, vi6, vo6, sv6, hS6⟩ := HSc.out.step hf6 hm6
    clear HSc
    have HSc := Lib.hid hS6
    clear hS6 hm6 hf6 hs
    obtain ⟨e0, e1, f0, f1, HRc, ⟨zI, TI, FI⟩, z9, T9, F9⟩ := HSc.out.open_ hpb hpo HP.out HD.out
    go_upto_region 36 with fail
    refine wp_nameY ?_
    intro wf hwf
    have hS := HSc.out.next (wy := wf) (by rw [hwf]; exact (by go_grown))
    clear hwf
    have HSf := Lib.hid hS
    obtain ⟨zf, HRf, HZf, HLf, HOf⟩ := hS.exit hpb hpo HKZ3.out HZO.out
    clear hS e0 e1 f0 f1 zI TI FI z9 T9 F9 HRc
    go_wp2_with (first | (refine wpList_loadG 30 rfl rfl rfl (load_mach HRf.out) ?_; simp only [Act.put, Bk.PU]) | (refine wpList_store_row rfl 30 (.tmp 4) (.tmp 122) rfl (w.heap.size + 2) (mcells (M) vm6 vs6 vc6 vi6 vo6).toArray rfl rfl 30 _ HZf.out (by rw [info_mach25]; simp [HLf.out]) (by simp [HLf.out]) (all_oneCell_toArray HOf.out) ?_; simp only [Act.put, Bk.PU]))
    (try simp only [Exit.inBlock, Exit.then])
    refine bodyPost_ret_by (results_cell_row2 rfl _ _ (w.heap.size + 2) _ _ _ rfl (setRow_heap _ _ _ _ _ _ HZf.out) Tryd.underlying30 rfl (by rw [info_mach25]; simp [HLf.out])) rfl ?_
    exact HSf.out.fin hB3 (B1 := w1.heap.size) (by omega) HPO.out HOWN.out (by omega) (by omega) (rfl) (fun h => by cases h)
  · clear HOR
    have HCL := Lib.hid hcl; have HTL := Lib.hid htl; have HY := Lib.hid hy; clear hcl hy
    go_wp2_with fail
    have hs := ra_ok HSc.out.hm (k : Int) false HCL.out
    (try unfold SC at hs)
    rw [hpb, hpo] at hs
    refine hs.mono ?_
    rintro e w6 ⟨rfl, hm6, hf6⟩
    clear e0 e1 f0 f1 zI TI FI z9 T9 F9 HRc
    obtain ⟨vm6, vs6, vc6, vi6, vo6, sv6, hS6⟩ := HSc.out.step hf6 hm6
    clear HSc
    have HSc := Lib.hid hS6
    clear hS6 hm6 hf6 hs
    obtain ⟨e0, e1, f0, f1, HRc, ⟨zI, TI, FI⟩, z9, T9, F9⟩ := HSc.out.open_ hpb hpo HP.out HD.out
    have t0 : (0 : Int) ≤ (t : Int) := by omega
    have t1 : (t : Int) < (n : Int) := by have := HN.out; omega
    have tn : t < n := by omega
    obtain ⟨y0, y1, y2, y3, y4⟩ := HSc.out.he.at_ HTL.out HY.out
    have hbc := (HSc.out.he.hC.blk (by omega)).1
    have hbP : ¬ bc = w2.heap.size := fun e => (HSc.out.he.hC.blk (by omega)).2 (.inl (e.trans hpb.symm))
    go_upto_region 42 with fail
    refine wp_nameY ?_
    intro wf hwf
    have hS := ((HSc.out).setPc hpb hpo (y.a)).setPc hpb hpo ((t : Int) + 1)
    rw [← hwf] at hS
    clear hwf
    have HSf := Lib.hid hS
    obtain ⟨zf, HRf, HZf, HLf, HOf⟩ := hS.exit hpb hpo HKZ3.out HZO.out
    clear hS e0 e1 f0 f1 zI TI FI z9 T9 F9 HRc
    go_wp2_with (first | (refine wpList_loadG 30 rfl rfl rfl (load_mach HRf.out) ?_; simp only [Act.put, Bk.PU]) | (refine wpList_store_row rfl 30 (.tmp 4) (.tmp 144) rfl (w.heap.size + 2) (mcells ({ M with calls := M.calls ++ [((k : Int), false)], pc := (t : Int) + 1 }) vm6 vs6 vc6 vi6 vo6).toArray rfl rfl 30 _ HZf.out (by rw [info_mach25]; simp [HLf.out]) (by simp [HLf.out]) (all_oneCell_toArray HOf.out) ?_; simp only [Act.put, Bk.PU]))
    (try simp only [Exit.inBlock, Exit.then])
    refine bodyPost_ret_by (results_cell_row2 rfl _ _ (w.heap.size + 2) _ _ _ rfl (setRow_heap _ _ _ _ _ _ HZf.out) Tryd.underlying30 rfl (by rw [info_mach25]; simp [HLf.out])) rfl ?_
    exact HSf.out.fin hB3 (B1 := w1.heap.size) (by omega) HPO.out HOWN.out (by omega) (by omega) (rfl) (fun _ => rfl)
  · clear HOR
    have HCL := Lib.hid hcl; clear hcl
    go_wp2_with fail
    have hs := ra_full HSc.out.hm (k : Int) true HCL.out (by have := HB.out.cl; omega)
    (try unfold SC at hs)
    rw [hpb, hpo] at hs
    refine hs.mono ?_
    rintro e w6 ⟨rfl, hm6, hf6⟩
    clear e0 e1 f0 f1 zI TI FI z9 T9 F9 HRc
    obtain ⟨vm6, vs6, vc6, vi6, vo6, sv6, hS6⟩ := HSc.out.step hf6 hm6
    clear HSc
    have HSc := Lib.hid hS6
    clear hS6 hm6 hf6 hs
    obtain ⟨e0, e1, f0, f1, HRc, ⟨zI, TI, FI⟩, z9, T9, F9⟩ := HSc.out.open_ hpb hpo HP.out HD.out
    go_upto_region 36 with fail
    refine wp_nameY ?_
    intro wf hwf
    have hS := HSc.out.next (wy := wf) (by rw [hwf]; exact (by go_grown))
    clear hwf
    have HSf := Lib.hid hS
    obtain ⟨zf, HRf, HZf, HLf, HOf⟩ := hS.exit hpb hpo HKZ3.out HZO.out
    clear hS e0 e1 f0 f1 zI TI FI z9 T9 F9 HRc
    go_wp2_with (first | (refine wpList_loadG 30 rfl rfl rfl (load_mach HRf.out) ?_; simp only [Act.put, Bk.PU]) | (refine wpList_store_row rfl 30 (.tmp 4) (.tmp 122) rfl (w.heap.size + 2) (mcells (M) vm6 vs6 vc6 vi6 vo6).toArray rfl rfl 30 _ HZf.out (by rw [info_mach25]; simp [HLf.out]) (by simp [HLf.out]) (all_oneCell_toArray HOf.out) ?_; simp only [Act.put, Bk.PU]))
    (try simp only [Exit.inBlock, Exit.then])
    refine bodyPost_ret_by (results_cell_row2 rfl _ _ (w.heap.size + 2) _ _ _ rfl (setRow_heap _ _ _ _ _ _ HZf.out) Tryd.underlying30 rfl (by rw [info_mach25]; simp [HLf.out])) rfl ?_
    exact HSf.out.fin hB3 (B1 := w1.heap.size) (by omega) HPO.out HOWN.out (by omega) (by omega) (rfl) (fun h => by cases h)
  · clear HOR
    have HCL := Lib.hid hcl; have HTL := Lib.hid htl; have HY := Lib.hid hy; clear hcl hy
    go_wp2_with fail
    have hs := ra_ok HSc.out.hm (k : Int) true HCL.out
    (try unfold SC at hs)
    rw [hpb, hpo] at hs
    refine hs.mono ?_
    rintro e w6 ⟨rfl, hm6, hf6⟩
    clear e0 e1 f0 f1 zI TI FI z9 T9 F9 HRc
    obtain ⟨vm6, vs6, vc6, vi6, vo6, sv6, hS6⟩ := HSc.out.step hf6 hm6
    clear HSc
    have HSc := Lib.hid hS6
    clear hS6 hm6 hf6 hs
    obtain ⟨e0, e1, f0, f1, HRc, ⟨zI, TI, FI⟩, z9, T9, F9⟩ := HSc.out.open_ hpb hpo HP.out HD.out
    have t0 : (0 : Int) ≤ (t : Int) := by omega
    have t1 : (t : Int) < (n : Int) := by have := HN.out; omega
    have tn : t < n := by omega
    obtain ⟨y0, y1, y2, y3, y4⟩ := HSc.out.he.at_ HTL.out HY.out
    have hbc := (HSc.out.he.hC.blk (by omega)).1
    have hbP : ¬ bc = w2.heap.size := fun e => (HSc.out.he.hC.blk (by omega)).2 (.inl (e.trans hpb.symm))
    go_upto_region 42 with fail
    refine wp_nameY ?_
    intro wf hwf
    have hS := ((HSc.out).setDir hpb hpo (-1)).setPc hpb hpo (y.a)
    rw [← hwf] at hS
    clear hwf
    have HSf := Lib.hid hS
    obtain ⟨zf, HRf, HZf, HLf, HOf⟩ := hS.exit hpb hpo HKZ3.out HZO.out
    clear hS e0 e1 f0 f1 zI TI FI z9 T9 F9 HRc
    go_wp2_with (first | (refine wpList_loadG 30 rfl rfl rfl (load_mach HRf.out) ?_; simp only [Act.put, Bk.PU]) | (refine wpList_store_row rfl 30 (.tmp 4) (.tmp 144) rfl (w.heap.size + 2) (mcells ({ M with calls := M.calls ++ [((k : Int), true)], dir := -1, pc := y.a }) vm6 vs6 vc6 vi6 vo6).toArray rfl rfl 30 _ HZf.out (by rw [info_mach25]; simp [HLf.out]) (by simp [HLf.out]) (all_oneCell_toArray HOf.out) ?_; simp only [Act.put, Bk.PU]))
    (try simp only [Exit.inBlock, Exit.then])
    refine bodyPost_ret_by (results_cell_row2 rfl _ _ (w.heap.size + 2) _ _ _ rfl (setRow_heap _ _ _ _ _ _ HZf.out) Tryd.underlying30 rfl (by rw [info_mach25]; simp [HLf.out])) rfl ?_
    exact HSf.out.fin hB3 (B1 := w1.heap.size) (by omega) HPO.out HOWN.out (by omega) (by omega) (rfl) (fun _ => rfl)
  · clear HOR
    go_upto_region 46 with fail
    refine wp_nameY ?_
    intro wf hwf
    have hS := HSc.out.next (wy := wf) (by rw [hwf]; exact (by go_grown))
    clear hwf
    have HSf := Lib.hid hS
    obtain ⟨zf, HRf, HZf, HLf, HOf⟩ := hS.exit hpb hpo HKZ3.out HZO.out
    clear hS e0 e1 f0 f1 zI TI FI z9 T9 F9 HRc
    go_wp2_with (first | (refine wpList_loadG 30 rfl rfl rfl (load_mach HRf.out) ?_; simp only [Act.put, Bk.PU]) | (refine wpList_store_row rfl 30 (.tmp 4) (.tmp 153) rfl (w.heap.size + 2) (mcells (M) vm2 vs2 vc2 vi2 vo2).toArray rfl rfl 30 _ HZf.out (by rw [info_mach25]; simp [HLf.out]) (by simp [HLf.out]) (all_oneCell_toArray HOf.out) ?_; simp only [Act.put, Bk.PU]))
    (try simp only [Exit.inBlock, Exit.then])
    refine bodyPost_ret_by (results_cell_row2 rfl _ _ (w.heap.size + 2) _ _ _ rfl (setRow_heap _ _ _ _ _ _ HZf.out) Tryd.underlying30 rfl (by rw [info_mach25]; simp [HLf.out])) rfl ?_
    exact HSf.out.fin hB3 (B1 := w1.heap.size) (by omega) HPO.out HOWN.out (by omega) (by omega) (rfl) (fun h => by cases h)
  · clear HOR
    have HBAD := Lib.hid hb; clear hb
    go_wp2_with fail
    have hs := c_rleave_bad HSc.out.hm cap HSc.out.he mem st (a) HB.out.cl HBAD.out
    (try unfold SC at hs)
    rw [hpb, hpo] at hs
    refine hs.mono ?_
    rintro e w6 ⟨rfl, hm6, hf6⟩
    clear e0 e1 f0 f1 zI TI FI z9 T9 F9 HRc
    obtain ⟨vm6, vs6, vc6, vi6, vo6, sv6, hS6⟩ := HSc.out.step hf6 hm6
    clear HSc
    have HSc := Lib.hid hS6
    clear hS6 hm6 hf6 hs
    obtain ⟨e0, e1, f0, f1, HRc, ⟨zI, TI, FI⟩, z9, T9, F9⟩ := HSc.out.open_ hpb hpo HP.out HD.out
    go_upto_region 52 with fail
    refine wp_nameY ?_
    intro wf hwf
    have hS := HSc.out.next (wy := wf) (by rw [hwf]; exact (by go_grown))
    clear hwf
    have HSf := Lib.hid hS
    obtain ⟨zf, HRf, HZf, HLf, HOf⟩ := hS.exit hpb hpo HKZ3.out HZO.out
    clear hS e0 e1 f0 f1 zI TI FI z9 T9 F9 HRc
    go_wp2_with (first | (refine wpList_loadG 30 rfl rfl rfl (load_mach HRf.out) ?_; simp only [Act.put, Bk.PU]) | (refine wpList_store_row rfl 30 (.tmp 4) (.tmp 166) rfl (w.heap.size + 2) (mcells (M) vm6 vs6 vc6 vi6 vo6).toArray rfl rfl 30 _ HZf.out (by rw [info_mach25]; simp [HLf.out]) (by simp [HLf.out]) (all_oneCell_toArray HOf.out) ?_; simp only [Act.put, Bk.PU]))
    (try simp only [Exit.inBlock, Exit.then])
    refine bodyPost_ret_by (results_cell_row2 rfl _ _ (w.heap.size + 2) _ _ _ rfl (setRow_heap _ _ _ _ _ _ HZf.out) Tryd.underlying30 rfl (by rw [info_mach25]; simp [HLf.out])) rfl ?_
    exact HSf.out.fin hB3 (B1 := w1.heap.size) (by omega) HPO.out HOWN.out (by omega) (by omega) (rfl) (fun h => by cases h)
  · clear HOR
    have H0 := Lib.hid h0; have HQ := Lib.hid hq; have HLC := Lib.hid hlc; have HA := Lib.hid ha; have HO_ := Lib.hid ho; clear h0 hlc ha ho
    go_wp2_with fail
    have hs := rl_oka HSc.out.hm cap HSc.out.he mem st (a) HB.out.cl H0.out q HQ.out HLC.out HA.out HO_.out
    (try unfold SC at hs)
    rw [hpb, hpo] at hs
    refine hs.mono ?_
    rintro e w6 ⟨rfl, hm6, hf6⟩
    clear e0 e1 f0 f1 zI TI FI z9 T9 F9 HRc
    obtain ⟨vm6, vs6, vc6, vi6, vo6, sv6, hS6⟩ := HSc.out.step hf6 hm6
    clear HSc
    have HSc := Lib.hid hS6
    have HF36 := Lib.hid hS6.hf
    clear hS6 hm6 hf6 hs
    obtain ⟨e0, e1, f0, f1, HRc, ⟨zI, TI, FI⟩, z9, T9, F9⟩ := HSc.out.open_ hpb hpo HP.out HD.out
    have q0 : (0 : Int) ≤ (q : Int) := by omega
    have q1 : (q : Int) < (n : Int) := by have := HN.out; have := HQ.out; omega
    go_upto_region 51 with fail
    refine wp_nameY ?_
    intro w7 hw7
    have hb7 : Below w6.heap.size w6 w7 := by rw [hw7]; exact (by go_grown)
    have K15 : Blk w7 w6.heap.size 49 #[.int .i64 (q : Int), .bool false] := by rw [hw7]; exact (by repeat' (first | assumption | exact Blk.new' (by simp) _ _ | apply Blk.alloc | apply Blk.drew))
    clear hw7
    clear e0 e1 f0 f1 zI TI FI z9 T9 F9 HRc
    replace HSc := Lib.hid (HSc.out.next hb7)
    clear hb7
    obtain ⟨e0, e1, f0, f1, HRc, ⟨zI, TI, FI⟩, z9, T9, F9⟩ := HSc.out.open_ hpb hpo HP.out HD.out
    obtain ⟨z15, T15, F15⟩ := K15.open_
    have hne15 : ¬ w6.heap.size = w2.heap.size := fun e => by have h1 := HPW.out _ (.inl hpb.symm); have h2 := HF36.out.size; omega
    clear K15
    go_upto_region 58 with fail
    refine wp_nameY ?_
    intro wf hwf
    have hS := ((HSc.out).setPc hpb hpo ((q : Int))).setPc hpb hpo ((q : Int) + 1)
    rw [← hwf] at hS
    clear hwf
    have HSf := Lib.hid hS
    obtain ⟨zf, HRf, HZf, HLf, HOf⟩ := hS.exit hpb hpo HKZ3.out HZO.out
    clear hS e0 e1 f0 f1 zI TI FI z9 T9 F9 HRc
    go_wp2_with (first | (refine wpList_loadG 30 rfl rfl rfl (load_mach HRf.out) ?_; simp only [Act.put, Bk.PU]) | (refine wpList_store_row rfl 30 (.tmp 4) (.tmp 184) rfl (w.heap.size + 2) (mcells ({ M with calls := M.calls.dropLast, pc := (q : Int) + 1 }) vm6 vs6 vc6 vi6 vo6).toArray rfl rfl 30 _ HZf.out (by rw [info_mach25]; simp [HLf.out]) (by simp [HLf.out]) (all_oneCell_toArray HOf.out) ?_; simp only [Act.put, Bk.PU]))
    (try simp only [Exit.inBlock, Exit.then])
    refine bodyPost_ret_by (results_cell_row2 rfl _ _ (w.heap.size + 2) _ _ _ rfl (setRow_heap _ _ _ _ _ _ HZf.out) Tryd.underlying30 rfl (by rw [info_mach25]; simp [HLf.out])) rfl ?_
    exact HSf.out.fin hB3 (B1 := w1.heap.size) (by omega) HPO.out HOWN.out (by omega) (by omega) (rfl) (fun _ => rfl)
  · clear HOR
    have H0 := Lib.hid h0; have HQ := Lib.hid hq; have HLC := Lib.hid hlc; have HA := Lib.hid ha; have HO_ := Lib.hid ho; clear h0 hlc ha ho
    go_wp2_with fail
    have hs := rl_okb HSc.out.hm cap HSc.out.he mem st (a) HB.out.cl H0.out q HQ.out HLC.out HA.out HO_.out
    (try unfold SC at hs)
    rw [hpb, hpo] at hs
    refine hs.mono ?_
    rintro e w6 ⟨rfl, hm6, hf6⟩
    clear e0 e1 f0 f1 zI TI FI z9 T9 F9 HRc
    obtain ⟨vm6, vs6, vc6, vi6, vo6, sv6, hS6⟩ := HSc.out.step hf6 hm6
    clear HSc
    have HSc := Lib.hid hS6
    have HF36 := Lib.hid hS6.hf
    clear hS6 hm6 hf6 hs
    obtain ⟨e0, e1, f0, f1, HRc, ⟨zI, TI, FI⟩, z9, T9, F9⟩ := HSc.out.open_ hpb hpo HP.out HD.out
    have q0 : (0 : Int) ≤ (q : Int) := by omega
    have q1 : (q : Int) < (n : Int) := by have := HN.out; have := HQ.out; omega
    go_upto_region 51 with fail
    refine wp_nameY ?_
    intro w7 hw7
    have hb7 : Below w6.heap.size w6 w7 := by rw [hw7]; exact (by go_grown)
    have K15 : Blk w7 w6.heap.size 49 #[.int .i64 (q : Int), .bool true] := by rw [hw7]; exact (by repeat' (first | assumption | exact Blk.new' (by simp) _ _ | apply Blk.alloc | apply Blk.drew))
    clear hw7
    clear e0 e1 f0 f1 zI TI FI z9 T9 F9 HRc
    replace HSc := Lib.hid (HSc.out.next hb7)
    clear hb7
    obtain ⟨e0, e1, f0, f1, HRc, ⟨zI, TI, FI⟩, z9, T9, F9⟩ := HSc.out.open_ hpb hpo HP.out HD.out
    obtain ⟨z15, T15, F15⟩ := K15.open_
    have hne15 : ¬ w6.heap.size = w2.heap.size := fun e => by have h1 := HPW.out _ (.inl hpb.symm); have h2 := HF36.out.size; omega
    clear K15
    go_upto_region 58 with fail
    refine wp_nameY ?_
    intro wf hwf
    have hS := ((HSc.out).setDir hpb hpo (-1)).setPc hpb hpo ((q : Int))
    rw [← hwf] at hS
    clear hwf
    have HSf := Lib.hid hS
    obtain ⟨zf, HRf, HZf, HLf, HOf⟩ := hS.exit hpb hpo HKZ3.out HZO.out
    clear hS e0 e1 f0 f1 zI TI FI z9 T9 F9 HRc
    go_wp2_with (first | (refine wpList_loadG 30 rfl rfl rfl (load_mach HRf.out) ?_; simp only [Act.put, Bk.PU]) | (refine wpList_store_row rfl 30 (.tmp 4) (.tmp 184) rfl (w.heap.size + 2) (mcells ({ M with calls := M.calls.dropLast, dir := -1, pc := (q : Int) }) vm6 vs6 vc6 vi6 vo6).toArray rfl rfl 30 _ HZf.out (by rw [info_mach25]; simp [HLf.out]) (by simp [HLf.out]) (all_oneCell_toArray HOf.out) ?_; simp only [Act.put, Bk.PU]))
    (try simp only [Exit.inBlock, Exit.then])
    refine bodyPost_ret_by (results_cell_row2 rfl _ _ (w.heap.size + 2) _ _ _ rfl (setRow_heap _ _ _ _ _ _ HZf.out) Tryd.underlying30 rfl (by rw [info_mach25]; simp [HLf.out])) rfl ?_
    exact HSf.out.fin hB3 (B1 := w1.heap.size) (by omega) HPO.out HOWN.out (by omega) (by omega) (rfl) (fun _ => rfl)
  · clear HOR
    have hs' := of_decide_eq_true hs
    have n34 : (op == 34) = false := by rw [beq_eq_false_iff_ne]; omega
    have n22 : (op == 22) = false := by rw [beq_eq_false_iff_ne]; omega
    have n23 : (op == 23) = false := by rw [beq_eq_false_iff_ne]; omega
    have n24 : (op == 24) = false := by rw [beq_eq_false_iff_ne]; omega
    have n25 : (op == 25) = false := by rw [beq_eq_false_iff_ne]; omega
    have n26 : (op == 26) = false := by rw [beq_eq_false_iff_ne]; omega
    have n27 : (op == 27) = false := by rw [beq_eq_false_iff_ne]; omega
    have n30 : (op == 30) = false := by rw [beq_eq_false_iff_ne]; omega
    have n31 : (op == 31) = false := by rw [beq_eq_false_iff_ne]; omega
    have n32 : (op == 32) = false := by rw [beq_eq_false_iff_ne]; omega
    have n33 : (op == 33) = false := by rw [beq_eq_false_iff_ne]; omega
    have HS_ := Lib.hid hs; have HV := Lib.hid hv; have HEX := Lib.hid hex; have HS1 := Lib.hid hs1; clear hs hs' hv hex hs1
    have hkeep : N.pc = M.pc ∧ N.dir = M.dir := by have h := exec_keeps M ⟨op, a, b, c, d⟩; rw [HEX.out] at h; exact ⟨h.1, h.2.1⟩
    have HKP := Lib.hid hkeep; clear hkeep
    go_wp2_with fail
    have hs := c_straight HSc.out.hm HB.out HS1.out ⟨op, a, b, c, d⟩ HS_.out HV.out
    rw [HEX.out] at hs
    (try unfold SC at hs)
    rw [hpb, hpo] at hs
    refine hs.mono ?_
    rintro e w6 ⟨rfl, hm6, hf6⟩
    clear e0 e1 f0 f1 zI TI FI z9 T9 F9 HRc
    obtain ⟨vm6, vs6, vc6, vi6, vo6, sv6, hS6⟩ := HSc.out.step hf6 hm6
    clear HSc
    have HSc := Lib.hid hS6
    clear hS6 hm6 hf6 hs
    obtain ⟨e0, e1, f0, f1, HRc, ⟨zI, TI, FI⟩, z9, T9, F9⟩ := HSc.out.open_ hpb hpo (HKP.out.1.trans HP.out) (HKP.out.2.trans HD.out)
    go_upto_region 63 with fail
    refine wp_nameY ?_
    intro wf hwf
    have hS := (HSc.out).setPc hpb hpo ((k : Int) + 1)
    rw [← hwf] at hS
    clear hwf
    have HSf := Lib.hid hS
    obtain ⟨zf, HRf, HZf, HLf, HOf⟩ := hS.exit hpb hpo HKZ3.out HZO.out
    clear hS e0 e1 f0 f1 zI TI FI z9 T9 F9 HRc
    go_wp2_with (first | (refine wpList_loadG 30 rfl rfl rfl (load_mach HRf.out) ?_; simp only [Act.put, Bk.PU]) | (refine wpList_store_row rfl 30 (.tmp 4) (.tmp 197) rfl (w.heap.size + 2) (mcells ({ N with pc := (k : Int) + 1 }) vm6 vs6 vc6 vi6 vo6).toArray rfl rfl 30 _ HZf.out (by rw [info_mach25]; simp [HLf.out]) (by simp [HLf.out]) (all_oneCell_toArray HOf.out) ?_; simp only [Act.put, Bk.PU]))
    (try simp only [Exit.inBlock, Exit.then])
    refine bodyPost_ret_by (results_cell_row2 rfl _ _ (w.heap.size + 2) _ _ _ rfl (setRow_heap _ _ _ _ _ _ HZf.out) Tryd.underlying30 rfl (by rw [info_mach25]; simp [HLf.out])) rfl ?_
    exact HSf.out.fin hB3 (B1 := w1.heap.size) (by omega) HPO.out HOWN.out (by omega) (by omega) (rfl) (fun _ => rfl)
end Go.Proofs.YteocbllbljeajaaDoor
