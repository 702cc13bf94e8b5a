/- The reference of layer 24: Step at jumps and landings. -/
import Derived.Test.YteocbllbljeajaaDoorRU
set_option linter.unusedVariables false
set_option linter.unusedSimpArgs false
set_option maxRecDepth 100000
set_option maxHeartbeats 8000000
set_option maxRecDepth 100000
namespace Go.Proofs.YteocbllbljeajaaDoor
open Go.RowKit Bk
variable {w : World} {D : Nat → Prop} {P : Pl} {M : Mach} {vm vs vc vi vo : Value} {sv : List Value}
theorem rt_ctlF (hL : MLs w D M vm vs vc vi vo sv) {A : Option Addr} {n : Nat} (cap : Nat) {code : Prg} (hC : Rd w (· < w.heap.size) 5 A n (codeCells code)) (hw : CodeWf code) (hT : TableAt w) (hl : code.length ≤ 65536) (mem st : Int) (hB : MBd M) (k : Nat) (hk : k < code.length) (hd : M.dir = 1) (hp : M.pc = (k : Int)) (op a b c d : Int) (hx : code.getD k default = ⟨op, a, b, c, d⟩) (x : Int × Mach) (hv : (Ins.mk op a b c d).valid = true) (v : Bool) (hh : holds M ⟨op, a, b, c, d⟩ = v) (hor : ((op = 22 ∨ op = 23 ∨ op = 24) ∧ ∃ (t : Nat) (y : Ins) (u : Bool), rtgt ⟨op, a, b, c, d⟩ = t ∧ t < code.length ∧ code.getD t default = y ∧ y.valid = true ∧ holds M y = u ∧ (v = false → x = (0, { M with pc := (k : Int) + 1 })) ∧ (v = true → u = false → x = (15, M)) ∧ (v = true → u = true → x = (0, { M with pc := (t : Int) + 1 }))) ∨ ((op = 25 ∨ op = 26 ∨ op = 27) ∧ (v = true → x = (15, M)) ∧ (v = false → x = (0, { M with pc := (k : Int) + 1 })))) :
    Calls Tryd.prog 10 #[.agg #[.slice A n cap, .int .i64 mem, .int .i64 st], .agg (mcells M vm vs vc vi vo).toArray] w (RSt w x) := by
  have HV := Lib.hid hv; have HH := Lib.hid hh; have HOR := Lib.hid hor; clear hv hh hor
  have hn : n = code.length := by have := hC.1; rw [codeCells_length] at this; omega
  have hn6 : n ≤ 65536 := by omega
  have HL := Lib.hid hL; have HC := Lib.hid hC; have HT := Lib.hid hT; have HB := Lib.hid hB; have HN := Lib.hid hn
  clear hL hC hT hB hn
  go_enter Tryd.func10, Tryd.ntmps10
  go_upto_region 1 with fail
  refine wp_nameY ?_
  intro w1 hw1
  have hB1 : Below w.heap.size w w1 := by rw [hw1]; exact (by go_grown)
  have KI : Blk w1 w.heap.size 24 #[.slice A n cap, .int .i64 mem, .int .i64 st] := by rw [hw1]; exact ((Blk.new _ _ _).alloc _).alloc _
  have KB : Blk w1 (w.heap.size + 1) 30 (mcells M vm vs vc vi vo).toArray := by rw [hw1]; exact (Blk.new' (by simp) _ _).alloc _
  have KZ : Blk w1 (w.heap.size + 2) 30 #[.int .i64 0, .int .i64 0, .int .i64 0, .int .i64 0, .int .i64 0, .int .i64 0, .int .i64 0, .int .i64 0, .int .i64 0, .int .i64 0, .int .i64 0, .int .i64 0, .int .i64 0, .int .i64 0, .int .i64 0, .int .i64 0, .int .i64 0, .int .i64 0, .slice none 0 0, .slice none 0 0, .slice none 0 0, .int .i64 0, .int .i64 0, .slice none 0 0, .slice none 0 0] := by rw [hw1]; exact Blk.new' (by simp) _ _
  have z1 : w1.heap.size = w.heap.size + 3 := by rw [hw1]; simp
  have HKI := Lib.hid KI; have HKZ := Lib.hid KZ
  have HM := Lib.hid ((HL.out.next hB1).at_ KB)
  clear hw1 KI KB KZ
  go_wp2_with (refine wpList_loadG 30 rfl rfl rfl (load_mach HM.out) ?_; simp only [Act.put, Bk.PU])
  refine (c_RCopy HM.out.mls HB.out.ln).mono ?_
  rintro e w2 ⟨vm2, vs2, vc2, vi2, vo2, sv2, rfl, hO, hb2⟩
  have hlen := mc_len M vm2 vs2 vc2 vi2 vo2 hO.1
  have hone : ∀ v ∈ mcells M vm2 vs2 vc2 vi2 vo2, v.oneCell' = true := by
    have h' := hO.mls
    obtain ⟨_, _, rfl, _⟩ := h'.m; obtain ⟨_, _, rfl, _⟩ := h'.s; obtain ⟨_, _, rfl, _⟩ := h'.l.2.1; obtain ⟨_, _, rfl, _⟩ := h'.l.2.2.1; obtain ⟨_, _, rfl, _⟩ := h'.l.2.2.2
    exact mc_one rfl rfl rfl rfl rfl
  have HLEN := Lib.hid hlen; have HONE := Lib.hid hone; have HO := Lib.hid hO; have HB2 := Lib.hid hb2
  have hB2 := hB1.next hb2
  clear hlen hone hO hb2
  go_upto_region 2 with (refine wpList_store_row rfl 30 (.tmp 6) (.tmp 19) rfl w2.heap.size (mcells M vm2 vs2 vc2 vi2 vo2).toArray rfl rfl 30 #[.int .i64 0, .int .i64 0, .int .i64 0, .int .i64 0, .int .i64 0, .int .i64 0, .int .i64 0, .int .i64 0, .int .i64 0, .int .i64 0, .int .i64 0, .int .i64 0, .int .i64 0, .int .i64 0, .int .i64 0, .int .i64 0, .int .i64 0, .int .i64 0, .slice none 0 0, .slice none 0 0, .slice none 0 0, .int .i64 0, .int .i64 0, .slice none 0 0, .slice none 0 0] (heap_alloc_new w2 _) (by rw [info_mach25]; simp [HLEN.out]) (by simp [HLEN.out]) (all_oneCell_toArray HONE.out) ?_; simp only [Act.put, Bk.PU])
  refine wp_nameY ?_
  intro w3 hw3
  rw [World.setRow_alloc_new] at hw3
  have hb3 : Below w2.heap.size w2 w3 := by rw [hw3]; exact (Below.refl _ _).alloc (Nat.le_refl _) _
  have KM : Blk w3 w2.heap.size 30 (mcells M vm2 vs2 vc2 vi2 vo2).toArray := by rw [hw3]; exact Blk.new _ _ _
  obtain ⟨P, hpb, hpo, hm3, hpO, hown, hpW⟩ := nameM HO.out HB2.out hb3 KM
  have hB3 := hB2.next hb3
  have HPO := Lib.hid hpO; have HOWN := Lib.hid hown; have HPW := Lib.hid hpW; have HM3 := Lib.hid hm3
  have hs3 := KM.lt
  have HKI3 := Lib.hid ((HKI.out.next HB2.out).next hb3); have HKZ3 := Lib.hid ((HKZ.out.next HB2.out).next hb3)
  have HE3 : Hid (Env w3 P A n code) := Lib.hid (Env.old HC.out hw HT.out hl hB3 (fun k hk => hpO k (by omega)))
  have hs12 : w1.heap.size ≤ w2.heap.size := HB2.out.size
  have e0 : w3.cell? ⟨w2.heap.size, 0, none⟩ = some (.int .i64 M.pc) := by have := hm3.c0; rw [hpb, hpo] at this; exact this
  have e1 : w3.cell? ⟨w2.heap.size, 1, none⟩ = some (.int .i64 M.dir) := by have := hm3.c1; rw [hpb, hpo] at this; exact this
  have f0 : w3.frozen? ⟨w2.heap.size, 0, none⟩ = false := by have := hm3.frozen 0; rw [hpb] at this; exact this
  have f1 : w3.frozen? ⟨w2.heap.size, 1, none⟩ = false := by have := hm3.frozen 1; rw [hpb] at this; exact this
  obtain ⟨zI, TI, FI⟩ := HKI3.out.open_
  have HZO : Hid (¬ P.O (w.heap.size + 2)) := Lib.hid (hpO _ (by omega))
  clear hw3 KM hm3 hpO hown hpW HO hb3
  rw [hd] at e1
  rw [hp] at e0
  have hkn : k < n := by have := HN.out; omega
  have k0 : (0 : Int) ≤ (k : Int) := by omega
  have k1 : (k : Int) < (n : Int) := by omega
  obtain ⟨bc, oc, rfl⟩ := HE3.out.form hk
  obtain ⟨x0, x1, x2, x3, x4⟩ := HE3.out.at_ hk hx
  dsimp only at x0 x1 x2 x3 x4
  have HX := Lib.hid hx; have HD := Lib.hid hd; have HP := Lib.hid hp; have HK := Lib.hid hk
  clear hx hd hp hk
  go_upto_region 9 with fail
  refine wp_nameY ?_
  intro w4 hw4
  have hb4 : Below w3.heap.size w3 w4 := by rw [hw4]; exact (by go_grown)
  have K9 : Blk w4 w3.heap.size 42 #[.int .u8 (op), .int .i64 (a), .int .i64 (b), .int .i64 (c), .int .i64 (d)] := by rw [hw4]; exact Blk.new _ _ _
  have HSc := Lib.hid (show St P _ n cap mem st code w3 w.heap.size w3.heap.size op a b c d w4 M _ _ _ _ _ _ from ⟨HM3.out.next hb4, HE3.out.next hb4, HKI3.out.next hb4, K9, Fr.of hb4, HPO.out _ (by omega), fun ho => by have := HPW.out _ ho; omega⟩)
  clear hw4 x0 x1 x2 x3 x4 e0 e1 f0 f1 zI TI FI K9
  obtain ⟨e0, e1, f0, f1, HRc, ⟨zI, TI, FI⟩, z9, T9, F9⟩ := HSc.out.open_ hpb hpo HP.out HD.out
  clear HE3 HKI3 HM3 hb4
  rcases HOR.out with ⟨hop, t, y, u, ht, htl, hy, hyv, hyh, hx0, hx1, hx2⟩ | ⟨hop, hx1, hx0⟩
  · have HX1 := Lib.hid hx1; have HX0 := Lib.hid hx0; have HX2 := Lib.hid hx2; have HTG := Lib.hid ht; have HTL := Lib.hid htl; have HY := Lib.hid hy; have HYV := Lib.hid hyv; have HYH := Lib.hid hyh
    clear hx1 hx0 hx2 ht htl hy hyv hyh HOR
    rcases hop with rfl | rfl | rfl
    all_goals
      go_wp2_with fail
      refine (c_rTarget _ a b c d HTG.out _).mono ?_
      rintro e w5 ⟨rfl, hb5⟩
      clear e0 e1 f0 f1 zI TI FI z9 T9 F9 HRc
      replace HSc := Lib.hid (HSc.out.next hb5)
      clear hb5
      obtain ⟨e0, e1, f0, f1, HRc, ⟨zI, TI, FI⟩, z9, T9, F9⟩ := HSc.out.open_ hpb hpo HP.out HD.out
      go_wp2_with (refine wpList_loadG 30 rfl rfl rfl (load_mach HRc.out) ?_; simp only [Act.put, Bk.PU])
      refine (c_rholds HRc.out.mls ⟨_, a, b, c, d⟩ HV.out HH.out).mono ?_
      rintro e w6 ⟨rfl, hb6⟩
      clear e0 e1 f0 f1 zI TI FI z9 T9 F9 HRc
      replace HSc := Lib.hid (HSc.out.next hb6)
      clear hb6
      obtain ⟨e0, e1, f0, f1, HRc, ⟨zI, TI, FI⟩, z9, T9, F9⟩ := HSc.out.open_ hpb hpo HP.out HD.out
      rcases v with _ | _
      · obtain rfl := HX0.out rfl
        go_upto_region 30 with fail
        refine wp_nameY ?_
        intro wf hwf
        have hS := (HSc.out).setPc hpb hpo ((k : Int) + 1)
        rw [← hwf] at hS
        clear hwf
        have HSf := Lib.hid hS
        obtain ⟨zf, HRf, HZf, HLf, HOf⟩ := hS.exit hpb hpo HKZ3.out HZO.out
        clear hS e0 e1 f0 f1 zI TI FI z9 T9 F9 HRc
        go_wp2_with (first | (refine wpList_loadG 30 rfl rfl rfl (load_mach HRf.out) ?_; simp only [Act.put, Bk.PU]) | (refine wpList_store_row rfl 30 (.tmp 4) (.tmp 110) rfl (w.heap.size + 2) (mcells ({ M with pc := (k : Int) + 1 }) vm2 vs2 vc2 vi2 vo2).toArray rfl rfl 30 _ HZf.out (by rw [info_mach25]; simp [HLf.out]) (by simp [HLf.out]) (all_oneCell_toArray HOf.out) ?_; simp only [Act.put, Bk.PU]))
        (try simp only [Exit.inBlock, Exit.then])
        refine bodyPost_ret_by (results_cell_row2 rfl _ _ (w.heap.size + 2) _ _ _ rfl (setRow_heap _ _ _ _ _ _ HZf.out) Tryd.underlying30 rfl (by rw [info_mach25]; simp [HLf.out])) rfl ?_
        exact HSf.out.fin hB3 (B1 := w1.heap.size) (by omega) HPO.out HOWN.out (by omega) (by omega) (rfl) (fun _ => rfl)
      · have t0 : (0 : Int) ≤ (t : Int) := by omega
        have t1 : (t : Int) < (n : Int) := by have := HN.out; have := HTL.out; omega
        obtain ⟨y0, y1, y2, y3, y4⟩ := HSc.out.he.at_ HTL.out HY.out
        have hbw6 : Below w.heap.size w w6 := HSc.out.below hB3 (B1 := w1.heap.size) (by omega) HPO.out
        have bc6 : bc < w6.heap.size := (HSc.out.he.hC.blk (by omega)).1
        go_upto_region 21 with fail
        refine wp_region_grow (by kernel_rfl) (by kernel_rfl) ?_; intro W hW; have hneW : Nonempty (Grw W) := ⟨⟨W, Below.refl _ _⟩⟩; have HBz := Lib.hid (fun z => Below.next (show Below w.heap.size w W by (rw [hW]; exact (by go_grown))) (grow_below W z))
        have zM := fun z => HRc.out.next (w' := grow W z) (by rw [← hW]; exact grow_below W z)
        have lM := fun z => load_mach (zM z)
        have gI := fun z => (HSc.out.ki.next (w' := grow W z) (by rw [← hW]; exact grow_below W z)).cell
        have g0 := cell_grow hW bc6 y0; have g1 := cell_grow hW bc6 y1; have g2 := cell_grow hW bc6 y2; have g3 := cell_grow hW bc6 y3; have g4 := cell_grow hW bc6 y4
        have HW := Lib.hid hW; clear hW y0 y1 y2 y3 y4 e0 e1 f0 f1 zI TI FI z9 T9 F9
        have ZM := Lib.hid zM; have LM := Lib.hid lM; clear zM lM
        repeat (first | (go_big_quiet_want; refine quiet_loadG 30 rfl rfl (LM.out) ?_; go_big_quiet_on; simp only [Act.put, Bk.PU]) | go_big_quiet_step ((go_at_call 31; with_reducible exact quiet_grow (c_rholds (ZM.out _).mls y HYV.out HYH.out))))
        refine wpQuiet_nil ?_
        rintro _ ⟨z, rfl⟩
        have hbz := grow_below W z
        generalize grow W z = w7 at hbz ⊢
        rw [HW.out] at hbz
        clear HW HBz hneW ZM LM gI g0 g1 g2 g3 g4 hbw6 HRc
        replace HSc := Lib.hid (HSc.out.next hbz)
        clear hbz
        obtain ⟨e0, e1, f0, f1, HRc, ⟨zI, TI, FI⟩, z9, T9, F9⟩ := HSc.out.open_ hpb hpo HP.out HD.out
        rcases u with _ | _
        · obtain rfl := HX1.out (by trivial) (by trivial)
          go_upto_region 22 with fail
          refine wp_nameY ?_
          intro wf hwf
          have hS := HSc.out.next (wy := wf) (by rw [hwf]; exact (by go_grown))
          clear hwf
          have HSf := Lib.hid hS
          obtain ⟨zf, HRf, HZf, HLf, HOf⟩ := hS.exit hpb hpo HKZ3.out HZO.out
          clear hS e0 e1 f0 f1 zI TI FI z9 T9 F9 HRc
          go_wp2_with (first | (refine wpList_loadG 30 rfl rfl rfl (load_mach HRf.out) ?_; simp only [Act.put, Bk.PU]) | (refine wpList_store_row rfl 30 (.tmp 4) (.tmp 88) rfl (w.heap.size + 2) (mcells (M) vm2 vs2 vc2 vi2 vo2).toArray rfl rfl 30 _ HZf.out (by rw [info_mach25]; simp [HLf.out]) (by simp [HLf.out]) (all_oneCell_toArray HOf.out) ?_; simp only [Act.put, Bk.PU]))
          (try simp only [Exit.inBlock, Exit.then])
          refine bodyPost_ret_by (results_cell_row2 rfl _ _ (w.heap.size + 2) _ _ _ rfl (setRow_heap _ _ _ _ _ _ HZf.out) Tryd.underlying30 rfl (by rw [info_mach25]; simp [HLf.out])) rfl ?_
          exact HSf.out.fin hB3 (B1 := w1.heap.size) (by omega) HPO.out HOWN.out (by omega) (by omega) (rfl) (fun h => by cases h)
        · obtain rfl := HX2.out (by trivial) (by trivial)
          go_upto_region 26 with fail
          refine wp_nameY ?_
          intro wf hwf
          have hS := ((HSc.out).setPc hpb hpo ((t : Int))).setPc hpb hpo ((t : Int) + 1)
          rw [← hwf] at hS
          clear hwf
          have HSf := Lib.hid hS
          obtain ⟨zf, HRf, HZf, HLf, HOf⟩ := hS.exit hpb hpo HKZ3.out HZO.out
          clear hS e0 e1 f0 f1 zI TI FI z9 T9 F9 HRc
          go_wp2_with (first | (refine wpList_loadG 30 rfl rfl rfl (load_mach HRf.out) ?_; simp only [Act.put, Bk.PU]) | (refine wpList_store_row rfl 30 (.tmp 4) (.tmp 95) rfl (w.heap.size + 2) (mcells ({ M with pc := (t : Int) + 1 }) vm2 vs2 vc2 vi2 vo2).toArray rfl rfl 30 _ HZf.out (by rw [info_mach25]; simp [HLf.out]) (by simp [HLf.out]) (all_oneCell_toArray HOf.out) ?_; simp only [Act.put, Bk.PU]))
          (try simp only [Exit.inBlock, Exit.then])
          refine bodyPost_ret_by (results_cell_row2 rfl _ _ (w.heap.size + 2) _ _ _ rfl (setRow_heap _ _ _ _ _ _ HZf.out) Tryd.underlying30 rfl (by rw [info_mach25]; simp [HLf.out])) rfl ?_
          exact HSf.out.fin hB3 (B1 := w1.heap.size) (by omega) HPO.out HOWN.out (by omega) (by omega) (rfl) (fun _ => rfl)
  · have HX1 := Lib.hid hx1; have HX0 := Lib.hid hx0
    clear hx1 hx0 HOR
    rcases hop with rfl | rfl | rfl
    all_goals
      go_wp2_with fail
      refine (c_rTarget _ a b c d rfl _).mono ?_
      rintro e w5 ⟨rfl, hb5⟩
      clear e0 e1 f0 f1 zI TI FI z9 T9 F9 HRc
      replace HSc := Lib.hid (HSc.out.next hb5)
      clear hb5
      obtain ⟨e0, e1, f0, f1, HRc, ⟨zI, TI, FI⟩, z9, T9, F9⟩ := HSc.out.open_ hpb hpo HP.out HD.out
      go_wp2_with (refine wpList_loadG 30 rfl rfl rfl (load_mach HRc.out) ?_; simp only [Act.put, Bk.PU])
      refine (c_rholds HRc.out.mls ⟨_, a, b, c, d⟩ HV.out HH.out).mono ?_
      rintro e w6 ⟨rfl, hb6⟩
      clear e0 e1 f0 f1 zI TI FI z9 T9 F9 HRc
      replace HSc := Lib.hid (HSc.out.next hb6)
      clear hb6
      obtain ⟨e0, e1, f0, f1, HRc, ⟨zI, TI, FI⟩, z9, T9, F9⟩ := HSc.out.open_ hpb hpo HP.out HD.out
      rcases v with _ | _
      · obtain rfl := HX0.out rfl
        go_upto_region 30 with fail
        refine wp_nameY ?_
        intro wf hwf
        have hS := (HSc.out).setPc hpb hpo ((k : Int) + 1)
        rw [← hwf] at hS
        clear hwf
        have HSf := Lib.hid hS
        obtain ⟨zf, HRf, HZf, HLf, HOf⟩ := hS.exit hpb hpo HKZ3.out HZO.out
        clear hS e0 e1 f0 f1 zI TI FI z9 T9 F9 HRc
        go_wp2_with (first | (refine wpList_loadG 30 rfl rfl rfl (load_mach HRf.out) ?_; simp only [Act.put, Bk.PU]) | (refine wpList_store_row rfl 30 (.tmp 4) (.tmp 110) rfl (w.heap.size + 2) (mcells ({ M with pc := (k : Int) + 1 }) vm2 vs2 vc2 vi2 vo2).toArray rfl rfl 30 _ HZf.out (by rw [info_mach25]; simp [HLf.out]) (by simp [HLf.out]) (all_oneCell_toArray HOf.out) ?_; simp only [Act.put, Bk.PU]))
        (try simp only [Exit.inBlock, Exit.then])
        refine bodyPost_ret_by (results_cell_row2 rfl _ _ (w.heap.size + 2) _ _ _ rfl (setRow_heap _ _ _ _ _ _ HZf.out) Tryd.underlying30 rfl (by rw [info_mach25]; simp [HLf.out])) rfl ?_
        exact HSf.out.fin hB3 (B1 := w1.heap.size) (by omega) HPO.out HOWN.out (by omega) (by omega) (rfl) (fun _ => rfl)
      · obtain rfl := HX1.out rfl
        go_upto_region 28 with fail
        refine wp_nameY ?_
        intro wf hwf
        have hS := HSc.out.next (wy := wf) (by rw [hwf]; exact (by go_grown))
        clear hwf
        have HSf := Lib.hid hS
        obtain ⟨zf, HRf, HZf, HLf, HOf⟩ := hS.exit hpb hpo HKZ3.out HZO.out
        clear hS e0 e1 f0 f1 zI TI FI z9 T9 F9 HRc
        go_wp2_with (first | (refine wpList_loadG 30 rfl rfl rfl (load_mach HRf.out) ?_; simp only [Act.put, Bk.PU]) | (refine wpList_store_row rfl 30 (.tmp 4) (.tmp 103) rfl (w.heap.size + 2) (mcells (M) vm2 vs2 vc2 vi2 vo2).toArray rfl rfl 30 _ HZf.out (by rw [info_mach25]; simp [HLf.out]) (by simp [HLf.out]) (all_oneCell_toArray HOf.out) ?_; simp only [Act.put, Bk.PU]))
        (try simp only [Exit.inBlock, Exit.then])
        refine bodyPost_ret_by (results_cell_row2 rfl _ _ (w.heap.size + 2) _ _ _ rfl (setRow_heap _ _ _ _ _ _ HZf.out) Tryd.underlying30 rfl (by rw [info_mach25]; simp [HLf.out])) rfl ?_
        exact HSf.out.fin hB3 (B1 := w1.heap.size) (by omega) HPO.out HOWN.out (by omega) (by omega) (rfl) (fun h => by cases h)
end Go.Proofs.YteocbllbljeajaaDoor
