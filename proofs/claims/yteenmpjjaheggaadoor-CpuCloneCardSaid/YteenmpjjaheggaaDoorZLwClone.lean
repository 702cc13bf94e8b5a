/- The walk of the law CpuClone. -/
import Derived.Test.YteenmpjjaheggaaDoorZREqB
import Derived.Test.YteenmpjjaheggaaDoorZCloneF
import Derived.Test.YteenmpjjaheggaaDoorRX
import Derived.Test.YteenmpjjaheggaaDoorLwG
set_option linter.unusedVariables false
set_option linter.unusedSimpArgs false
set_option maxRecDepth 100000
set_option maxHeartbeats 8000000
namespace Bk
open Go Go.RowKit
/-- What the law's loops keep: the clone's block b; what is older than base; an int stays an int; the stacks' slices from j on. -/
structure Sh (base b gs j : Nat) (w w' : World) : Prop where
  lo : Below base w w'
  z : w'.heap.size = w.heap.size
  k : w'.heap[b]? = w.heap[b]?
  i : ∀ (g o : Nat) (n : Int), w.cell? ⟨g, o, none⟩ = some (.int .i64 n) → ∃ n' : Int, w'.cell? ⟨g, o, none⟩ = some (.int .i64 n')
  s : ∀ (o : Nat) (v : Value), j ≤ o → (∀ n, v ≠ .int .i64 n) → w.cell? ⟨gs, o, none⟩ = some v → w'.cell? ⟨gs, o, none⟩ = some v
  f : ∀ g, Nf w g → Nf w' g
theorem Sh.refl {base b gs j : Nat} {w : World} : Sh base b gs j w w := ⟨Below.refl _ _, rfl, rfl, fun _ _ n h => ⟨n, h⟩, fun _ _ _ _ h => h, fun _ h => h⟩
theorem Sh.int {base b gs j : Nat} {w w' : World} (h : Sh base b gs j w w') {g o : Nat} (hg : base ≤ g) (hb : g ≠ b) {x : Int} (hx : w'.cell? ⟨g, o, none⟩ = some (.int .i64 x)) (n : Int) : Sh base b gs j w (w'.setCell ⟨g, o, none⟩ (.int .i64 n)) := by
  refine ⟨h.lo.setCell hg _, by rw [← h.z]; simp [World.setCell], (Below.heap_setCell w' ⟨g, o, none⟩ _ b (fun e => hb e.symm)).trans h.k, fun g' o' m hm => ?_, fun o' v hj hv hc => ?_, fun g' hn => (h.f g' hn).set _ _⟩
  · by_cases e : (⟨g, o, none⟩ : Addr) = ⟨g', o', none⟩
    · rw [← e]; exact ⟨n, World.cell?_setCell_same w' _ _ hx⟩
    · rw [World.cell?_setCell_other w' _ _ _ e]; exact h.i g' o' m hm
  · have h1 := h.s o' v hj hv hc
    by_cases e : (⟨g, o, none⟩ : Addr) = ⟨gs, o', none⟩
    · rw [← e, hx] at h1; injection h1 with h1; exact absurd h1.symm (hv x)
    · rw [World.cell?_setCell_other w' _ _ _ e]; exact h1
theorem Sh.nil {base b gs j : Nat} {w w' : World} (h : Sh base b gs j w w') (hg : base ≤ gs) (hb : gs ≠ b) {u : Value} (hu : ∀ n, u ≠ .int .i64 n) (hx : w'.cell? ⟨gs, j, none⟩ = some u) (v : Value) : Sh base b gs (j + 1) w (w'.setCell ⟨gs, j, none⟩ v) := by
  refine ⟨h.lo.setCell hg _, by rw [← h.z]; simp [World.setCell], (Below.heap_setCell w' ⟨gs, j, none⟩ _ b (fun e => hb e.symm)).trans h.k, fun g' o' m hm => ?_, fun o' v' hj hv hc => ?_, fun g' hn => (h.f g' hn).set _ _⟩
  · by_cases e : (⟨gs, j, none⟩ : Addr) = ⟨g', o', none⟩
    · obtain ⟨m', h1⟩ := h.i g' o' m hm
      rw [← e, hx] at h1; injection h1 with h1; exact absurd h1 (hu m')
    · rw [World.cell?_setCell_other w' _ _ _ e]; exact h.i g' o' m hm
  · rw [World.cell?_setCell_other w' _ _ _ (fun e => by injection e with _ e2; omega)]
    exact h.s o' v' (by omega) hv hc
/-- A list whose elements begin with an int, in memory that can be written. -/
def LsI (w : World) (base b : Nat) (v : Value) (n sz : Nat) : Prop :=
  ∃ A cap, v = .slice A n cap ∧ ∀ i, i < n → ∃ (g o : Nat) (x : Int), A = some ⟨g, o, none⟩ ∧ base ≤ g ∧ g ≠ b ∧ Nf w g ∧ w.cell? ⟨g, o + i * sz, none⟩ = some (.int .i64 x)
theorem LsI.sh {w w' : World} {base b gs j n sz : Nat} {v : Value} (h : LsI w base b v n sz) (hs : Sh base b gs j w w') : LsI w' base b v n sz := by
  obtain ⟨A, cap, e, h⟩ := h
  refine ⟨A, cap, e, fun i hi => ?_⟩
  obtain ⟨g, o, x, h1, h2, h3, h4, h5⟩ := h i hi
  obtain ⟨x', h6⟩ := hs.i g _ x h5
  exact ⟨g, o, x', h1, h2, h3, hs.f g h4, h6⟩
theorem LsI.sl {w : World} {b gm gs n sz base : Nat} {t : TypeId} {v : Value} {xs : List Value} (h : Sl w (Pl.D ⟨b, t, [], [], 0, gm, gs, (· < base)⟩ w) sz v n xs) (hf : NfV w v) (hx : ∀ i, i < n → ∃ x : Int, xs[i * sz]? = some (.int .i64 x)) : LsI w base b v n sz := by
  obtain ⟨A, cap, rfl, hcap, hA, hR⟩ := h
  refine ⟨A, cap, rfl, fun i hi => ?_⟩
  obtain ⟨g, o, rfl, hd, hc⟩ := hR.2 (by omega)
  obtain ⟨x, hx⟩ := hx i hi
  refine ⟨g, o, x, rfl, ?_, ?_, hf _ _ _ rfl, hc _ _ hx⟩
  · have := hd.2; dsimp only at this; omega
  · have := hd.2; dsimp only at this; omega
theorem MRd.keepB {w w' : World} {D : Nat → Prop} {base b off : Nat} {M : Mach} {vm vs vc vi vo : Value} {sv : List Value} (h : MRd w D b off M vm vs vc vi vo sv) (hb : Below base w w') (h1 : b < base) (h2 : ∀ k, D k → k < base) : MRd w' D b off M vm vs vc vi vo sv :=
  ⟨h.rl, Nat.lt_of_lt_of_le h.lt hb.size, fun j hj => (hb.cell (p := ⟨b, off + j, none⟩) h1).trans (h.c j hj), h.m.keep (fun b o hd => hb.cell (p := ⟨b, o, none⟩) (h2 _ hd)) fun _ h => h,
   h.s.keep (fun b o hd => hb.cell (p := ⟨b, o, none⟩) (h2 _ hd)) fun _ h => h, h.l.keep (fun b o hd => hb.cell (p := ⟨b, o, none⟩) (h2 _ hd)) fun _ h => h, fun k hk => Nat.lt_of_lt_of_le (h.d k hk) hb.size⟩
theorem intCells_at (l : List Int) (i : Nat) (hi : i < l.length) : ∃ x : Int, (intCells l)[i * 1]? = some (.int .i64 x) := ⟨_, by rw [Nat.mul_one]; exact intCells_get l i hi⟩
theorem actCells_at (l : List (Int × Bool)) (i : Nat) (hi : i < l.length) : ∃ x : Int, (actCells l)[i * 2]? = some (.int .i64 x) := ⟨_, (actCells_get l i hi).1⟩
theorem LsI.row {w : World} {g n base b : Nat} {v : Value} {l : List Int} (h : Row w g v (intCells l)) (hn : n = l.length) (hg : base ≤ g) (hb : 0 < l.length → g ≠ b) : LsI w base b v n 1 := by
  subst hn
  obtain ⟨A, cap, rfl, h1, h2, h3⟩ := h
  rw [intCells_length] at *
  refine ⟨A, cap, rfl, fun i hi => ?_⟩
  obtain ⟨rfl, t, cur, hk, hc⟩ := h3 (by omega)
  refine ⟨g, 0, l.getD i 0, rfl, hg, hb (by omega), ⟨t, cur, hk⟩, ?_⟩
  rw [hk.cell, Nat.mul_one, Nat.zero_add]
  exact hc _ _ (intCells_get l i hi)
end Bk
namespace Go.Proofs.YteenmpjjaheggaaDoor
open Go.RowKit Bk
theorem mln_great {M : Mach} (h : greatB ⟨[], 0, 0⟩ M = false) : MLn M := by
  unfold greatB at h
  have h := of_decide_eq_false h
  simp only [not_or, Nat.not_lt, Int.not_lt] at h
  refine ⟨by omega, by omega, by omega, by omega, by omega, fun l hl => ?_⟩
  have h1 := le_sumLen hl
  omega
theorem c_lawCpuClone (M : Mach) (vm vs vc vi vo : Value) (sv : List Value) (N : Mach) (um us uc ui uo : Value) (su : List Value) (y : Int) (w : World) (hL : MLs w (· < w.heap.size) M vm vs vc vi vo sv) (hl : ∀ l ∈ M.s, l.length ≤ 17592186043904) (hL' : MLs w (· < w.heap.size) N um us uc ui uo su) (hl' : ∀ l ∈ N.s, l.length ≤ 17592186043904) (hTab : TableAt w) :
    Calls Tryd.prog 3 #[.agg (mcells M vm vs vc vi vo).toArray, .agg (mcells N um us uc ui uo).toArray, .int .i64 y] w fun e w' => e = .returned (.bool true) ∧ Below w.heap.size w w' := by
  obtain ⟨ga, hga⟩ : ∃ v, greatB ⟨[], 0, 0⟩ M = v := ⟨_, rfl⟩
  obtain ⟨gb, hgb⟩ : ∃ v, greatB ⟨[], 0, 0⟩ N = v := ⟨_, rfl⟩
  have HT := Lib.hid hTab; have HL := Lib.hid hL; have HLL := Lib.hid hl; have HL' := Lib.hid hL'; have HLL' := Lib.hid hl'; have HGA := Lib.hid hga; have HGB := Lib.hid hgb
  clear hTab hL hl hL' hl' hga hgb
  go_enter Tryd.func3, Tryd.ntmps3
  go_upto_region 1 with fail
  refine wp_nameY ?_
  intro w1 hw1
  have hB_w1 : Below w.heap.size w w1 := by rw [hw1]; exact (by go_grown)
  have KM : Blk w1 w.heap.size 27 (mcells M vm vs vc vi vo).toArray := by rw [hw1]; exact (by repeat' (first | assumption | exact Blk.new' (by simp) _ _ | apply Blk.alloc | apply Blk.drew))
  have KN : Blk w1 (w.heap.size + 1) 27 (mcells N um us uc ui uo).toArray := by rw [hw1]; exact Blk.new' (by simp) _ _
  have HM := Lib.hid ((HL.out.next hB_w1).at_ KM)
  have HN := Lib.hid ((HL'.out.next hB_w1).at_ KN)
  have zz : w1.heap.size = w.heap.size + 2 := by rw [hw1]; simp
  clear hw1 KM KN
  go_wp2_with fail
  refine (c_awake24 _ (HT.out.next hB_w1)).mono ?_
  rintro e w2 ⟨rfl, hb2⟩
  have hB_w2 := hB_w1.next hb2
  replace HM := Lib.hid (HM.out.next hb2)
  replace HN := Lib.hid (HN.out.next hb2)
  have z2 := hb2.size
  clear hb2
  go_wp2_with (refine wpList_loadG 27 rfl rfl rfl (load_mach HM.out) ?_; simp only [Act.put, Bk.PU])
  refine (c_great (HL.out.next hB_w2) none 0 0 ⟨[], 0, 0⟩ rfl HLL.out HGA.out).mono ?_
  rintro e w3 ⟨rfl, hb3⟩
  have hB_w3 := hB_w2.next hb3
  replace HM := Lib.hid (HM.out.next hb3)
  replace HN := Lib.hid (HN.out.next hb3)
  have z3 := hb3.size
  clear hb3
  cases ga with
  | true =>
    go_wp2_with fail
    refine (c_awake24 _ (HT.out.next hB_w3)).mono ?_
    rintro e w4 ⟨rfl, hb4⟩
    have hB_w4 := hB_w3.next hb4
    go_wp2_with fail
    go_ret
    exact ⟨rfl, hB_w4⟩
  | false =>
  go_wp2_with (refine wpList_loadG 27 rfl rfl rfl (load_mach HN.out) ?_; simp only [Act.put, Bk.PU])
  refine (c_great (HL'.out.next hB_w3) none 0 0 ⟨[], 0, 0⟩ rfl HLL'.out HGB.out).mono ?_
  rintro e w4 ⟨rfl, hb4⟩
  have hB_w4 := hB_w3.next hb4
  replace HM := Lib.hid (HM.out.next hb4)
  replace HN := Lib.hid (HN.out.next hb4)
  have z4 := hb4.size
  clear hb4
  cases gb with
  | true =>
    go_wp2_with fail
    refine (c_awake24 _ (HT.out.next hB_w4)).mono ?_
    rintro e w5 ⟨rfl, hb5⟩
    have hB_w5 := hB_w4.next hb5
    go_wp2_with fail
    go_ret
    exact ⟨rfl, hB_w5⟩
  | false =>
  have HLN := Lib.hid (mln_great HGA.out); have HLN' := Lib.hid (mln_great HGB.out)
  go_wp2_with (refine wpList_loadG 27 rfl rfl rfl (load_mach HM.out) ?_; simp only [Act.put, Bk.PU])
  refine (c_RCopyS HM.out.mls HLN.out (fun l hl => by have := HLL.out l hl; omega)).mono ?_
  rintro e w5 ⟨vm5, vs5, vc5, vi5, vo5, sv5, rfl, hO, hb5⟩
  have hB_w5 := hB_w4.next hb5
  replace HM := Lib.hid (HM.out.next hb5)
  replace HN := Lib.hid (HN.out.next hb5)
  have z5 := hb5.size
  have hone : ∀ v ∈ mcells M vm5 vs5 vc5 vi5 vo5, v.oneCell' = true := by
    have h' := hO.mls
    obtain ⟨_, _, rfl, _⟩ := h'.m; obtain ⟨_, _, rfl, _⟩ := h'.s; obtain ⟨_, _, rfl, _⟩ := h'.l.2.1; obtain ⟨_, _, rfl, _⟩ := h'.l.2.2.1; obtain ⟨_, _, rfl, _⟩ := h'.l.2.2.2
    exact mc_one rfl rfl rfl rfl rfl
  have HLEN := Lib.hid (mc_len M vm5 vs5 vc5 vi5 vo5 hO.1); have HONE := Lib.hid hone; have HO := Lib.hid hO
  clear hone hO hb5
  go_upto_region 4 with (refine wpList_store_row rfl 27 (.tmp 7) (.tmp 29) rfl w5.heap.size (mcells M vm5 vs5 vc5 vi5 vo5).toArray rfl rfl 27 #[.int .i64 0, .int .i64 0, .int .i64 0, .int .i64 0, .int .i64 0, .int .i64 0, .int .i64 0, .int .i64 0, .int .i64 0, .int .i64 0, .int .i64 0, .int .i64 0, .int .i64 0, .int .i64 0, .int .i64 0, .int .i64 0, .int .i64 0, .int .i64 0, .slice none 0 0, .slice none 0 0, .slice none 0 0, .int .i64 0, .int .i64 0, .slice none 0 0, .slice none 0 0] (heap_alloc_new w5 _) (by rw [info_mach25]; simp [HLEN.out]) (by simp [HLEN.out]) (all_oneCell_toArray HONE.out) ?_; simp only [Act.put, Bk.PU])
  refine wp_nameY ?_
  intro w6 hw6
  rw [World.setRow_alloc_new] at hw6
  have hb6 : Below w5.heap.size w5 w6 := by rw [hw6]; exact (Below.refl _ _).alloc (Nat.le_refl _) _
  have KW : Blk w6 w5.heap.size 27 (mcells M vm5 vs5 vc5 vi5 vo5).toArray := by rw [hw6]; exact Blk.new _ _ _
  have hB_w6 := hB_w5.next hb6
  have HW_ := Lib.hid ((HO.out.mls.next hb6).at_ KW)
  have z6 := KW.lt
  replace HM := Lib.hid (HM.out.next hb6)
  replace HN := Lib.hid (HN.out.next hb6)
  clear hb6 hw6 KW HLEN HONE HO
  go_wp2_with fail
  refine (c_CloneF HM.out HLN.out).mono ?_
  rintro e w7 ⟨bc, gm, gs, vm7, vs7, vc7, vi7, vo7, sv7, rfl, r1, r2, r3, hC, hb7, fc, fi, fo, fs⟩
  have hB_w7 := hB_w6.next hb7
  replace HM := Lib.hid (HM.out.next hb7)
  replace HN := Lib.hid (HN.out.next hb7)
  replace HW_ := Lib.hid (HW_.out.next hb7)
  have z7 := hb7.size
  have HC := Lib.hid hC; have HR := Lib.hid hC.rd; have HFC := Lib.hid fc; have HFI := Lib.hid fi; have HFO := Lib.hid fo; have HFS := Lib.hid fs
  clear hC hb7 fc fi fo fs
  obtain ⟨q, hq⟩ : ∃ v, decide (M = N) = v := ⟨_, rfl⟩
  have hq' : decide (N = M) = q := by rw [← hq]; exact decide_eq_decide.2 eq_comm
  have hqq : (q != q) = false := by cases q <;> rfl
  have HQ := Lib.hid hq; have HQ' := Lib.hid hq'
  clear hq hq'
  go_wp2_with fail
  refine wp_region_grow (by kernel_rfl) (by kernel_rfl) ?_; intro W hW; have hneW : Nonempty (Grw W) := ⟨⟨W, Below.refl _ _⟩⟩; have HBz := Lib.hid (fun z => Below.next (show Below w.heap.size w W by (rw [hW]; exact (by go_grown))) (grow_below W z))
  have zA := fun z => HM.out.next (w' := grow W z) (by rw [← hW]; exact grow_below W z)
  have zN := fun z => HN.out.next (w' := grow W z) (by rw [← hW]; exact grow_below W z)
  have zC := fun z => HR.out.next (w' := grow W z) (by rw [← hW]; exact grow_below W z)
  have lA := fun z => load_mach (zA z); have lN := fun z => load_mach (zN z)
  have ZA := Lib.hid zA; have ZN := Lib.hid zN; have ZC := Lib.hid zC
  have HW := Lib.hid hW; clear hW zA zN zC
  have LA := Lib.hid lA; have LN := Lib.hid lN
  clear lA lN
  repeat (first | (go_big_quiet_want; refine quiet_loadG 27 rfl rfl (LA.out) ?_; go_big_quiet_on; simp only [Act.put, Bk.PU]) | (go_big_quiet_want; refine quiet_loadG 27 rfl rfl (LN.out) ?_; go_big_quiet_on; simp only [Act.put, Bk.PU]) | go_big_quiet_step ((first | (go_at_call 10; with_reducible exact quiet_grow (c_EqualB (ZC.out _) (ZA.out _) HLN.out HLN.out (decide_eq_true rfl))) | (go_at_call 10; with_reducible exact quiet_grow (c_EqualB (ZA.out _) (ZN.out _) HLN.out HLN'.out HQ.out)) | (go_at_call 10; with_reducible exact quiet_grow (c_EqualB (ZN.out _) (ZA.out _) HLN'.out HLN.out HQ'.out)) | (go_at_call 11; with_reducible exact quiet_grow (c_REqB (ZA.out _).mls (ZN.out _).mls HLN.out HLN'.out HQ.out)) | (go_at_call 10; with_reducible exact quiet_grow (c_EqualNa _ _)) | (go_at_call 10; with_reducible exact quiet_grow (c_EqualNb _ _)) | (go_at_call 10; with_reducible exact quiet_grow (c_EqualNn _)) | (go_at_call 9; with_reducible exact quiet_grow (c_CloneN _)))))
  refine wpQuiet_nil ?_
  rintro _ ⟨z, rfl⟩
  have hb := grow_below W z
  generalize grow W z = wc at hb ⊢
  rw [HW.out] at hb
  have hB_wc := hB_w7.next hb
  replace HM := Lib.hid (HM.out.next hb); replace HW_ := Lib.hid (HW_.out.next hb); replace HC := Lib.hid (HC.out.next hb)
  replace HFC := Lib.hid (HFC.out.next hb); replace HFI := Lib.hid (HFI.out.next hb); replace HFO := Lib.hid (HFO.out.next hb)
  have HFS8 : Hid (∀ (k : Nat) (u : Value), sv7[k]? = some u → NfV wc u) := Lib.hid fun k u h => (HFS.out k u h).next hb
  have hR : MRd wc (· < wc.heap.size) bc 0 M vm7 vs7 vc7 vi7 vo7 sv7 := HC.out.rd
  have HR8 := Lib.hid hR
  have z8 := hb.size
  clear HW HBz hneW hb hR HR HFS HN HL' HLL' HGA HGB LA LN ZA ZN ZC hqq HQ HQ'
  have lm : LsI wc w6.heap.size bc vm7 M.m.length 1 := LsI.row HC.out.m rfl r2 (fun h => (HC.out.am h).1)
  have lc : LsI wc w6.heap.size bc vc7 M.calls.length 2 := LsI.sl HC.out.l.2.1 HFC.out (actCells_at M.calls)
  have li : LsI wc w6.heap.size bc vi7 M.inp.length 1 := LsI.sl HC.out.l.2.2.1 HFI.out (intCells_at M.inp)
  have lo : LsI wc w6.heap.size bc vo7 M.out.length 1 := LsI.sl HC.out.l.2.2.2 HFO.out (intCells_at M.out)
  have ls : ∀ k, k < M.s.length → ∃ u, sv7[k]? = some u ∧ LsI wc w6.heap.size bc u (M.s.getD k []).length 1 := fun k hk => by
    obtain ⟨u, hu, hsl⟩ := HC.out.l.1.2 k hk
    exact ⟨u, hu, LsI.sl hsl (HFS8.out k u hu) (intCells_at _)⟩
  obtain ⟨As, cs, evs, hss⟩ : ∃ As cs, vs7 = .slice As M.s.length cs ∧ (0 < M.s.length → As = some ⟨gs, 0, none⟩ ∧ gs ≠ bc ∧ Nf wc gs ∧ ∀ k u, sv7[k]? = some u → wc.cell? ⟨gs, k, none⟩ = some u) := by
    obtain ⟨A, cap, e, h1, h2, h3⟩ := HC.out.s
    have hl := HC.out.l.1.1
    rw [hl] at e h3
    refine ⟨A, cap, e, fun h => ?_⟩
    obtain ⟨rfl, t, cur, hk, hc⟩ := h3 h
    exact ⟨rfl, HC.out.as_ h, ⟨t, cur, hk⟩, fun k u hu => by rw [hk.cell]; exact hc k u hu⟩
  have K18 : ∀ wr, Sh w6.heap.size bc gs 0 wc wr → wr.cell? ⟨bc, 18, none⟩ = some vm7 := fun wr h => (World.cell?_of_block h.k).trans (by have := HR8.out.c18; rwa [Nat.zero_add] at this)
  have K19 : ∀ j wr, Sh w6.heap.size bc gs j wc wr → wr.cell? ⟨bc, 19, none⟩ = some vs7 := fun j wr h => (World.cell?_of_block h.k).trans (by have := HR8.out.c19; rwa [Nat.zero_add] at this)
  have K20 : ∀ j wr, Sh w6.heap.size bc gs j wc wr → wr.cell? ⟨bc, 20, none⟩ = some vc7 := fun j wr h => (World.cell?_of_block h.k).trans (by have := HR8.out.c20; rwa [Nat.zero_add] at this)
  have K23 : ∀ j wr, Sh w6.heap.size bc gs j wc wr → wr.cell? ⟨bc, 23, none⟩ = some vi7 := fun j wr h => (World.cell?_of_block h.k).trans (by have := HR8.out.c23; rwa [Nat.zero_add] at this)
  have K24 : ∀ j wr, Sh w6.heap.size bc gs j wc wr → wr.cell? ⟨bc, 24, none⟩ = some vo7 := fun j wr h => (World.cell?_of_block h.k).trans (by have := HR8.out.c24; rwa [Nat.zero_add] at this)
  have k18 := K18 _ Sh.refl
  have KM := Lib.hid K18; have KS := Lib.hid K19; have KC := Lib.hid K20; have KI := Lib.hid K23; have KO := Lib.hid K24
  have LM := Lib.hid lm; have LC := Lib.hid lc; have LI := Lib.hid li; have LO := Lib.hid lo; have LS := Lib.hid ls; have HSS := Lib.hid hss; have HEV := Lib.hid evs
  have hmm : M.m.length ≤ 16384 := by have := HLN.out.ml; omega
  have hms : M.s.length ≤ 16384 := HLN.out.sl
  have hmc : M.calls.length ≤ 16384 := by have := HLN.out.cl; omega
  have hmi : M.inp.length ≤ 100000 := by have := HLN.out.il; omega
  have hmo : M.out.length ≤ 100000 := by have := HLN.out.ol; omega
  clear K18 K19 K20 K23 K24 lm lc li lo ls hss evs HC HR8 HFC HFI HFO HFS8
  obtain ⟨Am, cm, evm, _⟩ := LM.out
  have HEM := Lib.hid evm
  rw [evm] at k18
  clear evm
  go_wp2_with fail
  go_loopw [71] (fun v71 wr => ∃ j : Nat, j ≤ M.m.length ∧ v71 = .int .i64 j ∧ Sh w6.heap.size bc gs 0 wc wr) (fun v _ => M.m.length - (intOf v).toNat)
  case atStart => exact ⟨0, Nat.zero_le _, rfl, Sh.refl⟩
  case round =>
    obtain ⟨j, hj, rfl, hS⟩ := hrel
    have HS := Lib.hid hS
    have k18 := KM.out _ hS
    rw [HEM.out] at k18
    clear hS
    by_cases hlt : j < M.m.length
    · obtain ⟨_, _, ev, hx⟩ := LM.out.sh HS.out
      rw [HEM.out] at ev; injection ev with ev1 _ ev2; subst ev1; subst ev2
      obtain ⟨g, o, x, rfl, hg, hgb, hn, hc⟩ := hx j hlt
      rw [Nat.mul_one] at hc
      have hf := hn.frozen (o + j)
      have j0 : (0 : Int) ≤ (j : Int) := by omega
      have j1 : (j : Int) < (M.m.length : Int) := by omega
      have HN := Lib.hid hn; have HX := Lib.hid hx
      clear hn hx
      go_wp2_with fail
      exact ⟨⟨j + 1, by omega, by go_num, HS.out.int hg hgb hc _⟩, by simp [intOf]; omega⟩
    · obtain rfl : j = M.m.length := by omega
      clear k18
      have k19 := KS.out 0 _ HS.out
      rw [HEV.out] at k19
      go_wp2_with fail
      go_loopw [90] (fun v90 ws => ∃ j : Nat, j ≤ M.s.length ∧ v90 = .int .i64 j ∧ Sh w6.heap.size bc gs j wc ws) (fun v _ => M.s.length - (intOf v).toNat)
      case atStart => exact ⟨0, Nat.zero_le _, rfl, HS.out⟩
      case round =>
        clear k19
        obtain ⟨j, hj, rfl, hS⟩ := hrel
        have HSj := Lib.hid hS
        have k19 := KS.out j _ hS
        rw [HEV.out] at k19
        clear hS
        by_cases hlt : j < M.s.length
        · obtain ⟨eA, hgb, hnf, hcell⟩ := HSS.out (by omega)
          subst eA
          obtain ⟨u, hu, hlu⟩ := LS.out j hlt
          obtain ⟨lj, hlj⟩ : ∃ n, n = (M.s.getD j []).length := ⟨_, rfl⟩
          have hljb : lj ≤ 20000000000000 := by have := HLN.out.st _ (getD_mem hlt); omega
          rw [← hlj] at hlu
          obtain ⟨Au, cu, evu, hxu⟩ := hlu
          have hnu : ∀ n : Int, u ≠ .int .i64 n := fun n e => by rw [evu] at e; cases e
          have hcu := hcell j u hu
          have cu := HSj.out.s j u (Nat.le_refl _) hnu hcu
          have HLU : Hid (LsI wc w6.heap.size bc u lj 1) := Lib.hid ⟨Au, _, evu, hxu⟩
          have HEU := Lib.hid evu; have HNU := Lib.hid hnu; have HCU := Lib.hid hcu; have HNF := Lib.hid hnf; have HGB := Lib.hid hgb
          rw [evu] at cu
          have j0 : (0 : Int) ≤ (j : Int) := by omega
          have j1 : (j : Int) < (M.s.length : Int) := by omega
          clear hcell hu hlj hxu evu hnu hcu hnf
          go_wp2_with fail
          go_loopw [101] (fun v101 wq => ∃ q : Nat, q ≤ lj ∧ v101 = .int .i64 q ∧ Sh w6.heap.size bc gs j wc wq) (fun v _ => lj - (intOf v).toNat)
          case atStart => exact ⟨0, Nat.zero_le _, rfl, HSj.out⟩
          case round =>
            clear k19 cu
            obtain ⟨q, hq, rfl, hS⟩ := hrel
            have HSq := Lib.hid hS
            have k19 := KS.out j _ hS
            rw [HEV.out] at k19
            have cu := hS.s j u (Nat.le_refl _) HNU.out HCU.out
            rw [HEU.out] at cu
            clear hS
            by_cases hltq : q < lj
            · obtain ⟨_, _, ev, hx⟩ := HLU.out.sh HSq.out
              rw [HEU.out] at ev; injection ev with ev1 _ ev2; subst ev1; subst ev2
              obtain ⟨g, o, x, rfl, hg, hgb2, hn, hc⟩ := hx q hltq
              rw [Nat.mul_one] at hc
              have hf := hn.frozen (o + q)
              have q0 : (0 : Int) ≤ (q : Int) := by omega
              have q1 : (q : Int) < (lj : Int) := by omega
              have HN := Lib.hid hn; have HX := Lib.hid hx
              clear hn hx
              go_wp2_with fail
              exact ⟨⟨q + 1, by omega, by go_num, HSq.out.int hg hgb2 hc _⟩, by simp [intOf]; omega⟩
            · obtain rfl : q = lj := by omega
              have hf := (HSq.out.f _ HNF.out).frozen j
              go_wp2_with fail
              exact ⟨⟨j + 1, by omega, by go_num, HSq.out.nil r3 HGB.out (u := u) HNU.out (by rw [HEU.out]; exact cu) _⟩, by simp [intOf]; omega⟩
        · obtain rfl : j = M.s.length := by omega
          clear k19
          have HSS8 := HSj
          obtain ⟨Ac, cc, evAc, _⟩ := LC.out
          have HEAc := Lib.hid evAc
          have k20 := KC.out M.s.length _ HSS8.out
          rw [evAc] at k20
          clear evAc
          go_wp2_with fail
          go_loopw [130] (fun v130 wk => ∃ j : Nat, j ≤ M.calls.length ∧ v130 = .int .i64 j ∧ Sh w6.heap.size bc gs M.s.length wc wk) (fun v _ => M.calls.length - (intOf v).toNat)
          case atStart => exact ⟨0, Nat.zero_le _, rfl, HSS8.out⟩
          case round =>
            clear k20
            obtain ⟨j, hj, rfl, hS⟩ := hrel
            have HS_Ac := Lib.hid hS
            have k20 := KC.out M.s.length _ hS
            rw [HEAc.out] at k20
            clear hS
            by_cases hlt : j < M.calls.length
            · obtain ⟨_, _, ev, hx⟩ := LC.out.sh HS_Ac.out
              rw [HEAc.out] at ev; injection ev with ev1 _ ev2; subst ev1; subst ev2
              obtain ⟨g, o, x, rfl, hg, hgb, hn, hc⟩ := hx j hlt
              have hf := hn.frozen (o + j * 2)
              have j0 : (0 : Int) ≤ (j : Int) := by omega
              have j1 : (j : Int) < (M.calls.length : Int) := by omega
              have HN := Lib.hid hn; have HX := Lib.hid hx
              clear hn hx
              go_wp2_with fail
              exact ⟨⟨j + 1, by omega, by go_num, HS_Ac.out.int hg hgb hc _⟩, by simp [intOf]; omega⟩
            · obtain rfl : j = M.calls.length := by omega
              clear k20
              obtain ⟨Ai, ci, evAi, _⟩ := LI.out
              have HEAi := Lib.hid evAi
              have k23 := KI.out M.s.length _ HS_Ac.out
              rw [evAi] at k23
              clear evAi
              go_wp2_with fail
              go_loopw [151] (fun v151 wi => ∃ j : Nat, j ≤ M.inp.length ∧ v151 = .int .i64 j ∧ Sh w6.heap.size bc gs M.s.length wc wi) (fun v _ => M.inp.length - (intOf v).toNat)
              case atStart => exact ⟨0, Nat.zero_le _, rfl, HS_Ac.out⟩
              case round =>
                clear k23
                obtain ⟨j, hj, rfl, hS⟩ := hrel
                have HS_Ai := Lib.hid hS
                have k23 := KI.out M.s.length _ hS
                rw [HEAi.out] at k23
                clear hS
                by_cases hlt : j < M.inp.length
                · obtain ⟨_, _, ev, hx⟩ := LI.out.sh HS_Ai.out
                  rw [HEAi.out] at ev; injection ev with ev1 _ ev2; subst ev1; subst ev2
                  obtain ⟨g, o, x, rfl, hg, hgb, hn, hc⟩ := hx j hlt
                  rw [Nat.mul_one] at hc
                  have hf := hn.frozen (o + j)
                  have j0 : (0 : Int) ≤ (j : Int) := by omega
                  have j1 : (j : Int) < (M.inp.length : Int) := by omega
                  have HN := Lib.hid hn; have HX := Lib.hid hx
                  clear hn hx
                  go_wp2_with fail
                  exact ⟨⟨j + 1, by omega, by go_num, HS_Ai.out.int hg hgb hc _⟩, by simp [intOf]; omega⟩
                · obtain rfl : j = M.inp.length := by omega
                  clear k23
                  obtain ⟨Ao, co, evAo, _⟩ := LO.out
                  have HEAo := Lib.hid evAo
                  have k24 := KO.out M.s.length _ HS_Ai.out
                  rw [evAo] at k24
                  clear evAo
                  go_wp2_with fail
                  go_loopw [170] (fun v170 wo => ∃ j : Nat, j ≤ M.out.length ∧ v170 = .int .i64 j ∧ Sh w6.heap.size bc gs M.s.length wc wo) (fun v _ => M.out.length - (intOf v).toNat)
                  case atStart => exact ⟨0, Nat.zero_le _, rfl, HS_Ai.out⟩
                  case round =>
                    clear k24
                    obtain ⟨j, hj, rfl, hS⟩ := hrel
                    have HS_Ao := Lib.hid hS
                    have k24 := KO.out M.s.length _ hS
                    rw [HEAo.out] at k24
                    clear hS
                    by_cases hlt : j < M.out.length
                    · obtain ⟨_, _, ev, hx⟩ := LO.out.sh HS_Ao.out
                      rw [HEAo.out] at ev; injection ev with ev1 _ ev2; subst ev1; subst ev2
                      obtain ⟨g, o, x, rfl, hg, hgb, hn, hc⟩ := hx j hlt
                      rw [Nat.mul_one] at hc
                      have hf := hn.frozen (o + j)
                      have j0 : (0 : Int) ≤ (j : Int) := by omega
                      have j1 : (j : Int) < (M.out.length : Int) := by omega
                      have HN := Lib.hid hn; have HX := Lib.hid hx
                      clear hn hx
                      go_wp2_with fail
                      exact ⟨⟨j + 1, by omega, by go_num, HS_Ao.out.int hg hgb hc _⟩, by simp [intOf]; omega⟩
                    · obtain rfl : j = M.out.length := by omega
                      clear k24
                      have hB_w := hB_wc.trans (HS_Ao.out.lo.mono (by have := hB_w6.size; omega))
                      have HM9 := Lib.hid (HM.out.keepB HS_Ao.out.lo (by have := hB_w6.size; omega) (fun k hk => by have := hB_w6.size; omega))
                      have HW9 := Lib.hid (HW_.out.keepB HS_Ao.out.lo (by omega) (fun k hk => by omega))
                      go_wp2_with (first | (refine wpList_loadG 27 rfl rfl rfl (load_mach HM9.out) ?_; simp only [Act.put, Bk.PU]) | (refine wpList_loadG 27 rfl rfl rfl (load_mach HW9.out) ?_; simp only [Act.put, Bk.PU]))
                      refine (c_REqB HM9.out.mls HW9.out.mls HLN.out HLN.out (decide_eq_true rfl)).mono ?_
                      rintro e w9 ⟨rfl, hb9⟩
                      have hB_w9 := hB_w.next hb9
                      go_wp2_with fail
                      go_ret
                      exact ⟨rfl, hB_w9⟩
end Go.Proofs.YteenmpjjaheggaaDoor
