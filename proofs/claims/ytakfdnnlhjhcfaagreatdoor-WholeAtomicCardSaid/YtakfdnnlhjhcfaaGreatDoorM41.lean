/- WhKe WhKf WhKg. -/
import Derived.Test.YtakfdnnlhjhcfaaGreatDoorM40
set_option linter.unusedVariables false
set_option linter.unusedSimpArgs false
set_option linter.unusedSimpArgs false
set_option maxRecDepth 100000
set_option maxHeartbeats 4000000
namespace Go.Proofs.YtakfdnnlhjhcfaaGreatDoor
open Go.RowKit Bk
theorem e_expT {w : World} {b g c r i : Nat} (h : PT w b g c r i) (t : Int × ByteArray × Int) (ht : tks[i]? = some t) :
    Calls Tryz.prog 80 #[.pointer (some ⟨b, 0, none⟩), .string t.2.1] w fun e w' => e = .returned (.tuple #[]) ∧ PT w' b g c r (i + 1) ∧ Fr (· = b) w w' :=
  (e_exp h.pa t ht).mono fun e w' ⟨h1, h2, h3⟩ => ⟨h1, h.fr h3 h2, h3⟩
theorem e_accTT {w : World} {b g c r i : Nat} (h : PT w b g c r i) (t : Int × ByteArray × Int) (ht : tks[i]? = some t) :
    Calls Tryz.prog 112 #[.pointer (some ⟨b, 0, none⟩), .string t.2.1] w fun e w' => e = .returned (.bool true) ∧ PT w' b g c r (i + 1) ∧ Fr (· = b) w w' :=
  (e_accT h.pa t ht).mono fun e w' ⟨h1, h2, h3⟩ => ⟨h1, h.fr h3 h2, h3⟩
theorem info_nodeA : (Tryz.prog.info? 26).map (fun i => (i.zero, i.size, i.bytes)) = some (some (.agg #[.int .u8 0, .int .i64 0, .string ⟨#[]⟩, .slice none 0 0]), 4, 56) := by kernel_rfl
def K1At (w : World) (lo g2 : Nat) (v : Value) : Prop := w.ownsRow lo 26 4 v 1 [.int .u8 40, .int .i64 0, .string ⟨#[]⟩, .slice (some ⟨g2, 0, none⟩) 2 2] ∧ K2At w lo g2
theorem K2At.keep {w w' : World} {lo g2 : Nat} (h : K2At w lo g2) (e : w'.heap[g2]? = w.heap[g2]?) : K2At w' lo g2 := ⟨e.trans h.1, h.2⟩
theorem K1At.fr {w w' : World} {lo g2 : Nat} {v : Value} {O : Nat → Prop} (h : K1At w lo g2 v) (hf : Fr O w w') (hO : ∀ k, lo ≤ k → k < w.heap.size → ¬ O k) : K1At w' lo g2 v :=
  ⟨own_fr h.1 hf (fun k hk => hO k (own_gE h.1 hk).1 (own_gE h.1 hk).2), h.2.keep (hf.block g2 h.2.1.lt (hO g2 h.2.2 h.2.1.lt))⟩
theorem e_block {w : World} {b g c r : Nat} (h : PT w b g c r 3) : Calls Tryz.prog 116 #[.pointer (some ⟨b, 0, none⟩)] w fun e w' => (∃ g2 v, e = .returned (.agg #[.int .u8 57, .int .i64 0, .string ⟨#[]⟩, v]) ∧ K1At w' w.heap.size g2 v) ∧ PT w' b g c r 9 ∧ Fr (· = b) w w' := by
  have H := Lib.hid h
  have hbs := h.pa.blk.lt
  have hnb : w.heap.size + 1 ≠ b := by omega
  obtain ⟨i4, li, lz, ls, lb⟩ := info_parts info_nodeA
  have HI := Lib.hid li; have HZ := Lib.hid lz; have HSZ := Lib.hid ls; have HBY := Lib.hid lb
  clear h li lz ls lb
  go_enter Tryz.func116, Tryz.ntmps116
  go_upto_region 2 with fail
  refine wp_nameE ?_
  intro w1 hw1
  have hb1 : Below w.heap.size w w1 := by rw [hw1]; exact (by go_grown)
  have K1 : Blk w1 w.heap.size 26 #[.int .u8 0, .int .i64 0, .string ⟨#[]⟩, .slice none 0 0] := by rw [hw1]; exact blkA
  have KX : Blk w1 (w.heap.size + 1) 26 #[.int .u8 57, .int .i64 0, .string ⟨#[]⟩, .slice none 0 0] := by rw [hw1]; exact Blk.new' (by simp) _ _
  have HK1 := Lib.hid K1; have HX1 := Lib.hid KX; have HF1 := Lib.hid (Fr.of (O := (· = b)) hb1)
  have H1 := Lib.hid (H.out.next hb1)
  clear hw1 hb1 K1 KX
  go_wp2_with fail
  refine (e_expT H1.out (3, ⟨#[123]⟩, 11) rfl).mono ?_
  rintro en w2 ⟨rfl, h2, hf2⟩
  have H2 := Lib.hid h2; have HF2 := Lib.hid (HF1.out.trans hf2)
  have HK2 := Lib.hid (hf2.blk HK1.out (by omega))
  have HX2 := Lib.hid (hf2.blk HX1.out (by omega))
  clear h2 hf2
  go_upto_region 3 with fail
  go_loopw [] (fun wr => ((PT wr b g c r 4 ∧ Blk wr (w.heap.size + 1) 26 #[.int .u8 57, .int .i64 0, .string ⟨#[]⟩, .slice none 0 0]) ∨ ∃ g2 v, PT wr b g c r 8 ∧ Blk wr (w.heap.size + 1) 26 #[.int .u8 57, .int .i64 0, .string ⟨#[]⟩, v] ∧ K1At wr (w.heap.size + 2) g2 v) ∧ Blk wr w.heap.size 26 #[.int .u8 0, .int .i64 0, .string ⟨#[]⟩, .slice none 0 0] ∧ Fr (· = b) w wr) (fun wr => (9 - intOf ((wr.cell? ⟨b, 1, none⟩).getD undef)).toNat)
  case atStart => exact ⟨.inl ⟨H2.out, HX2.out⟩, HK2.out, HF2.out⟩
  case round =>
    obtain ⟨hst, hk, hf⟩ := hrel
    have HKr := Lib.hid hk; have HFr := Lib.hid hf
    clear hk hf
    rcases hst with ⟨hp, hx⟩ | ⟨g2, v, hp, hx, hk1⟩
    · have Hr := Lib.hid hp; have HXr := Lib.hid hx
      have hat : wr.cell? ⟨b, 1, none⟩ = some (.int .i64 4) := hp.pa.blk.cell 1
      obtain ⟨z_b, T_b, F_b⟩ := hp.pa.blk.open_
      clear hp hx
      go_wp2_with fail
      refine (e_accF' Hr.out (1, ⟨#[120]⟩, 13) rfl ⟨#[125]⟩ (by decide +kernel)).mono ?_
      rintro en w4 ⟨rfl, hb4⟩
      have H4 := Lib.hid (Hr.out.next hb4); have HF4 := Lib.hid (HFr.out.next hb4); have HK4 := Lib.hid (HKr.out.next hb4); have HX4 := Lib.hid (HXr.out.next hb4)
      clear hb4 z_b T_b F_b
      go_upto_region 4 with fail
      refine wp_region_heldL (S := fun W => Fr (· = b) w4 W) 7 (by kernel_rfl) ((Fr.refl _ _).drew) (fun hH => ?_)
      refine wpAnyL_at ?_
      intro wa hwa
      have hX : Below w4.heap.size w4 wa := by rw [hwa]; exact (Below.refl _ _).drew
      replace hH : Fr (· = b) w4 wa := Fr.of hX
      clear hwa
      refine wpAnyL_take (i := 0) (v := ?_) rfl (by kernel_rfl) (by kernel_rfl) (by kernel_rfl) (by kernel_rfl) (fun _ _ _ h => h) (Or.inl ⟨by rfl, ?hy⟩) hH ?_
      case hy => (intro w9_ hS9; clear hS9; go_simp; try with_reducible rfl)
      (try simp only [PU, Act.put])
      refine wpAnyL_take (i := 1) (v := ?_) rfl (by kernel_rfl) (by kernel_rfl) (by kernel_rfl) (by kernel_rfl) (fun _ _ _ h => h) (Or.inl ⟨by rfl, ?hy⟩) hH ?_
      case hy => (intro w9_ hS9; have t := (hS9.blk HX4.out hnb).cell; clear hS9; go_simp; try with_reducible rfl)
      (try simp only [PU, Act.put])
      refine wpAnyL_take (i := 2) (v := ?_) rfl (by kernel_rfl) (by kernel_rfl) (by kernel_rfl) (by kernel_rfl) (fun _ _ _ h => h) (Or.inl ⟨by rfl, ?hy⟩) hH ?_
      case hy => (intro w9_ hS9; clear hS9; go_simp; try with_reducible rfl)
      (try simp only [PU, Act.put])
      refine wpAnyL_next (i := 3) rfl (by kernel_rfl) (fun K hK => ?_)
      go_simp
      refine (e_stmt (H4.out.next hX)).mono ?_
      rintro en wb ⟨⟨g2, rfl, hk2⟩, hp, hfn⟩
      replace hH : Fr (· = b) w4 wb := (Fr.of hX).trans hfn
      have HPS := Lib.hid hp; have HK2 := Lib.hid hk2; have HXZ := Lib.hid hX.size
      have hzb := hfn.size
      clear hX hp hfn hk2
      refine hK.out _ _ hH (fun _ => ?_)
      clear hK
      (try simp only [PU, Act.put])
      refine wpAnyL_next (i := 4) rfl (by kernel_rfl) (fun K hK => ?_)
      go_simp
      replace hH := hH.next ((Below.refl _ _).alloc (Nat.le_refl _) (.cells #[.int .u8 40, .int .i64 0, .string ⟨#[]⟩, .slice (some ⟨g2, 0, none⟩) 2 2] 26))
      refine hK.out _ _ hH (fun _ => ?_)
      clear hK
      (try simp only [PU, Act.put])
      refine wpAnyL_at ?_
      intro wc hwn
      have hbn : Below wb.heap.size wb wc := by rw [hwn]; exact (Below.refl _ _).alloc (Nat.le_refl _) _
      have K_n : Blk wc wb.heap.size 26 #[.int .u8 40, .int .i64 0, .string ⟨#[]⟩, .slice (some ⟨g2, 0, none⟩) 2 2] := by rw [hwn]; exact Blk.new _ _ _
      have HKN := Lib.hid K_n
      replace HPS := Lib.hid (HPS.out.next hbn); replace HK2 := Lib.hid (HK2.out.keep (hbn.block _ HK2.out.1.lt))
      have hbw := hbn.size
      rw [← hwn] at hH
      clear hwn hbn K_n
      refine wpAnyL_next (i := 5) rfl (by kernel_rfl) (fun K hK => ?_)
      rw [if_pos (by rfl)]
      refine wp_append_new (.tmp 18) (.tmp 21) 24 rfl 26 i4 _ 4 56 Tryz.underlying24 HI.out HZ.out HSZ.out HBY.out rfl (by decide) (D := fun _ => True) (A := none) (n := 0) (xs := []) (by simp [Act.eval]) Sl.nil ⟨wb.heap.size, 0, none⟩ 1 1 [.int .u8 40, .int .i64 0, .string ⟨#[]⟩, .slice (some ⟨g2, 0, none⟩) 2 2] (by simp [Act.eval]) (by decide) rfl (by intro j u hu; rw [Addr.add_lit, Nat.zero_add]; exact (HKN.out.cell j).trans (by rw [List.getElem?_toArray]; exact hu)) (by unfold maxLen; omega) (by omega) ?_
      intro v_2 wd hown0 hbn
      have hown : wd.ownsRow wc.heap.size 26 4 v_2 1 [.int .u8 40, .int .i64 0, .string ⟨#[]⟩, .slice (some ⟨g2, 0, none⟩) 2 2] := hown0
      clear hown0
      obtain ⟨A_2, c_2, rfl⟩ := own_form hown
      replace hH := hH.next hbn
      replace HPS := Lib.hid (HPS.out.next hbn); replace HK2 := Lib.hid (HK2.out.keep (hbn.block _ HK2.out.1.lt))
      have HOW := Lib.hid hown
      have hz_ := hbn.size
      clear hown hbn
      refine hK.out _ _ hH (fun _ => ?_)
      clear hK
      (try simp only [PU, Act.put])
      refine wpAnyL_take (i := 6) (v := ?_) rfl (by kernel_rfl) (by kernel_rfl) (by kernel_rfl) (by kernel_rfl) (fun _ _ _ h => h) (Or.inl ⟨by rfl, ?hy⟩) hH ?_
      case hy => (intro w9_ hS9; clear hS9; go_simp; try with_reducible rfl)
      (try simp only [PU, Act.put])
      refine wpAnyL_last (l := 7) rfl (by kernel_rfl) (by kernel_rfl) (fun K hK => ?_)
      have F_f : wd.frozen? ⟨w.heap.size + 1, 3, none⟩ = false := (hH.blk HX4.out hnb).frozen 3
      have C_f : wd.cell? ⟨w.heap.size + 1, 3, none⟩ = some (.slice none 0 0) := (hH.blk HX4.out hnb).cell 3
      go_simp
      refine hK.out _ _ ?_
      clear hK
      (try simp only [PU, Act.put])
      have HH := Lib.hid hH
      have HXD := Lib.hid (hH.blk HX4.out hnb)
      have hzh := hH.size
      clear hH
      go_upto_region 5 with fail
      refine wp_nameE ?_
      intro w5 hw5
      have hf5 : Fr (· = w.heap.size + 1) wd w5 := by rw [hw5]; exact Fr.set (Fr.refl (· = w.heap.size + 1) _) rfl _
      have HX5 : Hid (Blk w5 (w.heap.size + 1) 26 #[.int .u8 57, .int .i64 0, .string ⟨#[]⟩, .slice A_2 1 c_2]) := Lib.hid (by rw [hw5]; simpa using HXD.out.set_ 3 (.slice A_2 1 c_2))
      have HF5 : Hid (Fr (· = b) w w5) := Lib.hid (by rw [hw5]; exact fr_new (HF4.out.trans HH.out) (Nat.le_succ _) _)
      have hgl := H.out.pa.ne.2.1; have hrl := H.out.ne.2
      have hxl : w.heap.size + 1 < w4.heap.size := HX4.out.lt
      have hxz := HXZ.out
      have H5 := Lib.hid (HPS.out.other hf5 hnb.symm (by omega) (by omega))
      have HK5 := Lib.hid (hf5.blk (HH.out.blk HK4.out (by omega)) (by omega))
      have HKK : Hid (K1At w5 (w.heap.size + 2) g2 (.slice A_2 1 c_2)) := Lib.hid (K1At.fr (w := wd) ⟨own_lowE HOW.out (by omega), HK2.out.1, by have := HK2.out.2; omega⟩ hf5 (fun k h1 _ h2 => by omega))
      clear hw5 hf5
      go_wp2_with fail
      refine (e_expT H5.out (3, ⟨#[59]⟩, 19) rfl).mono ?_
      rintro en w6 ⟨rfl, h6, hf6⟩
      have H6 := Lib.hid h6
      have HX6 := Lib.hid (hf6.blk HX5.out hnb); have HK6 := Lib.hid (hf6.blk HK5.out (by omega)); have HF6 := Lib.hid (HF5.out.trans hf6)
      have HKK6 := Lib.hid (HKK.out.fr hf6 (fun k h1 _ h2 => by omega))
      have hat6 : w6.cell? ⟨b, 1, none⟩ = some (.int .i64 8) := h6.pa.blk.cell 1
      clear h6 hf6
      go_wp2_with fail
      exact ⟨⟨.inr ⟨g2, .slice A_2 1 c_2, H6.out, HX6.out, HKK6.out⟩, HK6.out, HF6.out⟩, by rw [hat, hat6]; decide⟩
    · have Hr := Lib.hid hp; have HXr := Lib.hid hx; have HKK := Lib.hid hk1
      obtain ⟨z_b, T_b, F_b⟩ := hp.pa.blk.open_
      clear hp hx hk1
      go_wp2_with fail
      refine (e_accTT Hr.out (3, ⟨#[125]⟩, 21) rfl).mono ?_
      rintro en w4 ⟨rfl, h4, hf4⟩
      have H4 := Lib.hid h4; have HF4 := Lib.hid (HFr.out.trans hf4)
      have HK4 := Lib.hid (hf4.blk HKr.out (by omega)); have HX4 := Lib.hid (hf4.blk HXr.out hnb)
      have HKK4 := Lib.hid (HKK.out.fr hf4 (fun k h1 _ h2 => by omega))
      obtain ⟨A_v, c_v, rfl⟩ := own_form HKK.out.1
      clear h4 hf4 z_b T_b F_b
      obtain ⟨z_K, T_K, F_K⟩ := HK4.out.open_
      obtain ⟨z_X, T_X, F_X⟩ := HX4.out.open_
      go_wp2_with fail
      have K9 := (((HK4.out.set_ 0 (.int .u8 57)).set_ 1 (.int .i64 0)).set_ 2 (.string ⟨#[]⟩)).set_ 3 (.slice A_v 1 c_v)
      refine bodyPost_ret_by (results_cell_row rfl _ _ w.heap.size 26 #[.int .u8 57, .int .i64 0, .string ⟨#[]⟩, .slice A_v 1 c_v] _ _ rfl (show Blk _ w.heap.size 26 #[.int .u8 57, .int .i64 0, .string ⟨#[]⟩, .slice A_v 1 c_v] by simpa using K9) Tryz.underlying26 rfl (by rw [info_nodeP]; rfl)) rfl ?_
      have hfk := Fr.set (Fr.set (Fr.set (Fr.set (Fr.refl (· = w.heap.size) w4) (p := ⟨w.heap.size, 0, none⟩) rfl (.int .u8 57)) (p := ⟨w.heap.size, 1, none⟩) rfl (.int .i64 0)) (p := ⟨w.heap.size, 2, none⟩) rfl (.string ⟨#[]⟩)) (p := ⟨w.heap.size, 3, none⟩) rfl (.slice A_v 1 c_v)
      have hk := HKK4.out.fr hfk (fun k h1 _ h2 => by omega)
      exact ⟨⟨g2, .slice A_v 1 c_v, rfl, own_lowE hk.1 (by omega), hk.2.1, by have := hk.2.2; omega⟩, H.out.fin H4.out HF4.out (Nat.le_refl _) _ _ _ _⟩
end Go.Proofs.YtakfdnnlhjhcfaaGreatDoor
namespace Bk
open Go Go.RowKit Go.Proofs.YtakfdnnlhjhcfaaGreatDoor
def nX : Nd := ⟨2, 0, ⟨#[120]⟩, none, 0, 0⟩
def n3 : Nd := ⟨1, 3, ⟨#[]⟩, none, 0, 0⟩
def nP (g2 : Nat) : Nd := ⟨40, 0, ⟨#[]⟩, some ⟨g2, 0, none⟩, 2, 2⟩
def nM (g3 cap : Nat) : Nd := ⟨57, 0, ⟨#[]⟩, some ⟨g3, 0, none⟩, 1, cap⟩
structure TrAt (w : World) (B g2 g3 cap : Nat) : Prop where
  k0 : Kid w B (nM g3 cap) 0 (nP g2)
  kx : Kid w B (nP g2) 0 nX
  k3 : Kid w B (nP g2) 1 n3
  cap : 1 ≤ cap ∧ cap ≤ maxLen
theorem TrAt.next {w w' : World} {B g2 g3 cap : Nat} (h : TrAt w B g2 g3 cap) (hb : Below B w w') : TrAt w' B g2 g3 cap := ⟨h.k0.next hb, h.kx.next hb, h.k3.next hb, h.cap⟩
theorem K1At.tree {w : World} {lo g2 : Nat} {v : Value} (h : K1At w lo g2 v) : ∃ g3 cap, v = .slice (some ⟨g3, 0, none⟩) 1 cap ∧ TrAt w w.heap.size g2 g3 cap := by
  obtain ⟨⟨hl, hr⟩, hk, hlo⟩ := h
  rcases hr with ⟨_, h0⟩ | ⟨g, cap, cur, rfl, hg, hh, h1, h2, h3, h4⟩
  · cases h0
  · have hc : ∀ j u, [.int .u8 40, .int .i64 0, .string ⟨#[]⟩, .slice (some ⟨g2, 0, none⟩) 2 2][j]? = some u → w.cell? ⟨g, j, none⟩ = some u := fun j u hu => by
      have hb : Blk w g 26 cur := hh
      rw [hb.cell]
      have hj : j < 4 := (List.getElem?_eq_some_iff.1 hu).1
      rw [← h4, List.getElem?_take, if_pos (by simpa using hj)] at hu
      simpa using hu
    have kid : ∀ (i : Nat) (y : Nd), (∀ j u, y.cells[j]? = some u → (#[.int .u8 2, .int .i64 0, .string ⟨#[120]⟩, .slice none 0 0, .int .u8 1, .int .i64 3, .string ⟨#[]⟩, .slice none 0 0] : Array Value)[i * 4 + j]? = some u) → Kid w w.heap.size (nP g2) i y := fun i y hy => ⟨g2, 0, rfl, hk.lt, fun j u hu => by rw [Nat.zero_add, hk.cell]; exact hy j u hu⟩
    refine ⟨g, cap, rfl, ⟨⟨g, 0, rfl, Blk.lt (cs := cur) hh, fun j u hu => ?_⟩, kid 0 _ ?_, kid 1 _ ?_, h1, h2⟩⟩
    · rw [show 0 + 0 * 4 + j = j by omega]; exact hc j u hu
    all_goals
      intro j u hu
      match j, hu with
      | 0, hu => exact hu
      | 1, hu => exact hu
      | 2, hu => exact hu
      | 3, hu => exact hu
end Bk
namespace Go.Proofs.YtakfdnnlhjhcfaaGreatDoor
section
open Go.RowKit Bk
theorem e_sizeM {w : World} {B g2 g3 cap : Nat} (hBw : B ≤ w.heap.size) (h : TrAt w B g2 g3 cap) (w' : World) (hb : Below B w w') : Calls Tryz.prog 150 #[.agg #[.int .u8 57, .int .i64 0, .string ⟨#[]⟩, .slice (some ⟨g3, 0, none⟩) 1 cap]] w' fun en w'' => en = .returned (.int .i64 4) ∧ Below w'.heap.size w' w'' := by
  have leaf : ∀ x : Nd, x.n = 0 → ∀ W, Below B w W → Calls Tryz.prog 150 #[.agg #[.int .u8 x.k, .int .i64 x.num, .string x.nm, .slice x.A x.n x.cap]] W fun en w'' => en = .returned (.int .i64 1) ∧ Below W.heap.size W w'' := fun x hx W hW => by
    have := e_sizeN hBw x (fun _ => 0) (fun i hi => absurd hi (by omega)) (by rw [hx]; decide) (by omega) W hW
    rw [hx] at this; rw [hx]; exact this
  have hP : ∀ W, Below B w W → Calls Tryz.prog 150 #[.agg #[.int .u8 (nP g2).k, .int .i64 (nP g2).num, .string (nP g2).nm, .slice (nP g2).A (nP g2).n (nP g2).cap]] W fun en w'' => en = .returned (.int .i64 3) ∧ Below W.heap.size W w'' := fun W hW =>
    e_sizeN hBw (nP g2) (fun _ => 1) (fun i hi => by
      match i, hi with
      | 0, _ => exact ⟨nX, h.kx, leaf nX rfl⟩
      | 1, _ => exact ⟨n3, h.k3, leaf n3 rfl⟩) (by show 2 ≤ 17592186043904; omega) (by show 2 ≤ 17592186043904; omega) W hW
  exact e_sizeN hBw (nM g3 cap) (fun _ => 3) (fun i hi => by
      have hi : i < 1 := hi
      obtain rfl : i = 0 := by omega
      exact ⟨nP g2, h.k0, hP⟩) (by show 3 ≤ 17592186043904; omega) (by show 1 ≤ 17592186043904; omega) w' hb
theorem e_depthM {w : World} {B g2 g3 cap : Nat} (hBw : B ≤ w.heap.size) (h : TrAt w B g2 g3 cap) (w' : World) (hb : Below B w w') : Calls Tryz.prog 149 #[.agg #[.int .u8 57, .int .i64 0, .string ⟨#[]⟩, .slice (some ⟨g3, 0, none⟩) 1 cap]] w' fun en w'' => en = .returned (.int .i64 3) ∧ Below w'.heap.size w' w'' := by
  have leaf : ∀ x : Nd, x.n = 0 → ∀ W, Below B w W → Calls Tryz.prog 149 #[.agg #[.int .u8 x.k, .int .i64 x.num, .string x.nm, .slice x.A x.n x.cap]] W fun en w'' => en = .returned (.int .i64 1) ∧ Below W.heap.size W w'' := fun x hx W hW => by
    have := e_depthN hBw x (fun _ => 0) (fun i hi => absurd hi (by omega)) (by rw [hx]; decide) (by omega) W hW
    rw [hx] at this; rw [hx]; exact this
  have hP : ∀ W, Below B w W → Calls Tryz.prog 149 #[.agg #[.int .u8 (nP g2).k, .int .i64 (nP g2).num, .string (nP g2).nm, .slice (nP g2).A (nP g2).n (nP g2).cap]] W fun en w'' => en = .returned (.int .i64 2) ∧ Below W.heap.size W w'' := fun W hW =>
    e_depthN hBw (nP g2) (fun _ => 1) (fun i hi => by
      match i, hi with
      | 0, _ => exact ⟨nX, h.kx, leaf nX rfl⟩
      | 1, _ => exact ⟨n3, h.k3, leaf n3 rfl⟩) (by show 1 ≤ 17592186043904; omega) (by show 2 ≤ 17592186043904; omega) W hW
  exact e_depthN hBw (nM g3 cap) (fun _ => 2) (fun i hi => by
      have hi : i < 1 := hi
      obtain rfl : i = 0 := by omega
      exact ⟨nP g2, h.k0, hP⟩) (by show 2 ≤ 17592186043904; omega) (by show 1 ≤ 17592186043904; omega) w' hb
theorem e_limit {w : World} {b g c r i lo g2 : Nat} {v : Value} (h : PT w b g c r i) (hk : K1At w lo g2 v) (off : Int) : Calls Tryz.prog 117 #[.pointer (some ⟨b, 0, none⟩), .agg #[.int .u8 57, .int .i64 0, .string ⟨#[]⟩, v], .int .i64 off] w fun e w' => e = .returned (.tuple #[]) ∧ Below w.heap.size w w' := by
  obtain ⟨g3, cap, rfl, ht⟩ := Bk.K1At.tree hk
  have H := Lib.hid h; have HT := Lib.hid ht
  clear h hk ht
  go_enter Tryz.func117, Tryz.ntmps117
  go_upto_region 1 with fail
  refine wp_nameE ?_
  intro w1 hw1
  have hb1 : Below w.heap.size w w1 := by rw [hw1]; exact (by go_grown)
  have K1 : Blk w1 w.heap.size 26 #[.int .u8 57, .int .i64 0, .string ⟨#[]⟩, .slice (some ⟨g3, 0, none⟩) 1 cap] := by rw [hw1]; exact blkA
  have HK1 := Lib.hid K1; have HB1 := Lib.hid hb1
  have H1 := Lib.hid (H.out.next hb1)
  clear hw1 hb1 K1
  obtain ⟨z_b, T_b, F_b⟩ := H1.out.pa.blk.open_
  obtain ⟨z_k, T_k, F_k⟩ := HK1.out.open_
  go_wp2_with fail
  refine (e_depthM (Nat.le_refl _) HT.out w1 HB1.out).mono ?_
  rintro en w2 ⟨rfl, hb2⟩
  have HB2 := Lib.hid (HB1.out.next hb2); have HK2 := Lib.hid (HK1.out.next hb2)
  clear hb2 z_b T_b F_b z_k T_k F_k
  obtain ⟨z_k, T_k, F_k⟩ := HK2.out.open_
  go_wp2_with fail
  refine (e_sizeM (Nat.le_refl _) HT.out w2 HB2.out).mono ?_
  rintro en w3 ⟨rfl, hb3⟩
  have HB3 := Lib.hid (HB2.out.next hb3)
  clear hb3 z_k T_k F_k
  go_wp2_with fail
  refine bodyPost_end (results_none rfl _ _ _) rfl ?_
  exact ⟨rfl, HB3.out⟩
theorem e_body {w : World} {b g c r : Nat} (h : PT w b g c r 3) : Calls Tryz.prog 81 #[.pointer (some ⟨b, 0, none⟩)] w fun e w' => (∃ g2 v, e = .returned (.agg #[.int .u8 57, .int .i64 0, .string ⟨#[]⟩, v]) ∧ K1At w' w.heap.size g2 v) ∧ PT w' b g c r 9 ∧ Fr (· = b) w w' := by
  have ft2 := field_tok2
  have H := Lib.hid h
  have hbs := h.pa.blk.lt
  clear h
  go_enter Tryz.func81, Tryz.ntmps81
  go_upto_region 1 with fail
  refine wp_nameE ?_
  intro w1 hw1
  have hb1 : Below w.heap.size w w1 := by rw [hw1]; exact (by go_grown)
  have K1 : Blk w1 w.heap.size 26 #[.int .u8 0, .int .i64 0, .string ⟨#[]⟩, .slice none 0 0] := by rw [hw1]; exact blkA
  have HK1 := Lib.hid K1; have HF1 := Lib.hid (Fr.of (O := (· = b)) hb1)
  have H1 := Lib.hid (H.out.next hb1)
  clear hw1 hb1 K1
  go_wp2_with fail
  refine (e_peek H1.out.pa (3, ⟨#[123]⟩, 11) rfl).mono ?_
  rintro en w2 ⟨rfl, hb2⟩
  have H2 := Lib.hid (H1.out.next hb2); have HF2 := Lib.hid (HF1.out.next hb2)
  have HK2 := Lib.hid (HK1.out.next hb2)
  clear hb2
  go_wp2_with fail
  refine (e_block H2.out).mono ?_
  rintro en w3 ⟨⟨g2, v, rfl, hk1⟩, h3, hf3⟩
  have H3 := Lib.hid h3; have HF3 := Lib.hid (HF2.out.trans hf3)
  have HK3 := Lib.hid (hf3.blk HK2.out (by omega))
  have HKK3 := Lib.hid hk1
  have hz2 : w.heap.size < w2.heap.size := HK2.out.lt
  have hz3 := hf3.size
  obtain ⟨A_v, c_v, rfl⟩ := own_form hk1.1
  clear h3 hf3 hk1
  go_upto_region 3 with fail
  refine wp_nameE ?_
  intro w4 hw4
  have hb4 : Below w3.heap.size w3 w4 := by rw [hw4]; exact (by go_grown)
  have KN : Blk w4 w3.heap.size 26 #[.int .u8 57, .int .i64 0, .string ⟨#[]⟩, .slice A_v 1 c_v] := by rw [hw4]; exact blkA
  have HN4 := Lib.hid KN
  have H4 := Lib.hid (H3.out.next hb4); have HF4 := Lib.hid (HF3.out.next hb4); have HK4 := Lib.hid (HK3.out.next hb4)
  have HKK4 := Lib.hid (HKK3.out.fr (Fr.of (O := fun _ => False) hb4) (fun _ _ _ h => h))
  clear hw4 hb4 KN
  obtain ⟨z_N, T_N, F_N⟩ := HN4.out.open_
  go_wp2_with fail
  refine (e_limit H4.out HKK4.out 11).mono ?_
  rintro en w5 ⟨rfl, hb5⟩
  have H5 := Lib.hid (H4.out.next hb5); have HF5 := Lib.hid (HF4.out.next hb5); have HK5 := Lib.hid (HK4.out.next hb5); have HN5 := Lib.hid (HN4.out.next hb5)
  have HKK5 := Lib.hid (HKK4.out.fr (Fr.of (O := fun _ => False) hb5) (fun _ _ _ h => h))
  clear hb5 z_N T_N F_N
  obtain ⟨z_N, T_N, F_N⟩ := HN5.out.open_
  obtain ⟨z_K, T_K, F_K⟩ := HK5.out.open_
  go_wp2_with fail
  have K9 := (((HK5.out.set_ 0 (.int .u8 57)).set_ 1 (.int .i64 0)).set_ 2 (.string ⟨#[]⟩)).set_ 3 (.slice A_v 1 c_v)
  refine bodyPost_ret_by (results_cell_row rfl _ _ w.heap.size 26 #[.int .u8 57, .int .i64 0, .string ⟨#[]⟩, .slice A_v 1 c_v] _ _ rfl (show Blk _ w.heap.size 26 #[.int .u8 57, .int .i64 0, .string ⟨#[]⟩, .slice A_v 1 c_v] by simpa using K9) Tryz.underlying26 rfl (by rw [info_nodeP]; rfl)) rfl ?_
  have hfk := Fr.set (Fr.set (Fr.set (Fr.set (Fr.refl (· = w.heap.size) w5) (p := ⟨w.heap.size, 0, none⟩) rfl (.int .u8 57)) (p := ⟨w.heap.size, 1, none⟩) rfl (.int .i64 0)) (p := ⟨w.heap.size, 2, none⟩) rfl (.string ⟨#[]⟩)) (p := ⟨w.heap.size, 3, none⟩) rfl (.slice A_v 1 c_v)
  have hk := HKK5.out.fr hfk (fun k h1 _ h2 => by omega)
  exact ⟨⟨g2, .slice A_v 1 c_v, rfl, own_lowE hk.1 (by omega), hk.2.1, by have := hk.2.2; omega⟩, H.out.fin H5.out HF5.out (Nat.le_refl _) _ _ _ _⟩
theorem e_atDeclT {w : World} {b g c r : Nat} (h : PT w b g c r 0) : Calls Tryz.prog 75 #[.pointer (some ⟨b, 0, none⟩)] w fun e w' => e = .returned (.bool true) ∧ Below w.heap.size w w' := by
  have ft1 := field_tok1
  have HPK := Lib.hid (e_peek h.pa (1, ⟨#[105, 110, 116]⟩, 0) rfl)
  clear h
  go_enter Tryz.func75, Tryz.ntmps75
  go_wp2_with fail
  refine HPK.out.mono ?_
  rintro en w1 ⟨rfl, hb1⟩
  have HB1 := Lib.hid hb1
  clear hb1 HPK
  go_wp2_with fail
  go_ret
  exact ⟨rfl, HB1.out⟩
theorem e_atDeclF {w : World} {b g c r : Nat} (h : PT w b g c r 2) : Calls Tryz.prog 75 #[.pointer (some ⟨b, 0, none⟩)] w fun e w' => e = .returned (.bool false) ∧ Below w.heap.size w w' := by
  have ft1 := field_tok1
  have HPK := Lib.hid (e_peek h.pa (1, ⟨#[109, 97, 105, 110]⟩, 6) rfl)
  clear h
  go_enter Tryz.func75, Tryz.ntmps75
  go_wp2_with fail
  refine HPK.out.mono ?_
  rintro en w1 ⟨rfl, hb1⟩
  have HB1 := Lib.hid hb1
  clear hb1 HPK
  go_wp2_with fail
  go_ret
  exact ⟨rfl, HB1.out⟩
theorem info_declP : (Tryz.prog.info? 72).map (·.size) = some 3 := by kernel_rfl
theorem e_decl {w : World} {b g c r : Nat} (h : PT w b g c r 0) : Calls Tryz.prog 78 #[.pointer (some ⟨b, 0, none⟩)] w fun e w' => e = .returned (.agg #[.string ⟨#[120]⟩, .int .u8 1, .int .i64 0]) ∧ PT w' b g c r 2 ∧ Fr (· = b) w w' := by
  have H := Lib.hid h
  have hbs := h.pa.blk.lt
  clear h
  go_enter Tryz.func78, Tryz.ntmps78
  go_upto_region 1 with fail
  refine wp_nameE ?_
  intro w1 hw1
  have hb1 : Below w.heap.size w w1 := by rw [hw1]; exact (by go_grown)
  have K1 : Blk w1 w.heap.size 72 #[.string ⟨#[]⟩, .int .u8 0, .int .i64 0] := by rw [hw1]; exact blkA
  have HK1 := Lib.hid K1; have HF1 := Lib.hid (Fr.of (O := (· = b)) hb1)
  have H1 := Lib.hid (H.out.next hb1)
  clear hw1 hb1 K1
  go_wp2_with fail
  refine (e_accTT H1.out (1, ⟨#[105, 110, 116]⟩, 0) rfl).mono ?_
  rintro en w2 ⟨rfl, h2, hf2⟩
  have H2 := Lib.hid h2; have HF2 := Lib.hid (HF1.out.trans hf2)
  have HK2 := Lib.hid (hf2.blk HK1.out (by omega))
  clear h2 hf2
  go_wp2_with fail
  refine (e_pnameX H2.out 4 rfl).mono ?_
  rintro en w3 ⟨rfl, h3, hf3⟩
  have H3 := Lib.hid h3; have HF3 := Lib.hid (HF2.out.trans hf3)
  have HK3 := Lib.hid (hf3.blk HK2.out (by omega))
  clear h3 hf3
  obtain ⟨z_HK, T_HK, F_HK⟩ := HK3.out.open_
  go_wp2_with fail
  have K9 := ((HK3.out.set_ 0 (.string ⟨#[120]⟩)).set_ 1 (.int .u8 1)).set_ 2 (.int .i64 0)
  refine bodyPost_ret_by (results_cell_row rfl _ _ w.heap.size 72 #[.string ⟨#[120]⟩, .int .u8 1, .int .i64 0] _ _ rfl (show Blk _ w.heap.size 72 #[.string ⟨#[120]⟩, .int .u8 1, .int .i64 0] by simpa using K9) Tryz.underlying72 rfl (by rw [info_declP]; rfl)) rfl ?_
  have hg := H.out.pa.ne.2.1; have hr := H.out.ne.2
  exact ⟨rfl, H3.out.other (O := (· = w.heap.size)) (Fr.set (Fr.set (Fr.set (Fr.refl (· = w.heap.size) _) rfl _) rfl _) rfl _) (by omega) (by omega) (by omega), fr_new (fr_new (fr_new HF3.out (Nat.le_refl _) _) (Nat.le_refl _) _) (Nat.le_refl _) _⟩
end
section
open Go.RowKit Bk
def PrgAt (w : World) (lo : Nat) (vv : Value) (g2 : Nat) (v : Value) : Prop := w.ownsRow lo 72 3 vv 1 [.string ⟨#[120]⟩, .int .u8 1, .int .i64 0] ∧ K1At w lo g2 v
theorem PrgAt.fr {w w' : World} {lo g2 : Nat} {vv v : Value} {O : Nat → Prop} (h : PrgAt w lo vv g2 v) (hf : Fr O w w') (hO : ∀ k, lo ≤ k → k < w.heap.size → ¬ O k) : PrgAt w' lo vv g2 v :=
  ⟨own_fr h.1 hf (fun k hk => hO k (own_gE h.1 hk).1 (own_gE h.1 hk).2), h.2.fr hf hO⟩
theorem PrgAt.low {w : World} {lo lo' g2 : Nat} {vv v : Value} (h : PrgAt w lo vv g2 v) (hl : lo' ≤ lo) : PrgAt w lo' vv g2 v := ⟨own_lowE h.1 hl, own_lowE h.2.1 hl, h.2.2.1, Nat.le_trans hl h.2.2.2⟩
theorem info_prog : (Tryz.prog.info? 28).map (·.size) = some 6 := by kernel_rfl
theorem e_finish {w : World} {b g c r : Nat} (h : PT w b g c r 9) : Calls Tryz.prog 49 #[.pointer (some ⟨b, 0, none⟩)] w fun e w' => e = .returned (.tuple #[]) ∧ Below w.heap.size w w' := by
  obtain ⟨z_b, T_b, F_b⟩ := h.pa.blk.open_
  clear h
  go_enter Tryz.func49, Tryz.ntmps49
  go_upto_region 0 with fail
  go_quiet (fail)
  go_wp2_with fail
  refine bodyPost_end (results_none rfl _ _ _) rfl ?_
  exact ⟨rfl, Bk.drewN_ (Below.refl _ _) _⟩
theorem e_program {w : World} {b g c r : Nat} (h : PT w b g c r 0) : Calls Tryz.prog 48 #[.pointer (some ⟨b, 0, none⟩)] w fun e w' => (∃ vv g2 v, e = .returned (.agg #[vv, .slice none 0 0, .int .u8 57, .int .i64 0, .string ⟨#[]⟩, v]) ∧ PrgAt w' w.heap.size vv g2 v) ∧ PT w' b g c r 9 ∧ Fr (· = b) w w' := by
  have H := Lib.hid h
  have hbs := h.pa.blk.lt
  have hnb : w.heap.size + 1 ≠ b := by omega
  have ft1 := field_tok1
  obtain ⟨i3, li, lz, ls, lb⟩ := info_parts info_decl
  have HI := Lib.hid li; have HZ := Lib.hid lz; have HSZ := Lib.hid ls; have HBY := Lib.hid lb
  clear h li lz ls lb
  go_enter Tryz.func48, Tryz.ntmps48
  go_upto_region 2 with fail
  refine wp_nameE ?_
  intro w1 hw1
  have hb1 : Below w.heap.size w w1 := by rw [hw1]; exact (by go_grown)
  have K1 : Blk w1 w.heap.size 28 #[.slice none 0 0, .slice none 0 0, .int .u8 0, .int .i64 0, .string ⟨#[]⟩, .slice none 0 0] := by rw [hw1]; exact Blk.alloc (Blk.new _ _ _) _
  have KX : Blk w1 (w.heap.size + 1) 28 #[.slice none 0 0, .slice none 0 0, .int .u8 0, .int .i64 0, .string ⟨#[]⟩, .slice none 0 0] := by rw [hw1]; exact Blk.new' (by simp) _ _
  have HK1 := Lib.hid K1; have HX1 := Lib.hid KX; have HF1 := Lib.hid (Fr.of (O := (· = b)) hb1)
  have H1 := Lib.hid (H.out.next hb1)
  clear hw1 hb1 K1 KX
  go_loopw [] (fun wr => ((PT wr b g c r 0 ∧ Blk wr (w.heap.size + 1) 28 #[.slice none 0 0, .slice none 0 0, .int .u8 0, .int .i64 0, .string ⟨#[]⟩, .slice none 0 0]) ∨ ∃ vv, PT wr b g c r 2 ∧ Blk wr (w.heap.size + 1) 28 #[vv, .slice none 0 0, .int .u8 0, .int .i64 0, .string ⟨#[]⟩, .slice none 0 0] ∧ wr.ownsRow (w.heap.size + 2) 72 3 vv 1 [.string ⟨#[120]⟩, .int .u8 1, .int .i64 0]) ∧ Blk wr w.heap.size 28 #[.slice none 0 0, .slice none 0 0, .int .u8 0, .int .i64 0, .string ⟨#[]⟩, .slice none 0 0] ∧ Fr (· = b) w wr) (fun wr => (9 - intOf ((wr.cell? ⟨b, 1, none⟩).getD undef)).toNat)
  case atStart => exact ⟨.inl ⟨H1.out, HX1.out⟩, HK1.out, HF1.out⟩
  case round =>
    obtain ⟨hst, hk, hf⟩ := hrel
    have HKr := Lib.hid hk; have HFr := Lib.hid hf
    clear hk hf
    rcases hst with ⟨hp, hx⟩ | ⟨vv, hp, hx, hv⟩
    · have Hr := Lib.hid hp; have HXr := Lib.hid hx
      have hat : wr.cell? ⟨b, 1, none⟩ = some (.int .i64 0) := hp.pa.blk.cell 1
      clear hp hx
      go_wp2_with fail
      refine (e_atDeclT Hr.out).mono ?_
      rintro en w4 ⟨rfl, hb4⟩
      have H4 := Lib.hid (Hr.out.next hb4); have HF4 := Lib.hid (HFr.out.next hb4); have HK4 := Lib.hid (HKr.out.next hb4); have HX4 := Lib.hid (HXr.out.next hb4)
      clear hb4
      obtain ⟨z_X, T_X, F_X⟩ := HX4.out.open_
      go_upto_region 5 with fail
      clear z_X T_X F_X
      refine wp_region_heldL (S := fun W => Fr (· = b) w4 W) 7 (by kernel_rfl) ((Fr.refl _ _).drew) (fun hH => ?_)
      refine wpAnyL_at ?_
      intro wa hwa
      have hX : Below w4.heap.size w4 wa := by rw [hwa]; exact (Below.refl _ _).drew
      replace hH : Fr (· = b) w4 wa := Fr.of hX
      clear hwa
      refine wpAnyL_take (i := 0) (v := ?_) rfl (by kernel_rfl) (by kernel_rfl) (by kernel_rfl) (by kernel_rfl) (fun _ _ _ h => h) (Or.inl ⟨by rfl, ?hy⟩) hH ?_
      case hy => (intro w9_ hS9; clear hS9; go_simp; try with_reducible rfl)
      (try simp only [PU, Act.put])
      refine wpAnyL_take (i := 1) (v := ?_) rfl (by kernel_rfl) (by kernel_rfl) (by kernel_rfl) (by kernel_rfl) (fun _ _ _ h => h) (Or.inl ⟨by rfl, ?hy⟩) hH ?_
      case hy => (intro w9_ hS9; have t := (hS9.blk HX4.out hnb).cell; clear hS9; go_simp; try with_reducible rfl)
      (try simp only [PU, Act.put])
      refine wpAnyL_take (i := 2) (v := ?_) rfl (by kernel_rfl) (by kernel_rfl) (by kernel_rfl) (by kernel_rfl) (fun _ _ _ h => h) (Or.inl ⟨by rfl, ?hy⟩) hH ?_
      case hy => (intro w9_ hS9; clear hS9; go_simp; try with_reducible rfl)
      (try simp only [PU, Act.put])
      refine wpAnyL_next (i := 3) rfl (by kernel_rfl) (fun K hK => ?_)
      go_simp
      refine (e_decl (H4.out.next hX)).mono ?_
      rintro en wb ⟨rfl, hp, hfn⟩
      replace hH : Fr (· = b) w4 wb := (Fr.of hX).trans hfn
      have HPS := Lib.hid hp; have HXZ := Lib.hid hX.size
      have hzb := hfn.size
      clear hX hp hfn
      refine hK.out _ _ hH (fun _ => ?_)
      clear hK
      (try simp only [PU, Act.put])
      refine wpAnyL_next (i := 4) rfl (by kernel_rfl) (fun K hK => ?_)
      go_simp
      replace hH := hH.next ((Below.refl _ _).alloc (Nat.le_refl _) (.cells #[.string ⟨#[120]⟩, .int .u8 1, .int .i64 0] 72))
      refine hK.out _ _ hH (fun _ => ?_)
      clear hK
      (try simp only [PU, Act.put])
      refine wpAnyL_at ?_
      intro wc hwn
      have hbn : Below wb.heap.size wb wc := by rw [hwn]; exact (Below.refl _ _).alloc (Nat.le_refl _) _
      have HKN := Lib.hid (show Blk wc wb.heap.size 72 #[.string ⟨#[120]⟩, .int .u8 1, .int .i64 0] by rw [hwn]; exact Blk.new _ _ _)
      replace HPS := Lib.hid (HPS.out.next hbn)
      have hbw := hbn.size
      rw [← hwn] at hH
      clear hwn hbn
      refine wpAnyL_next (i := 5) rfl (by kernel_rfl) (fun K hK => ?_)
      rw [if_pos (by rfl)]
      refine wp_append_new (.tmp 16) (.tmp 19) 22 rfl 72 i3 _ 3 32 Tryz.underlying22 HI.out HZ.out HSZ.out HBY.out rfl (by decide) (D := fun _ => True) (A := none) (n := 0) (xs := []) (by simp [Act.eval]) Sl.nil ⟨wb.heap.size, 0, none⟩ 1 1 [.string ⟨#[120]⟩, .int .u8 1, .int .i64 0] (by simp [Act.eval]) (by decide) rfl (by intro j u hu; rw [Addr.add_lit, Nat.zero_add]; exact (HKN.out.cell j).trans (by rw [List.getElem?_toArray]; exact hu)) (by unfold maxLen; omega) (by omega) ?_
      intro v_2 wd hown0 hbn
      have hown : wd.ownsRow wc.heap.size 72 3 v_2 1 [.string ⟨#[120]⟩, .int .u8 1, .int .i64 0] := hown0
      clear hown0
      obtain ⟨A_2, c_2, rfl⟩ := own_form hown
      replace hH := hH.next hbn
      replace HPS := Lib.hid (HPS.out.next hbn)
      have HOW := Lib.hid hown
      have hz_ := hbn.size
      clear hown hbn
      refine hK.out _ _ hH (fun _ => ?_)
      clear hK
      (try simp only [PU, Act.put])
      refine wpAnyL_take (i := 6) (v := ?_) rfl (by kernel_rfl) (by kernel_rfl) (by kernel_rfl) (by kernel_rfl) (fun _ _ _ h => h) (Or.inl ⟨by rfl, ?hy⟩) hH ?_
      case hy => (intro w9_ hS9; clear hS9; go_simp; try with_reducible rfl)
      (try simp only [PU, Act.put])
      refine wpAnyL_last (l := 7) rfl (by kernel_rfl) (by kernel_rfl) (fun K hK => ?_)
      have F_f : wd.frozen? ⟨w.heap.size + 1, 0, none⟩ = false := (hH.blk HX4.out hnb).frozen 0
      have C_f : wd.cell? ⟨w.heap.size + 1, 0, none⟩ = some (.slice none 0 0) := (hH.blk HX4.out hnb).cell 0
      go_simp
      refine hK.out _ _ ?_
      clear hK
      (try simp only [PU, Act.put])
      have HH := Lib.hid hH
      have HXD := Lib.hid (hH.blk HX4.out hnb)
      have hzh := hH.size
      clear hH
      have hgl := H.out.pa.ne.2.1; have hrl := H.out.ne.2
      have hxl : w.heap.size + 1 < w4.heap.size := HX4.out.lt
      have hxz := HXZ.out
      go_wp2_with fail
      have hf5 : Fr (· = w.heap.size + 1) wd (wd.setCell ⟨w.heap.size + 1, 0, none⟩ (.slice A_2 1 c_2)) := Fr.set (Fr.refl (· = w.heap.size + 1) _) rfl _
      have hat6 : (wd.setCell ⟨w.heap.size + 1, 0, none⟩ (.slice A_2 1 c_2)).cell? ⟨b, 1, none⟩ = some (.int .i64 2) := (HPS.out.other hf5 hnb.symm (by omega) (by omega)).pa.blk.cell 1
      exact ⟨⟨.inr ⟨.slice A_2 1 c_2, HPS.out.other hf5 hnb.symm (by omega) (by omega), by simpa using HXD.out.set_ 0 (.slice A_2 1 c_2), own_fr (own_lowE HOW.out (base' := w.heap.size + 2) (by omega)) hf5 (fun k h1 h2 => by have := (own_gE HOW.out h1).1; omega)⟩, hf5.blk (HH.out.blk HK4.out (by omega)) (by omega), fr_new (HF4.out.trans HH.out) (Nat.le_succ _) _⟩, by rw [hat, hat6]; decide⟩
    · have Hr := Lib.hid hp; have HXr := Lib.hid hx; have HVr := Lib.hid hv
      clear hp hx hv
      go_wp2_with fail
      refine (e_atDeclF Hr.out).mono ?_
      rintro en w4 ⟨rfl, hb4⟩
      have H4 := Lib.hid (Hr.out.next hb4); have HF4 := Lib.hid (HFr.out.next hb4); have HK4 := Lib.hid (HKr.out.next hb4); have HX4 := Lib.hid (HXr.out.next hb4)
      have HV4 := Lib.hid (own_fr HVr.out (Fr.of (O := fun _ => False) hb4) (fun _ _ h => h))
      clear hb4
      go_upto_region 6 with fail
      go_loopw [] (fun wq => w4 = wq) (fun _ => 0)
      case atStart => rfl
      case round =>
      obtain rfl := hrel
      go_wp2_with fail
      refine (e_peek H4.out.pa (1, ⟨#[109, 97, 105, 110]⟩, 6) rfl).mono ?_
      rintro en w5 ⟨rfl, hb5⟩
      have H5 := Lib.hid (H4.out.next hb5); have HF5 := Lib.hid (HF4.out.next hb5); have HK5 := Lib.hid (HK4.out.next hb5); have HX5 := Lib.hid (HX4.out.next hb5)
      have HV5 := Lib.hid (own_fr HV4.out (Fr.of (O := fun _ => False) hb5) (fun _ _ h => h))
      clear hb5
      go_wp2_with fail
      refine (e_expT H5.out (1, ⟨#[109, 97, 105, 110]⟩, 6) rfl).mono ?_
      rintro en w6 ⟨rfl, h6, hf6⟩
      have H6 := Lib.hid h6; have HF6 := Lib.hid (HF5.out.trans hf6); have HK6 := Lib.hid (hf6.blk HK5.out (by omega)); have HX6 := Lib.hid (hf6.blk HX5.out hnb)
      have HV6 := Lib.hid (own_fr HV5.out hf6 (fun k h1 h2 => by have := (own_gE HV5.out h1).1; omega))
      clear h6 hf6
      go_wp2_with fail
      refine (e_body H6.out).mono ?_
      rintro en w7 ⟨⟨g2, v, rfl, hk1⟩, h7, hf7⟩
      have H7 := Lib.hid h7; have HF7 := Lib.hid (HF6.out.trans hf7); have HK7 := Lib.hid (hf7.blk HK6.out (by omega)); have HX7 := Lib.hid (hf7.blk HX6.out hnb)
      have hx6 : w.heap.size + 1 < w6.heap.size := HX6.out.lt
      have HPG : Hid (PrgAt w7 (w.heap.size + 2) vv g2 v) := Lib.hid ⟨own_fr HV6.out hf7 (fun k h1 h2 => by have := (own_gE HV6.out h1).1; omega), own_lowE hk1.1 (by omega), hk1.2.1, by have := hk1.2.2; omega⟩
      obtain ⟨A_v, c_v, rfl⟩ := own_form hk1.1
      obtain ⟨A_w, c_w, rfl⟩ := own_form HV6.out
      clear h7 hf7 hk1
      have hgl := H.out.pa.ne.2.1; have hrl := H.out.ne.2
      obtain ⟨z_X, T_X, F_X⟩ := HX7.out.open_
      go_upto_region 12 with fail
      refine wp_nameE ?_
      intro w8 hw8
      have hf8 : Fr (· = w.heap.size + 1) w7 w8 := by rw [hw8]; exact Fr.set (Fr.set (Fr.set (Fr.set (Fr.refl (· = w.heap.size + 1) _) rfl _) rfl _) rfl _) rfl _
      have HF8 : Hid (Fr (· = b) w w8) := Lib.hid (by rw [hw8]; exact fr_new (fr_new (fr_new (fr_new HF7.out (Nat.le_succ _) _) (Nat.le_succ _) _) (Nat.le_succ _) _) (Nat.le_succ _) _)
      have HX8 : Hid (Blk w8 (w.heap.size + 1) 28 #[.slice A_w 1 c_w, .slice none 0 0, .int .u8 57, .int .i64 0, .string ⟨#[]⟩, .slice A_v 1 c_v]) := Lib.hid (by rw [hw8]; simpa using (((HX7.out.set_ 2 (.int .u8 57)).set_ 3 (.int .i64 0)).set_ 4 (.string ⟨#[]⟩)).set_ 5 (.slice A_v 1 c_v))
      have H8 := Lib.hid (H7.out.other hf8 hnb.symm (by omega) (by omega)); have HK8 := Lib.hid (hf8.blk HK7.out (by omega))
      have HPG8 := Lib.hid (HPG.out.fr hf8 (fun k h1 _ h2 => by omega))
      clear hw8 hf8 z_X T_X F_X
      obtain ⟨z_X, T_X, F_X⟩ := HX8.out.open_
      obtain ⟨z_K, T_K, F_K⟩ := HK8.out.open_
      go_wp2_with fail
      have K9 := (((((HK8.out.set_ 0 (.slice A_w 1 c_w)).set_ 1 (.slice none 0 0)).set_ 2 (.int .u8 57)).set_ 3 (.int .i64 0)).set_ 4 (.string ⟨#[]⟩)).set_ 5 (.slice A_v 1 c_v)
      refine bodyPost_ret_by (results_cell_row rfl _ _ w.heap.size 28 #[.slice A_w 1 c_w, .slice none 0 0, .int .u8 57, .int .i64 0, .string ⟨#[]⟩, .slice A_v 1 c_v] _ _ rfl (show Blk _ w.heap.size 28 #[.slice A_w 1 c_w, .slice none 0 0, .int .u8 57, .int .i64 0, .string ⟨#[]⟩, .slice A_v 1 c_v] by simpa using K9) Tryz.underlying28 rfl (by rw [info_prog]; rfl)) rfl ?_
      have hfk := Fr.set (Fr.set (Fr.set (Fr.set (Fr.set (Fr.set (Fr.refl (· = w.heap.size) w8) (p := ⟨w.heap.size, 0, none⟩) rfl (.slice A_w 1 c_w)) (p := ⟨w.heap.size, 1, none⟩) rfl (.slice none 0 0)) (p := ⟨w.heap.size, 2, none⟩) rfl (.int .u8 57)) (p := ⟨w.heap.size, 3, none⟩) rfl (.int .i64 0)) (p := ⟨w.heap.size, 4, none⟩) rfl (.string ⟨#[]⟩)) (p := ⟨w.heap.size, 5, none⟩) rfl (.slice A_v 1 c_v)
      exact ⟨⟨_, g2, _, rfl, (HPG8.out.fr hfk (fun k h1 _ h2 => by omega)).low (by omega)⟩, H8.out.other hfk (by omega) (by omega) (by omega), fr_new (fr_new (fr_new (fr_new (fr_new (fr_new HF8.out (Nat.le_refl _) _) (Nat.le_refl _) _) (Nat.le_refl _) _) (Nat.le_refl _) _) (Nat.le_refl _) _) (Nat.le_refl _) _⟩
end
end Go.Proofs.YtakfdnnlhjhcfaaGreatDoor
