/- WhKc WhKh. -/
import Derived.Test.YtakfdnnlhjhcfaaGreatDoorM38
import Derived.Test.YtakfdnnlhjhcfaaGreatDoorZWhJo
set_option linter.unusedVariables false
set_option linter.unusedSimpArgs false
set_option linter.unusedSimpArgs false
set_option maxRecDepth 100000
set_option maxHeartbeats 4000000
namespace Go.Proofs.YtakfdnnlhjhcfaaGreatDoor
section
open Go.RowKit Bk
theorem e_primary {w : World} {b g c r : Nat} (h : PT w b g c r 6) : Calls Tryz.prog 211 #[.pointer (some ⟨b, 0, none⟩)] w fun e w' => e = .returned (.agg #[.int .u8 1, .int .i64 3, .string ⟨#[]⟩, .slice none 0 0]) ∧ PT w' b g c r 7 ∧ Fr (· = b) w w' := by
  have ft0 := field_tok0
  have H := Lib.hid h
  have hbs := h.pa.blk.lt
  clear h
  go_enter Tryz.func211, Tryz.ntmps211
  go_upto_region 1 with fail
  refine wp_nameE ?_
  intro w1 hw1
  have hb1 : Below w.heap.size w w1 := by rw [hw1]; exact (by go_grown)
  have K1 : Blk w1 w.heap.size 26 #[.int .u8 0, .int .i64 0, .string ⟨#[]⟩, .slice none 0 0] := by rw [hw1]; exact blkA
  have HK1 := Lib.hid K1; have HF1 := Lib.hid (Fr.of (O := (· = b)) hb1)
  have H1 := Lib.hid (H.out.next hb1)
  clear hw1 hb1 K1
  go_wp2_with fail
  refine (e_peek H1.out.pa (2, ⟨#[51]⟩, 18) rfl).mono ?_
  rintro en w2 ⟨rfl, hb2⟩
  have H2 := Lib.hid (H1.out.next hb2); have HF2 := Lib.hid (HF1.out.next hb2)
  have HK2 := Lib.hid (HK1.out.next hb2)
  clear hb2
  go_wp2_with fail
  refine (e_number H2.out).mono ?_
  rintro en w3 ⟨rfl, h3, hf3⟩
  have H3 := Lib.hid h3; have HF3 := Lib.hid (HF2.out.trans hf3)
  have HK3 := Lib.hid (hf3.blk HK2.out (by omega))
  clear h3 hf3
  obtain ⟨z_HK, T_HK, F_HK⟩ := HK3.out.open_
  go_wp2_with fail
  have K9 := (((HK3.out.set_ 0 (.int .u8 1)).set_ 1 (.int .i64 3)).set_ 2 (.string ⟨#[]⟩)).set_ 3 (.slice none 0 0)
  refine bodyPost_ret_by (results_cell_row rfl _ _ w.heap.size 26 #[.int .u8 1, .int .i64 3, .string ⟨#[]⟩, .slice none 0 0] _ _ rfl (show Blk _ w.heap.size 26 #[.int .u8 1, .int .i64 3, .string ⟨#[]⟩, .slice none 0 0] by simpa using K9) Tryz.underlying26 rfl (by rw [info_nodeP]; rfl)) rfl ?_
  exact ⟨rfl, H.out.fin H3.out HF3.out (Nat.le_refl _) _ _ _ _⟩
theorem e_unary3 {w : World} {b g c r : Nat} (h : PT w b g c r 6) : Calls Tryz.prog 202 #[.pointer (some ⟨b, 0, none⟩)] w fun e w' => e = .returned (.agg #[.int .u8 1, .int .i64 3, .string ⟨#[]⟩, .slice none 0 0]) ∧ PT w' b g c r 7 ∧ Fr (· = b) w w' := by
  have H := Lib.hid h
  have hbs := h.pa.blk.lt
  clear h
  go_enter Tryz.func202, Tryz.ntmps202
  go_upto_region 1 with fail
  refine wp_nameE ?_
  intro w1 hw1
  have hb1 : Below w.heap.size w w1 := by rw [hw1]; exact (by go_grown)
  have K1 : Blk w1 w.heap.size 26 #[.int .u8 0, .int .i64 0, .string ⟨#[]⟩, .slice none 0 0] := by rw [hw1]; exact blkA
  have HK1 := Lib.hid K1; have HF1 := Lib.hid (Fr.of (O := (· = b)) hb1)
  have H1 := Lib.hid (H.out.next hb1)
  clear hw1 hb1 K1
  go_wp2_with fail
  refine (e_accF' H1.out (2, ⟨#[51]⟩, 18) rfl ⟨#[45]⟩ (by decide +kernel)).mono ?_
  rintro en w2 ⟨rfl, hb2⟩
  have H2 := Lib.hid (H1.out.next hb2); have HF2 := Lib.hid (HF1.out.next hb2)
  have HK2 := Lib.hid (HK1.out.next hb2)
  clear hb2
  go_wp2_with fail
  refine (e_accF' H2.out (2, ⟨#[51]⟩, 18) rfl ⟨#[33]⟩ (by decide +kernel)).mono ?_
  rintro en w3 ⟨rfl, hb3⟩
  have H3 := Lib.hid (H2.out.next hb3); have HF3 := Lib.hid (HF2.out.next hb3)
  have HK3 := Lib.hid (HK2.out.next hb3)
  clear hb3
  go_wp2_with fail
  refine (e_primary H3.out).mono ?_
  rintro en w4 ⟨rfl, h4, hf4⟩
  have H4 := Lib.hid h4; have HF4 := Lib.hid (HF3.out.trans hf4)
  have HK4 := Lib.hid (hf4.blk HK3.out (by omega))
  clear h4 hf4
  obtain ⟨z_HK, T_HK, F_HK⟩ := HK4.out.open_
  go_wp2_with fail
  have K9 := (((HK4.out.set_ 0 (.int .u8 1)).set_ 1 (.int .i64 3)).set_ 2 (.string ⟨#[]⟩)).set_ 3 (.slice none 0 0)
  refine bodyPost_ret_by (results_cell_row rfl _ _ w.heap.size 26 #[.int .u8 1, .int .i64 3, .string ⟨#[]⟩, .slice none 0 0] _ _ rfl (show Blk _ w.heap.size 26 #[.int .u8 1, .int .i64 3, .string ⟨#[]⟩, .slice none 0 0] by simpa using K9) Tryz.underlying26 rfl (by rw [info_nodeP]; rfl)) rfl ?_
  exact ⟨rfl, H.out.fin H4.out HF4.out (Nat.le_refl _) _ _ _ _⟩
theorem zero_u8 (w : World) : (zeroValue 5).run Tryz.prog w = .ok (.int .u8 0) w := by kernel_rfl
theorem e_expr3 {w : World} {b g c r : Nat} (h : PT w b g c r 6) : Calls Tryz.prog 187 #[.pointer (some ⟨b, 0, none⟩), .int .i64 1] w fun e w' => e = .returned (.agg #[.int .u8 1, .int .i64 3, .string ⟨#[]⟩, .slice none 0 0]) ∧ PT w' b g c r 7 ∧ Fr (· = b) w w' := by
  have ft1 := field_tok1
  have H := Lib.hid h
  have hbs := h.pa.blk.lt
  clear h
  go_enter Tryz.func187, Tryz.ntmps187
  go_upto_region 1 with fail
  refine wp_nameE ?_
  intro w1 hw1
  have hb1 : Below w.heap.size w w1 := by rw [hw1]; exact (by go_grown)
  have K1 : Blk w1 w.heap.size 26 #[.int .u8 0, .int .i64 0, .string ⟨#[]⟩, .slice none 0 0] := by rw [hw1]; exact blkA
  have HK1 := Lib.hid K1; have HF1 := Lib.hid (Fr.of (O := (· = b)) hb1)
  have H1 := Lib.hid (H.out.next hb1)
  clear hw1 hb1 K1
  go_wp2_with fail
  refine (e_unary3 H1.out).mono ?_
  rintro en w2 ⟨rfl, h2, hf2⟩
  have H2 := Lib.hid h2; have HF2 := Lib.hid (HF1.out.trans hf2)
  have HK2 := Lib.hid (hf2.blk HK1.out (by omega))
  clear h2 hf2
  go_upto_region 2 with fail
  refine wp_nameE ?_
  intro w3 hw3
  have hb3 : Below w2.heap.size w2 w3 := by rw [hw3]; exact (by go_grown)
  have KN : Blk w3 w2.heap.size 26 #[.int .u8 1, .int .i64 3, .string ⟨#[]⟩, .slice none 0 0] := by rw [hw3]; exact blkA
  have HN3 := Lib.hid KN
  have H3 := Lib.hid (H2.out.next hb3); have HF3 := Lib.hid (HF2.out.next hb3); have HK3 := Lib.hid (HK2.out.next hb3)
  have HB3 := Lib.hid H3.out.pa.blk
  clear hw3 hb3 KN
  go_loopw [] (fun wr => w3 = wr) (fun _ => 0)
  case atStart => rfl
  case round =>
    obtain rfl := hrel
    go_upto_region 2 with fail
    refine wp_region_held_drew (S := fun W => Below w3.heap.size w3 W) (by kernel_rfl) ((Below.refl _ _).drew) (fun hH => ?_)
    refine wpAnyH_atN ?_
    intro wa hwa
    have hX : Below w3.heap.size w3 wa := by rw [hwa]; exact (Below.refl _ _).drew
    replace hH : Below w3.heap.size w3 wa := hX
    clear hwa
    refine tkQ 0 (v := ?_) rfl hH ?_
    (try simp only [PU, Act.put])
    refine tkQ 1 (v := ?_) rfl hH ?_
    (try simp only [PU, Act.put])
    refine tkQ 2 (v := ?_) rfl hH ?_
    (try simp only [PU, Act.put])
    refine tkK 3 (v := ?_) rfl ?hy hH ?_
    case hy => (intro w9_ hS9; have t := (HB3.out.next hS9).cell; clear hS9; go_simp; try with_reducible rfl)
    (try simp only [PU, Act.put])
    refine tkQ 4 (v := ?_) rfl hH ?_
    (try simp only [PU, Act.put])
    refine nxH 5 (by kernel_rfl) rfl (fun K hK => ?_)
    go_simp
    refine (e_peek (H3.out.next hX).pa (3, ⟨#[59]⟩, 19) rfl).mono ?_
    rintro en wb ⟨rfl, hbn⟩
    replace hX := hX.next hbn
    clear hbn
    refine hK.out _ _ hX (fun hH => ?_)
    clear hK
    (try simp only [PU, Act.put])
    refine tkQ 6 (v := ?_) rfl hH ?_
    (try simp only [PU, Act.put])
    refine nxH 7 (by kernel_rfl) rfl (fun K hK => ?_)
    have hlk := MapB.look (P := Tryz.prog) (mty := 100) Tryz.underlying100 Tryz.underlying9 (zero_u8 _) (H3.out.next hX).mp
    go_simp
    refine hK.out _ _ hX (fun hH => ?_)
    clear hK
    (try simp only [PU, Act.put])
    clear hlk
    refine tkQ 8 (v := ?_) rfl hH ?_
    (try simp only [PU, Act.put])
    refine tkQ 9 (v := ?_) rfl hH ?_
    (try simp only [PU, Act.put])
    refine tkQ 10 (v := ?_) rfl hH ?_
    (try simp only [PU, Act.put])
    refine tkQ 11 (v := ?_) rfl hH ?_
    (try simp only [PU, Act.put])
    refine tkQ 12 (v := ?_) rfl hH ?_
    (try simp only [PU, Act.put])
    refine wpAnyH_done (by kernel_rfl) ?_ _
    have HX := Lib.hid hX
    have H4 := Lib.hid (H3.out.next hX); have HF4 := Lib.hid (HF3.out.next hX); have HK4 := Lib.hid (HK3.out.next hX); have HN4 := Lib.hid (HN3.out.next hX)
    clear hX hH
    obtain ⟨z_HK, T_HK, F_HK⟩ := HK4.out.open_
    obtain ⟨z_HN, T_HN, F_HN⟩ := HN4.out.open_
    go_wp2_with fail
    have K9 := (((HK4.out.set_ 0 (.int .u8 1)).set_ 1 (.int .i64 3)).set_ 2 (.string ⟨#[]⟩)).set_ 3 (.slice none 0 0)
    refine bodyPost_ret_by (results_cell_row rfl _ _ w.heap.size 26 #[.int .u8 1, .int .i64 3, .string ⟨#[]⟩, .slice none 0 0] _ _ rfl (show Blk _ w.heap.size 26 #[.int .u8 1, .int .i64 3, .string ⟨#[]⟩, .slice none 0 0] by simpa using K9) Tryz.underlying26 rfl (by rw [info_nodeP]; rfl)) rfl ?_
    exact ⟨rfl, H.out.fin H4.out HF4.out (Nat.le_refl _) _ _ _ _⟩
def K2At (w : World) (lo g2 : Nat) : Prop := Blk w g2 26 #[.int .u8 2, .int .i64 0, .string ⟨#[120]⟩, .slice none 0 0, .int .u8 1, .int .i64 3, .string ⟨#[]⟩, .slice none 0 0] ∧ lo ≤ g2
theorem e_update {w : World} {b g c r : Nat} (h : PT w b g c r 4) : Calls Tryz.prog 172 #[.pointer (some ⟨b, 0, none⟩)] w fun e w' => (∃ g2, e = .returned (.agg #[.int .u8 40, .int .i64 0, .string ⟨#[]⟩, .slice (some ⟨g2, 0, none⟩) 2 2]) ∧ K2At w' w.heap.size g2) ∧ PT w' b g c r 7 ∧ Fr (· = b) w w' := by
  have ft1 := field_tok1
  have H := Lib.hid h
  have hbs := h.pa.blk.lt
  clear h
  go_enter Tryz.func172, Tryz.ntmps172
  go_upto_region 1 with fail
  refine wp_nameE ?_
  intro w1 hw1
  have hb1 : Below w.heap.size w w1 := by rw [hw1]; exact (by go_grown)
  have K1 : Blk w1 w.heap.size 26 #[.int .u8 0, .int .i64 0, .string ⟨#[]⟩, .slice none 0 0] := by rw [hw1]; exact blkA
  have HK1 := Lib.hid K1; have HF1 := Lib.hid (Fr.of (O := (· = b)) hb1)
  have H1 := Lib.hid (H.out.next hb1)
  clear hw1 hb1 K1
  go_wp2_with fail
  refine (e_place H1.out 13 rfl (3, ⟨#[43, 61]⟩, 15) rfl (by decide +kernel)).mono ?_
  rintro en w2 ⟨rfl, h2, hf2⟩
  have H2 := Lib.hid h2; have HF2 := Lib.hid (HF1.out.trans hf2)
  have HK2 := Lib.hid (hf2.blk HK1.out (by omega))
  clear h2 hf2
  go_upto_region 3 with fail
  refine wp_nameE ?_
  intro w3 hw3
  have hb3 : Below w2.heap.size w2 w3 := by rw [hw3]; exact (by go_grown)
  have KN : Blk w3 w2.heap.size 26 #[.int .u8 2, .int .i64 0, .string ⟨#[120]⟩, .slice none 0 0] := by rw [hw3]; exact blkA
  have HN3 := Lib.hid KN
  have H3 := Lib.hid (H2.out.next hb3); have HF3 := Lib.hid (HF2.out.next hb3); have HK3 := Lib.hid (HK2.out.next hb3)
  have hn3 : w2.heap.size ≠ b := by have := H2.out.pa.blk.lt; omega
  clear hw3 hb3 KN
  go_wp2_with fail
  refine (e_peek H3.out.pa (3, ⟨#[43, 61]⟩, 15) rfl).mono ?_
  rintro en w4 ⟨rfl, hb4⟩
  have H4 := Lib.hid (H3.out.next hb4); have HF4 := Lib.hid (HF3.out.next hb4)
  have HK4 := Lib.hid (HK3.out.next hb4)
  have HN4 := Lib.hid (HN3.out.next hb4)
  clear hb4
  obtain ⟨z_b, T_b, F_b⟩ := H4.out.pa.blk.open_
  go_upto_region 19 with fail
  refine wp_nameE ?_
  intro w5 hw5
  have hf5 : Fr (· = b) w4 w5 := by rw [hw5]; exact Fr.set (Fr.refl (· = b) _) rfl _
  have hp5 : PA w5 b g 9 6 c (.map (some r)) tks 23 := H4.out.pa.step hf5 (by rw [hw5]; simpa using H4.out.pa.blk.set_ 1 (.int .i64 6))
  have H5 := Lib.hid (H4.out.fr hf5 hp5); have HF5 := Lib.hid (HF4.out.trans hf5)
  have HK5 := Lib.hid (hf5.blk HK4.out (by omega)); have HN5 := Lib.hid (hf5.blk HN4.out hn3)
  clear hw5 hf5 hp5 z_b T_b F_b
  go_wp2_with fail
  refine (e_expr3 H5.out).mono ?_
  rintro en w6 ⟨rfl, h6, hf6⟩
  have H6 := Lib.hid h6; have HF6 := Lib.hid (HF5.out.trans hf6)
  have HK6 := Lib.hid (hf6.blk HK5.out (by omega))
  have HN6 := Lib.hid (hf6.blk HN5.out (by exact hn3))
  clear h6 hf6
  go_upto_region 20 with fail
  refine wp_nameE ?_
  intro w7 hw7
  have hb7 : Below w6.heap.size w6 w7 := by rw [hw7]; exact (by go_grown)
  have KM : Blk w7 w6.heap.size 26 #[.int .u8 1, .int .i64 3, .string ⟨#[]⟩, .slice none 0 0] := by rw [hw7]; exact blkA
  have H7 := Lib.hid (H6.out.next hb7); have HF7 := Lib.hid (HF6.out.next hb7); have HK7 := Lib.hid (HK6.out.next hb7); have HN7 := Lib.hid (HN6.out.next hb7)
  have HM7 := Lib.hid KM
  clear hw7 hb7 KM
  have hz7 : w.heap.size ≤ w7.heap.size := HF7.out.size
  have hk7 : w.heap.size < w7.heap.size := HK7.out.lt
  obtain ⟨z_K, T_K, F_K⟩ := HK7.out.open_
  obtain ⟨z_N, T_N, F_N⟩ := HN7.out.open_
  obtain ⟨z_M, T_M, F_M⟩ := HM7.out.open_
  go_wp2_with fail
  have K9 := (((HK7.out.set_ 0 (.int .u8 40)).set_ 1 (.int .i64 0)).set_ 2 (.string ⟨#[]⟩)).set_ 3 (.slice (some ⟨w7.heap.size, 0, none⟩) 2 2)
  have hF := H.out.fin H7.out HF7.out (Nat.le_refl _) (.int .u8 40) (.int .i64 0) (.string ⟨#[]⟩) (.slice (some ⟨w7.heap.size, 0, none⟩) 2 2)
  refine bodyPost_ret_by (results_cell_row rfl _ _ w.heap.size 26 #[.int .u8 40, .int .i64 0, .string ⟨#[]⟩, .slice (some ⟨w7.heap.size, 0, none⟩) 2 2] _ _ rfl (show Blk _ w.heap.size 26 #[.int .u8 40, .int .i64 0, .string ⟨#[]⟩, .slice (some ⟨w7.heap.size, 0, none⟩) 2 2] from Blk.alloc (by simpa using K9) _) Tryz.underlying26 rfl (by rw [info_nodeP]; rfl)) rfl ?_
  exact ⟨⟨_, rfl, ⟨Blk.new' (by simp) _ _, by omega⟩⟩, hF.1.next ((Below.refl _ _).alloc (Nat.le_refl _) _), hF.2.next ((Below.refl _ _).alloc (Nat.le_refl _) _)⟩
theorem e_stmt {w : World} {b g c r : Nat} (h : PT w b g c r 4) : Calls Tryz.prog 148 #[.pointer (some ⟨b, 0, none⟩)] w fun e w' => (∃ g2, e = .returned (.agg #[.int .u8 40, .int .i64 0, .string ⟨#[]⟩, .slice (some ⟨g2, 0, none⟩) 2 2]) ∧ K2At w' w.heap.size g2) ∧ PT w' b g c r 7 ∧ Fr (· = b) w w' := by
  have ft1 := field_tok1
  have H := Lib.hid h
  have hbs := h.pa.blk.lt
  clear h
  go_enter Tryz.func148, Tryz.ntmps148
  go_upto_region 1 with fail
  refine wp_nameE ?_
  intro w1 hw1
  have hb1 : Below w.heap.size w w1 := by rw [hw1]; exact (by go_grown)
  have K1 : Blk w1 w.heap.size 26 #[.int .u8 0, .int .i64 0, .string ⟨#[]⟩, .slice none 0 0] := by rw [hw1]; exact blkA
  have HK1 := Lib.hid K1; have HF1 := Lib.hid (Fr.of (O := (· = b)) hb1)
  have H1 := Lib.hid (H.out.next hb1)
  clear hw1 hb1 K1
  go_wp2_with fail
  refine (e_peek H1.out.pa (1, ⟨#[120]⟩, 13) rfl).mono ?_
  rintro en w2 ⟨rfl, hb2⟩
  have H2 := Lib.hid (H1.out.next hb2); have HF2 := Lib.hid (HF1.out.next hb2)
  have HK2 := Lib.hid (HK1.out.next hb2)
  clear hb2
  go_upto_region 24 with fail
  go_wp2_with fail
  refine (e_update H2.out).mono ?_
  rintro en w3 ⟨⟨g2, rfl, k2⟩, h3, hf3⟩
  have H3 := Lib.hid h3; have HF3 := Lib.hid (HF2.out.trans hf3)
  have HK3 := Lib.hid (hf3.blk HK2.out (by omega))
  have HK2A := Lib.hid k2
  have hz2 : w.heap.size < w2.heap.size := HK2.out.lt
  clear h3 hf3 k2
  obtain ⟨z_HK, T_HK, F_HK⟩ := HK3.out.open_
  go_wp2_with fail
  have K9 := (((HK3.out.set_ 0 (.int .u8 40)).set_ 1 (.int .i64 0)).set_ 2 (.string ⟨#[]⟩)).set_ 3 (.slice (some ⟨g2, 0, none⟩) 2 2)
  refine bodyPost_ret_by (results_cell_row rfl _ _ w.heap.size 26 #[.int .u8 40, .int .i64 0, .string ⟨#[]⟩, .slice (some ⟨g2, 0, none⟩) 2 2] _ _ rfl (show Blk _ w.heap.size 26 #[.int .u8 40, .int .i64 0, .string ⟨#[]⟩, .slice (some ⟨g2, 0, none⟩) 2 2] by simpa using K9) Tryz.underlying26 rfl (by rw [info_nodeP]; rfl)) rfl ?_
  obtain ⟨kb, kl⟩ := HK2A.out
  exact ⟨⟨g2, rfl, ⟨(Fr.set (Fr.set (Fr.set (Fr.set (Fr.refl (· = w.heap.size) _) rfl _) rfl _) rfl _) rfl _).blk kb (by omega), by omega⟩⟩, H.out.fin H3.out HF3.out (Nat.le_refl _) _ _ _ _⟩
end
section
open Go.RowKit Bk
theorem e_blankX (c : Int) (w : World) : Calls Tryz.prog 88 #[.int .u8 c] w fun e w' => e = .returned (.bool (c == 32 || c == 9 || c == 13 || c == 10)) ∧ w' = w := by
  go_enter Tryz.func88, Tryz.ntmps88
  go_wp2_with fail
  all_goals go_ret
  all_goals exact ⟨by simp_all, rfl⟩
theorem e_spanX (f : FuncId) (p : Int → Bool) (eg : ∀ (args : Array Value) (w : World), (callFunc f args).run Tryz.prog w = .ok (.enter f args) w) (hcls : ∀ c w, Calls Tryz.prog f #[.int .u8 c] w fun e w' => e = .returned (.bool (p c)) ∧ w' = w)
    (s : ByteArray) (hs : s.size ≤ 1000) (n : Nat) (hn : n ≤ s.size) (h1 : ∀ i (h : i < s.size), i < n → p (s[i].toNat : Int) = true) (h2 : ∀ h : n < s.size, p (s[n].toNat : Int) = false) (w : World) :
    Calls Tryz.prog 85 #[.string s, .func (.func f) #[] #[]] w fun e w' => e = .returned (.int .i64 n) ∧ w' = w := by
  have H1 := Lib.hid h1; have H2 := Lib.hid h2; have HC := Lib.hid hcls
  have eg' := eg
  clear h1 h2 hcls eg
  go_enter Tryz.func85, Tryz.ntmps85
  go_wp2_with fail
  go_loopw [8] (fun v8 wr => ∃ j : Nat, j ≤ n ∧ v8 = .int .i64 j ∧ wr = w) (fun v _ => s.size - (intOf v).toNat)
  case atStart => exact ⟨0, Nat.zero_le _, rfl, rfl⟩
  case round =>
    obtain ⟨j, hj, rfl, rfl⟩ := hrel
    by_cases hlt : j < s.size
    · have j1 : (j : Int) < (s.size : Int) := by omega
      have j0 : (0 : Int) ≤ (j : Int) := by omega
      rcases Nat.lt_or_ge j n with hjn | hjn
      · have hb := H1.out j hlt hjn
        have HB := Lib.hid (HC.out (s[j].toNat : Int))
        rw [hb] at HB
        clear hb
        go_wp2_with fail
        refine (HB.out _).mono ?_
        rintro e w' ⟨rfl, rfl⟩
        go_wp2_with fail
        exact ⟨⟨j + 1, by omega, by go_num, by trivial⟩, by simp [intOf]; omega⟩
      · obtain rfl : n = j := by omega
        have hb := H2.out hlt
        have HB := Lib.hid (HC.out (s[n].toNat : Int))
        rw [hb] at HB
        clear hb
        go_wp2_with fail
        refine (HB.out _).mono ?_
        rintro e w' ⟨rfl, rfl⟩
        go_wp2_with fail
        go_ret
        exact ⟨rfl, rfl⟩
    · obtain rfl : s.size = j := by omega
      obtain rfl : s.size = n := by omega
      go_wp2_with fail
      go_ret
      exact ⟨rfl, rfl⟩
theorem e_hasPreF (s : ByteArray) (h3 : ((s.extract 0 3).toList == [60, 61, 62]) = false) (w : World) : Calls Tryz.prog 118 #[.string s, .string ⟨#[60, 61, 62]⟩] w fun e w' => e = .returned (.bool false) ∧ w' = w := by
  have h : ∀ w, Calls Tryz.prog 151 #[.string s, .string ⟨#[60, 61, 62]⟩] w fun e w' => e = .returned (.bool false) ∧ w' = w := fun w => by
    by_cases hl : 3 ≤ s.size
    · have hl' : (3 : Int) ≤ (s.size : Int) := by omega
      go_enter Tryz.func151, Tryz.ntmps151
      go_wp2_with fail
      go_ret
      exact ⟨rfl, rfl⟩
    · have hl' : decide ((3 : Int) ≤ (s.size : Int)) = false := by simp; omega
      go_enter Tryz.func151, Tryz.ntmps151
      go_wp2_with fail
      go_ret
      exact ⟨rfl, rfl⟩
  go_enter Tryz.func118, Tryz.ntmps118
  go_wp2_with fail
  refine (h _).mono ?_
  rintro e w' ⟨rfl, rfl⟩
  go_wp2_with fail
  go_ret
  exact ⟨rfl, rfl⟩
theorem e_indexByteX (s : ByteArray) (c : Int) (w : World) : Calls Tryz.prog 119 #[.string s, .int .u8 c] w fun e w' => e = .returned (.int .i64 (Lib.indexByte s.data.toList c.toNat.toUInt8)) ∧ w' = w := by
  have h : ∀ w, Calls Tryz.prog 152 #[.string s, .int .u8 c] w fun e w' => e = .returned (.int .i64 (Lib.indexByte s.data.toList c.toNat.toUInt8)) ∧ w' = w := fun w => by
    go_enter Tryz.func152, Tryz.ntmps152
    go_wp2
    rw [run_callFunc_extern Tryz.func173 (by kernel_rfl) (by kernel_rfl) (by kernel_rfl) (e := Extern.BytealgIndexByte.indexByte) (by kernel_rfl), Lib.run_indexByteString]
    simp only [Result.andThen]
    rw [Oper.upon_value]
    go_wp2
    go_ret
    exact ⟨rfl, rfl⟩
  go_enter Tryz.func119, Tryz.ntmps119
  go_wp2_with fail
  refine (h _).mono ?_
  rintro e w' ⟨rfl, rfl⟩
  go_wp2_with fail
  go_ret
  exact ⟨rfl, rfl⟩
theorem e_sign1 (s t2 : ByteArray) (hs : 1 ≤ s.size) (h3 : ((s.extract 0 3).toList == [60, 61, 62]) = false) (k : Nat) (hk : min 2 s.size = k) (ht : s.extract 0 k = t2) (n1 : (t2.toList == [58, 61]) = false) (n2 : (t2.toList == [43, 61]) = false) (n3 : (t2.toList == [45, 61]) = false) (n4 : (t2.toList == [94, 61]) = false) (n5 : (t2.toList == [61, 61]) = false) (n6 : (t2.toList == [33, 61]) = false) (n7 : (t2.toList == [60, 61]) = false) (n8 : (t2.toList == [62, 61]) = false) (n9 : (t2.toList == [38, 38]) = false) (n10 : (t2.toList == [124, 124]) = false)
    (hix : 0 ≤ Lib.indexByte (⟨#[43, 45, 42, 47, 37, 38, 124, 94, 33, 61, 60, 62, 40, 41, 123, 125, 91, 93, 59, 44]⟩ : ByteArray).data.toList ((s[0]'(by omega)).toNat : Int).toNat.toUInt8) (w : World) : Calls Tryz.prog 90 #[.string s] w fun e w' => e = .returned (.int .i64 1) ∧ w' = w := by
  have hm : min (2 : Int) (s.size : Int) = (k : Int) := by omega
  have h0 : (0 : Int) ≤ (k : Int) := by omega
  have h1 : (k : Int) ≤ (s.size : Int) := by omega
  have h2 : (0 : Int) < (s.size : Int) := by omega
  have HIX := Lib.hid (e_indexByteX (⟨#[43, 45, 42, 47, 37, 38, 124, 94, 33, 61, 60, 62, 40, 41, 123, 125, 91, 93, 59, 44]⟩) ((s[0]'(by omega)).toNat : Int))
  obtain ⟨ix, hix2⟩ : ∃ i, Lib.indexByte (⟨#[43, 45, 42, 47, 37, 38, 124, 94, 33, 61, 60, 62, 40, 41, 123, 125, 91, 93, 59, 44]⟩ : ByteArray).data.toList ((s[0]'(by omega)).toNat : Int).toNat.toUInt8 = i := ⟨_, rfl⟩
  rw [hix2] at HIX hix
  have HPF := Lib.hid (e_hasPreF s h3)
  clear hix2 hk h3
  go_enter Tryz.func90, Tryz.ntmps90
  go_wp2_with fail
  refine (HPF.out _).mono ?_
  rintro e w' ⟨rfl, rfl⟩
  go_wp2_with fail
  refine (HIX.out _).mono ?_
  rintro e w' ⟨rfl, rfl⟩
  go_wp2_with fail
  go_ret
  exact ⟨rfl, rfl⟩
theorem e_sign2 (s t2 : ByteArray) (hs : 1 ≤ s.size) (h3 : ((s.extract 0 3).toList == [60, 61, 62]) = false) (k : Nat) (hk : min 2 s.size = k) (ht : s.extract 0 k = t2) (n1 : (t2.toList == [58, 61]) = false) (n2 : (t2.toList == [43, 61]) = true) (w : World) : Calls Tryz.prog 90 #[.string s] w fun e w' => e = .returned (.int .i64 2) ∧ w' = w := by
  have hm : min (2 : Int) (s.size : Int) = (k : Int) := by omega
  have h0 : (0 : Int) ≤ (k : Int) := by omega
  have h1 : (k : Int) ≤ (s.size : Int) := by omega
  have HPF := Lib.hid (e_hasPreF s h3)
  clear hk h3
  go_enter Tryz.func90, Tryz.ntmps90
  go_wp2_with fail
  refine (HPF.out _).mono ?_
  rintro e w' ⟨rfl, rfl⟩
  go_wp2_with fail
  go_ret
  exact ⟨rfl, rfl⟩
theorem e_firstW (s : ByteArray) (h0 : 0 < s.size) (n : Int) (hl : (decide ((97 : Int) ≤ ((s[0]'h0).toNat : Int)) && decide (((s[0]'h0).toNat : Int) ≤ 122)) = true) (hsp : ∀ w, Calls Tryz.prog 85 #[.string s, .func (.func 86) #[] #[]] w fun e w' => e = .returned (.int .i64 n) ∧ w' = w) (w : World) :
    Calls Tryz.prog 51 #[.string s] w fun e w' => e = .returned (.tuple #[.int .u8 1, .int .i64 n]) ∧ w' = w := by
  have hz : (0 : Int) < (s.size : Int) := by omega
  have hL := fun w => e_letter ((s[0]'h0).toNat : Int) w
  rw [hl] at hL
  have HL := Lib.hid hL; have HSP := Lib.hid hsp
  clear hL hsp hl
  go_enter Tryz.func51, Tryz.ntmps51
  go_wp2_with fail
  refine (HL.out _).mono ?_
  rintro e w' ⟨rfl, rfl⟩
  go_wp2_with fail
  refine (HSP.out _).mono ?_
  rintro e w' ⟨rfl, rfl⟩
  go_wp2_with fail
  go_ret2
  exact ⟨rfl, rfl⟩
theorem e_firstN (s : ByteArray) (h0 : 0 < s.size) (n : Int) (hl : (decide ((97 : Int) ≤ ((s[0]'h0).toNat : Int)) && decide (((s[0]'h0).toNat : Int) ≤ 122)) = false) (hd : (decide ((48 : Int) ≤ ((s[0]'h0).toNat : Int)) && decide (((s[0]'h0).toNat : Int) ≤ 57)) = true) (hsp : ∀ w, Calls Tryz.prog 85 #[.string s, .func (.func 87) #[] #[]] w fun e w' => e = .returned (.int .i64 n) ∧ w' = w) (w : World) :
    Calls Tryz.prog 51 #[.string s] w fun e w' => e = .returned (.tuple #[.int .u8 2, .int .i64 n]) ∧ w' = w := by
  have hz : (0 : Int) < (s.size : Int) := by omega
  have hL := fun w => e_letter ((s[0]'h0).toNat : Int) w
  have hD := fun w => e_digit ((s[0]'h0).toNat : Int) w
  rw [hl] at hL; rw [hd] at hD
  have HL := Lib.hid hL; have HD := Lib.hid hD; have HSP := Lib.hid hsp
  clear hL hD hsp hl hd
  go_enter Tryz.func51, Tryz.ntmps51
  go_wp2_with fail
  refine (HL.out _).mono ?_
  rintro e w' ⟨rfl, rfl⟩
  go_wp2_with fail
  refine (HD.out _).mono ?_
  rintro e w' ⟨rfl, rfl⟩
  go_wp2_with fail
  refine (HSP.out _).mono ?_
  rintro e w' ⟨rfl, rfl⟩
  go_wp2_with fail
  go_ret2
  exact ⟨rfl, rfl⟩
theorem e_firstB (s : ByteArray) (h0 : 0 < s.size) (n : Int) (hl : (decide ((97 : Int) ≤ ((s[0]'h0).toNat : Int)) && decide (((s[0]'h0).toNat : Int) ≤ 122)) = false) (hd : (decide ((48 : Int) ≤ ((s[0]'h0).toNat : Int)) && decide (((s[0]'h0).toNat : Int) ≤ 57)) = false) (hb : (((s[0]'h0).toNat : Int) == 32 || ((s[0]'h0).toNat : Int) == 9 || ((s[0]'h0).toNat : Int) == 13 || ((s[0]'h0).toNat : Int) == 10) = true) (hsp : ∀ w, Calls Tryz.prog 85 #[.string s, .func (.func 88) #[] #[]] w fun e w' => e = .returned (.int .i64 n) ∧ w' = w) (w : World) :
    Calls Tryz.prog 51 #[.string s] w fun e w' => e = .returned (.tuple #[.int .u8 4, .int .i64 n]) ∧ w' = w := by
  have hz : (0 : Int) < (s.size : Int) := by omega
  have hL := fun w => e_letter ((s[0]'h0).toNat : Int) w
  have hD := fun w => e_digit ((s[0]'h0).toNat : Int) w
  have hB := fun w => e_blankX ((s[0]'h0).toNat : Int) w
  rw [hl] at hL; rw [hd] at hD; rw [hb] at hB
  have HL := Lib.hid hL; have HD := Lib.hid hD; have HB := Lib.hid hB; have HSP := Lib.hid hsp
  clear hL hD hB hsp hl hd hb
  go_enter Tryz.func51, Tryz.ntmps51
  go_wp2_with fail
  refine (HL.out _).mono ?_
  rintro e w' ⟨rfl, rfl⟩
  go_wp2_with fail
  refine (HD.out _).mono ?_
  rintro e w' ⟨rfl, rfl⟩
  go_wp2_with fail
  refine (HB.out _).mono ?_
  rintro e w' ⟨rfl, rfl⟩
  go_wp2_with fail
  refine (HSP.out _).mono ?_
  rintro e w' ⟨rfl, rfl⟩
  go_wp2_with fail
  go_ret2
  exact ⟨rfl, rfl⟩
theorem e_firstS (s : ByteArray) (h0 : 0 < s.size) (n : Int) (hl : (decide ((97 : Int) ≤ ((s[0]'h0).toNat : Int)) && decide (((s[0]'h0).toNat : Int) ≤ 122)) = false) (hd : (decide ((48 : Int) ≤ ((s[0]'h0).toNat : Int)) && decide (((s[0]'h0).toNat : Int) ≤ 57)) = false) (hb : (((s[0]'h0).toNat : Int) == 32 || ((s[0]'h0).toNat : Int) == 9 || ((s[0]'h0).toNat : Int) == 13 || ((s[0]'h0).toNat : Int) == 10) = false) (hh : (((s[0]'h0).toNat : Int) == 35) = false) (hsg : ∀ w, Calls Tryz.prog 90 #[.string s] w fun e w' => e = .returned (.int .i64 n) ∧ w' = w) (w : World) :
    Calls Tryz.prog 51 #[.string s] w fun e w' => e = .returned (.tuple #[.int .u8 3, .int .i64 n]) ∧ w' = w := by
  have hz : (0 : Int) < (s.size : Int) := by omega
  have hL := fun w => e_letter ((s[0]'h0).toNat : Int) w
  have hD := fun w => e_digit ((s[0]'h0).toNat : Int) w
  have hB := fun w => e_blankX ((s[0]'h0).toNat : Int) w
  rw [hl] at hL; rw [hd] at hD; rw [hb] at hB
  have HL := Lib.hid hL; have HD := Lib.hid hD; have HB := Lib.hid hB; have HSG := Lib.hid hsg
  clear hL hD hB hsg hl hd hb
  go_enter Tryz.func51, Tryz.ntmps51
  go_wp2_with fail
  refine (HL.out _).mono ?_
  rintro e w' ⟨rfl, rfl⟩
  go_wp2_with fail
  refine (HD.out _).mono ?_
  rintro e w' ⟨rfl, rfl⟩
  go_wp2_with fail
  refine (HB.out _).mono ?_
  rintro e w' ⟨rfl, rfl⟩
  go_wp2_with fail
  refine (HSG.out _).mono ?_
  rintro e w' ⟨rfl, rfl⟩
  go_wp2_with fail
  go_ret2
  exact ⟨rfl, rfl⟩
end
end Go.Proofs.YtakfdnnlhjhcfaaGreatDoor
