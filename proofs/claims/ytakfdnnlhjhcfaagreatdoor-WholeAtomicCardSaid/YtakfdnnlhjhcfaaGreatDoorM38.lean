/- WhKa WhKb. -/
import Derived.Test.YtakfdnnlhjhcfaaGreatDoorZWhJd
import Derived.Lib.ConvBytes
set_option linter.unusedVariables false
set_option linter.unusedSimpArgs false
set_option linter.unusedSimpArgs false
set_option maxRecDepth 100000
set_option maxHeartbeats 4000000
namespace Bk
open Go Go.RowKit
structure PA (w : World) (b g n i c : Nat) (m : Value) (tk : List (Int × ByteArray × Int)) (E : Int) : Prop where
  blk : Blk w b 102 #[.slice (some ⟨g, 0, none⟩) n c, .int .i64 i, .int .i64 E, m, .int .i64 0, .int .i64 0]
  tok : ∀ j t, tk[j]? = some t → w.cell? ⟨g, j * 3, none⟩ = some (.int .u8 t.1) ∧ w.cell? ⟨g, j * 3 + 1, none⟩ = some (.string t.2.1) ∧ w.cell? ⟨g, j * 3 + 2, none⟩ = some (.int .i64 t.2.2)
  len : tk.length = n
  ne : g ≠ b ∧ g < w.heap.size ∧ n ≤ c ∧ n ≤ 1000
theorem PA.next {w : World} {b g n i c : Nat} {m : Value} {tk : List (Int × ByteArray × Int)} {E : Int} {w' : World} (h : PA w b g n i c m tk E) (hb : Below w.heap.size w w') : PA w' b g n i c m tk E :=
  ⟨h.blk.next hb, fun j t hj => by
    have hg := h.ne.2.1
    obtain ⟨h1, h2, h3⟩ := h.tok j t hj
    exact ⟨(hb.cell (p := ⟨g, j * 3, none⟩) hg).trans h1, (hb.cell (p := ⟨g, j * 3 + 1, none⟩) hg).trans h2, (hb.cell (p := ⟨g, j * 3 + 2, none⟩) hg).trans h3⟩, h.len, h.ne.1, Nat.lt_of_lt_of_le h.ne.2.1 hb.size, h.ne.2.2⟩
theorem PA.step {w : World} {b g n i c : Nat} {m : Value} {tk : List (Int × ByteArray × Int)} {E : Int} {w' : World} {k : Nat} (h : PA w b g n i c m tk E) (hf : Fr (· = b) w w') (hk : Blk w' b 102 #[.slice (some ⟨g, 0, none⟩) n c, .int .i64 k, .int .i64 E, m, .int .i64 0, .int .i64 0]) : PA w' b g n k c m tk E :=
  ⟨hk, fun j t hj => by
    obtain ⟨h1, h2, h3⟩ := h.tok j t hj
    exact ⟨(hf.cell h.ne.2.1 h.ne.1 _).trans h1, (hf.cell h.ne.2.1 h.ne.1 _).trans h2, (hf.cell h.ne.2.1 h.ne.1 _).trans h3⟩, h.len, h.ne.1, Nat.lt_of_lt_of_le h.ne.2.1 hf.size, h.ne.2.2⟩
end Bk
namespace Go.Proofs.YtakfdnnlhjhcfaaGreatDoor
open Go.RowKit Bk
theorem info_token : (Tryz.prog.info? 142).map (·.size) = some 3 := by kernel_rfl
theorem field_tok0 (k p : Int) (s : ByteArray) (w : World) : (Instr.field 142 (.agg #[.int .u8 k, .string s, .int .i64 p]) 0).run Tryz.prog w = .ok (.int .u8 k) w := by kernel_rfl
theorem field_tok1 (k p : Int) (s : ByteArray) (w : World) : (Instr.field 142 (.agg #[.int .u8 k, .string s, .int .i64 p]) 1).run Tryz.prog w = .ok (.string s) w := by kernel_rfl
theorem field_tok2 (k p : Int) (s : ByteArray) (w : World) : (Instr.field 142 (.agg #[.int .u8 k, .string s, .int .i64 p]) 2).run Tryz.prog w = .ok (.int .i64 p) w := by kernel_rfl
theorem e_peek {w : World} {b g n i c : Nat} {m : Value} {tk : List (Int × ByteArray × Int)} {E : Int} (h : PA w b g n i c m tk E) (t : Int × ByteArray × Int) (ht : tk[i]? = some t) :
    Calls Tryz.prog 77 #[.pointer (some ⟨b, 0, none⟩)] w fun e w' => e = .returned (.agg #[.int .u8 t.1, .string t.2.1, .int .i64 t.2.2]) ∧ Below w.heap.size w w' := by
  have H := Lib.hid h
  have hi : i < n := by have := h.len; have := (List.getElem?_eq_some_iff.1 ht).1; omega
  obtain ⟨t0, t1, t2⟩ := h.tok i t ht
  have HT0 := Lib.hid t0; have HT1 := Lib.hid t1; have HT2 := Lib.hid t2
  have hgs := h.ne.2.1; have hbs := h.blk.lt; have hne := h.ne.1
  have hin : ((i : Int) == (n : Int)) = false := by simp; omega
  have i0 : (0 : Int) ≤ (i : Int) := by omega
  have i1 : (i : Int) < (n : Int) := by omega
  obtain ⟨k, s, p⟩ := t
  dsimp only at *
  clear h ht t0 t1 t2
  go_enter Tryz.func77, Tryz.ntmps77
  go_upto_region 1 with fail
  refine wp_nameE ?_
  intro w1 hw1
  have hb1 : Below w.heap.size w w1 := by rw [hw1]; exact (by go_grown)
  have K1 : Blk w1 w.heap.size 142 #[.int .u8 0, .string ⟨#[]⟩, .int .i64 0] := by rw [hw1]; exact blkA
  have HK1 := Lib.hid K1; have HB1 := Lib.hid hb1
  have H1 := Lib.hid (H.out.next hb1)
  obtain ⟨z_b, T_b, F_b⟩ := H1.out.blk.open_
  clear hw1 hb1 K1
  go_quiet (fail)
  go_upto_region 3 with fail
  refine wp_nameE ?_
  intro w2 hw2
  have hb2 : Below w1.heap.size w1 w2 := by rw [hw2]; exact Bk.drewN_ (Below.refl _ _) _
  have HB2 := Lib.hid (HB1.out.next hb2)
  have H2 := Lib.hid (H1.out.next hb2)
  have HK2 := Lib.hid (HK1.out.next hb2)
  clear hw2 hb2 z_b T_b F_b
  obtain ⟨z_b, T_b, F_b⟩ := H2.out.blk.open_
  obtain ⟨z_k, T_k, F_k⟩ := HK2.out.open_
  have hs2 := HB2.out.size
  have d0 := (HB2.out.cell (p := ⟨g, i * 3, none⟩) hgs).trans HT0.out
  have d1 := (HB2.out.cell (p := ⟨g, i * 3 + 1, none⟩) hgs).trans HT1.out
  have d2 := (HB2.out.cell (p := ⟨g, i * 3 + 2, none⟩) hgs).trans HT2.out
  go_region
  go_wp2_with fail
  have K9 := ((HK2.out.set_ 0 (.int .u8 k)).set_ 1 (.string s)).set_ 2 (.int .i64 p)
  refine bodyPost_ret_by (results_cell_row rfl _ _ w.heap.size 142 #[.int .u8 k, .string s, .int .i64 p] _ _ rfl (show Blk _ w.heap.size 142 #[.int .u8 k, .string s, .int .i64 p] from Blk.drew (by simpa using K9)) Tryz.underlying142 rfl (by rw [info_token]; rfl)) rfl ?_
  exact ⟨rfl, Below.drew (((HB2.out.setCell (Nat.le_refl _) _).setCell (Nat.le_refl _) _).setCell (Nat.le_refl _) _)⟩
theorem e_accT {w : World} {b g n i c : Nat} {m : Value} {tk : List (Int × ByteArray × Int)} {E : Int} (h : PA w b g n i c m tk E) (t : Int × ByteArray × Int) (ht : tk[i]? = some t) :
    Calls Tryz.prog 112 #[.pointer (some ⟨b, 0, none⟩), .string t.2.1] w fun e w' => e = .returned (.bool true) ∧ PA w' b g n (i + 1) c m tk E ∧ Fr (· = b) w w' := by
  have H := Lib.hid h
  have hi : i < n := by have := h.len; have := (List.getElem?_eq_some_iff.1 ht).1; omega
  have hn := h.ne.2.2.2
  have HPK := Lib.hid (e_peek h t ht)
  obtain ⟨k, s, p⟩ := t
  dsimp only at *
  clear h ht
  have ft1 := field_tok1
  go_enter Tryz.func112, Tryz.ntmps112
  go_wp2_with fail
  refine HPK.out.mono ?_
  rintro en w1 ⟨rfl, hb1⟩
  have H1 := Lib.hid (H.out.next hb1)
  have HF1 := Lib.hid (Fr.of (O := (· = b)) hb1)
  obtain ⟨z_b, T_b, F_b⟩ := H1.out.blk.open_
  clear hb1 HPK
  go_wp2_with fail
  go_ret
  refine ⟨rfl, H1.out.step (Fr.set (Fr.refl (· = b) _) rfl _) ?_, Fr.set HF1.out rfl _⟩
  have K := H1.out.blk.set_ 1 (.int .i64 ((i + 1 : Nat) : Int))
  simpa using K
theorem e_accF {w : World} {b g n i c : Nat} {m : Value} {tk : List (Int × ByteArray × Int)} {E : Int} (h : PA w b g n i c m tk E) (t : Int × ByteArray × Int) (ht : tk[i]? = some t) (s : ByteArray) (hs : (t.2.1.toList == s.toList) = false) :
    Calls Tryz.prog 112 #[.pointer (some ⟨b, 0, none⟩), .string s] w fun e w' => e = .returned (.bool false) ∧ Below w.heap.size w w' := by
  have HPK := Lib.hid (e_peek h t ht)
  obtain ⟨k, s1, p⟩ := t
  dsimp only at *
  clear h ht
  have ft1 := field_tok1
  go_enter Tryz.func112, Tryz.ntmps112
  go_wp2_with fail
  refine HPK.out.mono ?_
  rintro en w1 ⟨rfl, hb1⟩
  have HB1 := Lib.hid hb1
  clear hb1 HPK
  go_wp2_with fail
  go_ret
  exact ⟨rfl, HB1.out⟩
theorem e_exp {w : World} {b g n i c : Nat} {m : Value} {tk : List (Int × ByteArray × Int)} {E : Int} (h : PA w b g n i c m tk E) (t : Int × ByteArray × Int) (ht : tk[i]? = some t) :
    Calls Tryz.prog 80 #[.pointer (some ⟨b, 0, none⟩), .string t.2.1] w fun e w' => e = .returned (.tuple #[]) ∧ PA w' b g n (i + 1) c m tk E ∧ Fr (· = b) w w' := by
  have HA := Lib.hid (e_accT h t ht)
  obtain ⟨k, s, p⟩ := t
  dsimp only at *
  clear h ht
  go_enter Tryz.func80, Tryz.ntmps80
  go_wp2_with fail
  refine HA.out.mono ?_
  rintro en w1 ⟨rfl, h1, hf1⟩
  have H1 := Lib.hid h1; have HF1 := Lib.hid hf1
  clear h1 hf1 HA
  go_wp2_with fail
  refine bodyPost_end (results_none rfl _ _ _) rfl ?_
  exact ⟨rfl, H1.out, HF1.out⟩
theorem e_pname {w : World} {b g n i c : Nat} {m : Value} {tk : List (Int × ByteArray × Int)} {E : Int} (h : PA w b g n i c m tk E) (t : Int × ByteArray × Int) (ht : tk[i]? = some t) (hn : nameB t.2.1 = true) :
    Calls Tryz.prog 113 #[.pointer (some ⟨b, 0, none⟩)] w fun e w' => e = .returned (.string t.2.1) ∧ PA w' b g n (i + 1) c m tk E ∧ Fr (· = b) w w' := by
  have H := Lib.hid h
  have hi : i < n := by have := h.len; have := (List.getElem?_eq_some_iff.1 ht).1; omega
  have hn1 := h.ne.2.2.2
  have HPK := Lib.hid (e_peek h t ht)
  obtain ⟨k, s, p⟩ := t
  dsimp only at *
  have HNM : Hid (∀ W, Calls Tryz.prog 27 #[.string s] W fun e w' => e = .returned (.bool true) ∧ Below W.heap.size W w') := Lib.hid fun W => by rw [← hn]; exact e_Name s W
  clear h ht hn
  go_enter Tryz.func113, Tryz.ntmps113
  go_wp2_with fail
  refine HPK.out.mono ?_
  rintro en w1 ⟨rfl, hb1⟩
  have HB1 := Lib.hid hb1
  have H1 := Lib.hid (H.out.next hb1)
  clear hb1 HPK
  go_upto_region 2 with fail
  refine wp_nameE ?_
  intro w2 hw2
  have hb2 : Below w1.heap.size w1 w2 := by rw [hw2]; exact (by go_grown)
  have K2 : Blk w2 w1.heap.size 142 #[.int .u8 k, .string s, .int .i64 p] := by rw [hw2]; exact blkA
  have HK2 := Lib.hid K2; have HB2 := Lib.hid (HB1.out.next hb2)
  have H2 := Lib.hid (H1.out.next hb2)
  obtain ⟨z_k, T_k, F_k⟩ := K2.open_
  clear hw2 hb2 K2
  go_wp2_with fail
  refine (HNM.out w2).mono ?_
  rintro en w3 ⟨rfl, hb3⟩
  have HB3 := Lib.hid (HB2.out.next hb3)
  have H3 := Lib.hid (H2.out.next hb3); have HK3 := Lib.hid (HK2.out.next hb3)
  have hne : w1.heap.size ≠ b := by have := H1.out.blk.lt; omega
  clear hb3 z_k T_k F_k
  obtain ⟨z_k, T_k, F_k⟩ := HK3.out.open_
  obtain ⟨z_b, T_b, F_b⟩ := H3.out.blk.open_
  go_wp2_with fail
  go_ret
  refine ⟨rfl, H3.out.step (Fr.set (Fr.refl (· = b) _) rfl _) ?_, Fr.set (Fr.of (O := (· = b)) HB3.out) rfl _⟩
  have K := H3.out.blk.set_ 1 (.int .i64 ((i + 1 : Nat) : Int))
  simpa using K
end Go.Proofs.YtakfdnnlhjhcfaaGreatDoor
namespace Bk
open Go Go.RowKit Go.MapKept
def tks : List (Int × ByteArray × Int) := [(1, ⟨#[105, 110, 116]⟩, 0), (1, ⟨#[120]⟩, 4), (1, ⟨#[109, 97, 105, 110]⟩, 6), (3, ⟨#[123]⟩, 11), (1, ⟨#[120]⟩, 13), (3, ⟨#[43, 61]⟩, 15), (2, ⟨#[51]⟩, 18), (3, ⟨#[59]⟩, 19), (3, ⟨#[125]⟩, 21)]
def MapB (w : World) (r : Nat) : Prop := ∃ es clock, w.heap[r]? = some (.map es clock) ∧ ∀ x ∈ es.toList, ∃ s, x.key = .string s ∧ s ≠ ⟨#[59]⟩
structure PT (w : World) (b g c r i : Nat) : Prop where
  pa : PA w b g 9 i c (.map (some r)) tks 23
  mp : MapB w r
  ne : r ≠ b ∧ r < w.heap.size
theorem MapB.keep {w w' : World} {r : Nat} (h : MapB w r) (e : w'.heap[r]? = w.heap[r]?) : MapB w' r := by
  obtain ⟨es, cl, h1, h2⟩ := h
  exact ⟨es, cl, e.trans h1, h2⟩
theorem PT.next {w w' : World} {b g c r i : Nat} (h : PT w b g c r i) (hb : Below w.heap.size w w') : PT w' b g c r i :=
  ⟨h.pa.next hb, h.mp.keep (hb.block r h.ne.2), h.ne.1, Nat.lt_of_lt_of_le h.ne.2 hb.size⟩
theorem PT.fr {w w' : World} {b g c r i k : Nat} (h : PT w b g c r i) (hf : Fr (· = b) w w') (hp : PA w' b g 9 k c (.map (some r)) tks 23) : PT w' b g c r k :=
  ⟨hp, h.mp.keep (hf.block r h.ne.2 h.ne.1), h.ne.1, Nat.lt_of_lt_of_le h.ne.2 hf.size⟩
theorem MapB.look {P : Program} {mty kt et : TypeId} {z : Value} {w : World} {r : Nat} (hm : P.underlying mty = some (.map kt et)) (hd : P.underlying kt = some .string) (hz : (zeroValue et).run P w = .ok z w) (h : MapB w r) :
    (Instr.lookup mty (.map (some r)) (.string ⟨#[59]⟩) true).run P w = .ok (.tuple #[z, .bool false]) w := by
  obtain ⟨es, clock, hb, hx⟩ := h
  have hks : ∀ x ∈ es.toList, IsKey .string x.key := fun x hm => by obtain ⟨s', e, _⟩ := hx x hm; rw [e]; trivial
  have hsk : IsKey .string (.string ⟨#[59]⟩) := trivial
  rcases findNow_spec hsk es.toList 0 hks with ⟨h1, h2⟩ | ⟨j, e, h1, h2, h3⟩
  · simp [Instr.lookup, run_underlying hm, run_getObj_map hb, run_checkKey hd hsk, run_findKey hd h1, hz, Result.andThen]
  · obtain ⟨s', e1, e2⟩ := hx e (List.mem_of_getElem? h2)
    rw [e1] at h3; injection h3 with h3
    exact absurd h3 e2
theorem PT.other {w w' : World} {b g c r i : Nat} {O : Nat → Prop} (h : PT w b g c r i) (hf : Fr O w w') (h1 : ¬ O b) (h2 : ¬ O g) (h3 : ¬ O r) : PT w' b g c r i :=
  ⟨⟨hf.blk h.pa.blk h1, fun j t hj => by
    obtain ⟨q1, q2, q3⟩ := h.pa.tok j t hj
    exact ⟨(hf.cell h.pa.ne.2.1 h2 _).trans q1, (hf.cell h.pa.ne.2.1 h2 _).trans q2, (hf.cell h.pa.ne.2.1 h2 _).trans q3⟩, h.pa.len, h.pa.ne.1, Nat.lt_of_lt_of_le h.pa.ne.2.1 hf.size, h.pa.ne.2.2⟩, h.mp.keep (hf.block r h.ne.2 h3), h.ne.1, Nat.lt_of_lt_of_le h.ne.2 hf.size⟩
theorem fr_new {O : Nat → Prop} {w w' : World} {a : Addr} (h : Fr O w w') (ha : w.heap.size ≤ a.block) (v : Value) : Fr O w (w'.setCell a v) := by
  have h1 : Fr (· = a.block) w' (w'.setCell a v) := Fr.set (Fr.refl (· = a.block) _) rfl _
  exact ⟨h1.os.trans h.os, h1.tape.trans h.tape, h1.output.trans h.output, Nat.le_trans h.size h1.size, fun k hk hO => (h1.block k (Nat.lt_of_lt_of_le hk h.size) (by omega)).trans (h.block k hk hO)⟩
theorem PT.fin {w w' : World} {b g c r i i0 k : Nat} (h0 : PT w b g c r i0) (h : PT w' b g c r i) (hf : Fr (· = b) w w') (hk : w.heap.size ≤ k) (v0 v1 v2 v3 : Value) :
    PT ((((w'.setCell ⟨k, 0, none⟩ v0).setCell ⟨k, 1, none⟩ v1).setCell ⟨k, 2, none⟩ v2).setCell ⟨k, 3, none⟩ v3) b g c r i ∧ Fr (· = b) w ((((w'.setCell ⟨k, 0, none⟩ v0).setCell ⟨k, 1, none⟩ v1).setCell ⟨k, 2, none⟩ v2).setCell ⟨k, 3, none⟩ v3) := by
  have hb := h0.pa.blk.lt; have hg := h0.pa.ne.2.1; have hr := h0.ne.2
  exact ⟨h.other (O := (· = k)) (Fr.set (Fr.set (Fr.set (Fr.set (Fr.refl (· = k) _) rfl _) rfl _) rfl _) rfl _) (by omega) (by omega) (by omega), fr_new (fr_new (fr_new (fr_new hf hk _) hk _) hk _) hk _⟩
end Bk
namespace Go.Proofs.YtakfdnnlhjhcfaaGreatDoor
open Go.RowKit Bk
theorem e_pnameX {w : World} {b g c r i : Nat} (h : PT w b g c r i) (p : Int) (ht : tks[i]? = some (1, ⟨#[120]⟩, p)) :
    Calls Tryz.prog 113 #[.pointer (some ⟨b, 0, none⟩)] w fun e w' => e = .returned (.string ⟨#[120]⟩) ∧ PT w' b g c r (i + 1) ∧ Fr (· = b) w w' :=
  (e_pname h.pa _ ht (by show nameB ⟨#[120]⟩ = true; decide +kernel)).mono fun e w' ⟨h1, h2, h3⟩ => ⟨h1, h.fr h3 h2, h3⟩
theorem e_accF' {w : World} {b g c r i : Nat} (h : PT w b g c r i) (t : Int × ByteArray × Int) (ht : tks[i]? = some t) (s : ByteArray) (hs : (t.2.1.toList == s.toList) = false) :
    Calls Tryz.prog 112 #[.pointer (some ⟨b, 0, none⟩), .string s] w fun e w' => e = .returned (.bool false) ∧ Below w.heap.size w w' := e_accF h.pa t ht s hs
theorem info_nodeP : (Tryz.prog.info? 26).map (·.size) = some 4 := by kernel_rfl
theorem e_place {w : World} {b g c r i : Nat} (h : PT w b g c r i) (p : Int) (ht : tks[i]? = some (1, ⟨#[120]⟩, p)) (t : Int × ByteArray × Int) (ht2 : tks[i + 1]? = some t) (hs : (t.2.1.toList == (⟨#[91]⟩ : ByteArray).toList) = false) :
    Calls Tryz.prog 185 #[.pointer (some ⟨b, 0, none⟩)] w fun e w' => e = .returned (.agg #[.int .u8 2, .int .i64 0, .string ⟨#[120]⟩, .slice none 0 0]) ∧ PT w' b g c r (i + 1) ∧ Fr (· = b) w w' := by
  have H := Lib.hid h
  have hbs := h.pa.blk.lt
  clear h
  go_enter Tryz.func185, Tryz.ntmps185
  go_upto_region 1 with fail
  refine wp_nameE ?_
  intro w1 hw1
  have hb1 : Below w.heap.size w w1 := by rw [hw1]; exact (by go_grown)
  have K1 : Blk w1 w.heap.size 26 #[.int .u8 0, .int .i64 0, .string ⟨#[]⟩, .slice none 0 0] := by rw [hw1]; exact blkA
  have HK1 := Lib.hid K1; have HF1 := Lib.hid (Fr.of (O := (· = b)) hb1)
  have H1 := Lib.hid (H.out.next hb1)
  clear hw1 hb1 K1
  go_wp2_with fail
  refine (e_pnameX H1.out p ht).mono ?_
  rintro en w2 ⟨rfl, h2, hf2⟩
  have H2 := Lib.hid h2; have HF2 := Lib.hid (HF1.out.trans hf2)
  have HK2 := Lib.hid (hf2.blk HK1.out (by omega))
  clear h2 hf2
  go_wp2_with fail
  refine (e_accF' H2.out t ht2 _ hs).mono ?_
  rintro en w3 ⟨rfl, hb3⟩
  have H3 := Lib.hid (H2.out.next hb3); have HF3 := Lib.hid (HF2.out.trans (Fr.of hb3))
  have HK3 := Lib.hid (HK2.out.next hb3)
  clear hb3
  obtain ⟨z_k, T_k, F_k⟩ := HK3.out.open_
  go_wp2_with fail
  have K9 := (((HK3.out.set_ 0 (.int .u8 2)).set_ 1 (.int .i64 0)).set_ 2 (.string ⟨#[120]⟩)).set_ 3 (.slice none 0 0)
  refine bodyPost_ret_by (results_cell_row rfl _ _ w.heap.size 26 #[.int .u8 2, .int .i64 0, .string ⟨#[120]⟩, .slice none 0 0] _ _ rfl (show Blk _ w.heap.size 26 #[.int .u8 2, .int .i64 0, .string ⟨#[120]⟩, .slice none 0 0] by simpa using K9) Tryz.underlying26 rfl (by rw [info_nodeP]; rfl)) rfl ?_
  exact ⟨rfl, H.out.fin H3.out HF3.out (Nat.le_refl _) _ _ _ _⟩
theorem below_bytes (w : World) (e : TypeId) (s : ByteArray) : Below w.heap.size w (Lib.bytesWorld w e s) :=
  ⟨rfl, rfl, rfl, by rw [Lib.bytesWorld_size]; omega, fun k hk => Lib.bytesWorld_at_old w e s k hk⟩
theorem c_atoi3 (w : World) : Calls Tryz.prog 165 #[.string ⟨#[51]⟩] w fun e w' => e = .returned (.tuple #[.int .i64 3, .nilIface]) ∧ Below w.heap.size w w' := by
  have hx : ((⟨#[51]⟩ : ByteArray)[0]'(by decide)).toNat = 51 := by decide
  have hcv : ∀ w : World, (convert 9 52 (.string ⟨#[51]⟩)).run Tryz.prog w = .ok (.slice (some ⟨w.heap.size, 0, none⟩) 1 (grownCap w 1 0 5)) (Lib.bytesWorld w 5 ⟨#[51]⟩) := fun w => Lib.run_convert_string_bytes w 9 52 5 ⟨#[51]⟩ Tryz.underlying9 Tryz.underlying52 Tryz.underlying5
  go_enter Tryz.func165, Tryz.ntmps165
  go_upto_region 10 with fail
  refine wp_nameE ?_
  intro w1 hw1
  have hb1 : Below w.heap.size w w1 := by rw [hw1]; exact below_bytes w _ _
  have d0 : w1.cell? ⟨w.heap.size, 0, none⟩ = some (.int .u8 51) := by rw [hw1]; exact Lib.bytesWorld_cell w _ _ 0 (by decide)
  have HB1 := Lib.hid hb1
  clear hw1 hb1 hcv
  go_loopw [6, 49] (fun v6 v49 wr => (v49 = .int .i64 0 ∧ v6 = .int .i64 0 ∨ v49 = .int .i64 1 ∧ v6 = .int .i64 3) ∧ w1 = wr) (fun _ v49 _ => 1 - (intOf v49).toNat)
  case atStart => exact ⟨.inl ⟨rfl, rfl⟩, rfl⟩
  case round =>
    obtain ⟨hv, rfl⟩ := hrel
    rcases hv with ⟨rfl, rfl⟩ | ⟨rfl, rfl⟩
    · go_wp2_with fail
      exact ⟨⟨.inr ⟨rfl, rfl⟩, trivial⟩, by simp [intOf]⟩
    · go_wp2_with fail
      go_ret2
      exact ⟨rfl, HB1.out⟩
theorem c_Atoi3 (w : World) : Calls Tryz.prog 147 #[.string ⟨#[51]⟩] w fun e w' => e = .returned (.tuple #[.int .i64 3, .nilIface]) ∧ Below w.heap.size w w' := by
  go_enter Tryz.func147, Tryz.ntmps147
  go_wp2_with fail
  refine (c_atoi3 _).mono ?_
  rintro en w1 ⟨rfl, hb1⟩
  have HB1 := Lib.hid hb1
  clear hb1
  go_wp2_with fail
  go_ret2
  exact ⟨rfl, HB1.out⟩
theorem e_number {w : World} {b g c r : Nat} (h : PT w b g c r 6) :
    Calls Tryz.prog 114 #[.pointer (some ⟨b, 0, none⟩), .int .i64 0, .int .i64 9223372036854775807] w fun e w' => e = .returned (.int .i64 3) ∧ PT w' b g c r 7 ∧ Fr (· = b) w w' := by
  have H := Lib.hid h
  have hbs := h.pa.blk.lt
  have HPK := Lib.hid (e_peek h.pa (2, ⟨#[51]⟩, 18) rfl)
  have ft0 := field_tok0
  clear h
  go_enter Tryz.func114, Tryz.ntmps114
  go_wp2_with fail
  refine HPK.out.mono ?_
  rintro en w1 ⟨rfl, hb1⟩
  have H1 := Lib.hid (H.out.next hb1); have HF1 := Lib.hid (Fr.of (O := (· = b)) hb1)
  clear hb1 HPK
  go_upto_region 2 with fail
  refine wp_nameE ?_
  intro w2 hw2
  have hb2 : Below w1.heap.size w1 w2 := by rw [hw2]; exact (by go_grown)
  have K2 : Blk w2 w1.heap.size 142 #[.int .u8 2, .string ⟨#[51]⟩, .int .i64 18] := by rw [hw2]; exact blkA
  have HK2 := Lib.hid K2
  have H2 := Lib.hid (H1.out.next hb2); have HF2 := Lib.hid (HF1.out.next hb2)
  have hne : w1.heap.size ≠ b := by have := H1.out.pa.blk.lt; omega
  clear hw2 hb2 K2
  obtain ⟨z_k, T_k, F_k⟩ := HK2.out.open_
  obtain ⟨z_b, T_b, F_b⟩ := H2.out.pa.blk.open_
  go_upto_region 6 with fail
  refine wp_nameE ?_
  intro w3 hw3
  have hf3 : Fr (· = b) w2 w3 := by rw [hw3]; exact Fr.set (Fr.refl (· = b) _) rfl _
  have hp3 : PA w3 b g 9 7 c (.map (some r)) tks 23 := H2.out.pa.step hf3 (by rw [hw3]; simpa using H2.out.pa.blk.set_ 1 (.int .i64 7))
  have H3 := Lib.hid (H2.out.fr hf3 hp3); have HF3 := Lib.hid (HF2.out.trans hf3)
  have HK3 := Lib.hid (hf3.blk HK2.out hne)
  clear hw3 hf3 hp3 z_k T_k F_k z_b T_b F_b
  obtain ⟨z_k, T_k, F_k⟩ := HK3.out.open_
  go_wp2_with fail
  refine (c_Atoi3 w3).mono ?_
  rintro en w4 ⟨rfl, hb4⟩
  have H4 := Lib.hid (H3.out.next hb4); have HF4 := Lib.hid (HF3.out.next hb4)
  clear hb4 z_k T_k F_k
  go_wp2_with fail
  go_ret
  exact ⟨rfl, H4.out, HF4.out⟩
end Go.Proofs.YtakfdnnlhjhcfaaGreatDoor
