/- WhKi WhKd. -/
import Derived.Test.YtakfdnnlhjhcfaaGreatDoorM39
set_option linter.unusedVariables false
set_option linter.unusedSimpArgs false
set_option linter.unusedSimpArgs false
set_option maxRecDepth 100000
set_option maxHeartbeats 4000000
namespace Bk
open Go Go.RowKit
def tokC (l : List (Int × ByteArray × Int)) : List Value := l.flatMap fun t => [.int .u8 t.1, .string t.2.1, .int .i64 t.2.2]
theorem tokC_app (l : List (Int × ByteArray × Int)) (t : Int × ByteArray × Int) : tokC (l ++ [t]) = tokC l ++ [.int .u8 t.1, .string t.2.1, .int .i64 t.2.2] := by simp [tokC]
theorem tokC_get (l : List (Int × ByteArray × Int)) : ∀ i t, l[i]? = some t → (tokC l)[i * 3]? = some (.int .u8 t.1) ∧ (tokC l)[i * 3 + 1]? = some (.string t.2.1) ∧ (tokC l)[i * 3 + 2]? = some (.int .i64 t.2.2) := by
  induction l with
  | nil => intro i t h; simp at h
  | cons a l ih =>
    intro i t h
    cases i with
    | zero => simp at h; subst h; exact ⟨rfl, rfl, rfl⟩
    | succ i =>
      have h' : l[i]? = some t := by simpa using h
      obtain ⟨h1, h2, h3⟩ := ih i t h'
      have e : tokC (a :: l) = [.int .u8 a.1, .string a.2.1, .int .i64 a.2.2] ++ tokC l := by simp [tokC]
      refine ⟨?_, ?_, ?_⟩
      · rw [e, show (i + 1) * 3 = i * 3 + 3 by omega]; simpa using h1
      · rw [e, show (i + 1) * 3 + 1 = i * 3 + 1 + 3 by omega]; simpa using h2
      · rw [e, show (i + 1) * 3 + 2 = i * 3 + 2 + 3 by omega]; simpa using h3
end Bk
namespace Go.Proofs.YtakfdnnlhjhcfaaGreatDoor
section
open Go.RowKit Bk
theorem info_tokA : (Tryz.prog.info? 142).map (fun i => (i.zero, i.size, i.bytes)) = some (some (.agg #[.int .u8 0, .string ⟨#[]⟩, .int .i64 0]), 3, 32) := by kernel_rfl
theorem e_Lex (s : ByteArray) (hs : s.size ≤ 1000) (m : Nat) (hm : m ≤ 1000) (ps sz : Nat → Nat) (kd : Nat → Int) (h0 : ps 0 = 0) (he : ps m = s.size) (hst : ∀ j, j < m → ps j + sz j = ps (j + 1) ∧ 1 ≤ sz j ∧ ps (j + 1) ≤ s.size)
    (hf : ∀ j, j < m → ∀ w, Calls Tryz.prog 51 #[.string (s.extract (ps j) s.size)] w fun e w' => e = .returned (.tuple #[.int .u8 (kd j), .int .i64 (sz j)]) ∧ w' = w) (w : World) :
    Calls Tryz.prog 71 #[.string s] w fun e w' => (∃ v, e = .returned (.tuple #[v, .int .i64 0, .int .i64 0]) ∧ w'.ownsRow w.heap.size 142 3 v m (tokC ((List.range m).map fun i => (kd i, s.extract (ps i) (ps i + sz i), (ps i : Int))))) ∧ Below w.heap.size w w' := by
  obtain ⟨tk, htk⟩ : ∃ tk : Nat → List (Int × ByteArray × Int), ∀ j, tk j = (List.range j).map fun i => (kd i, s.extract (ps i) (ps i + sz i), (ps i : Int)) := ⟨_, fun j => rfl⟩
  rw [← htk]
  have HT0 : Hid (tk 0 = []) := Lib.hid (by rw [htk]; rfl)
  have HTS : Hid (∀ j, tk (j + 1) = tk j ++ [(kd j, s.extract (ps j) (ps j + sz j), (ps j : Int))]) := Lib.hid fun j => by rw [htk, htk, List.range_succ]; simp
  have HST := Lib.hid hst; have HFI := Lib.hid hf; have HE := Lib.hid he; have HP0 := Lib.hid h0
  have HPB : Hid (∀ j, j ≤ m → j < m → ps j < s.size) := Lib.hid fun j _ h => by have := hst j h; omega
  obtain ⟨i3, li, lz, ls, lb⟩ := info_parts info_tokA
  have HI := Lib.hid li; have HZ := Lib.hid lz; have HSZ := Lib.hid ls; have HBY := Lib.hid lb
  clear htk hst hf he h0 li lz ls lb
  have hsi : (s.size : Int) ≤ 65536 := by omega
  go_enter Tryz.func71, Tryz.ntmps71
  go_upto_region 5 with fail
  go_loopw [5, 6] (fun v5 v6 wr => ∃ (j : Nat) , j ≤ m ∧ v6 = .int .i64 (ps j) ∧ wr.ownsRow w.heap.size 142 3 v5 j (tokC (tk j)) ∧ Below w.heap.size w wr) (fun _ v _ => s.size - (intOf v).toNat)
  case atStart => exact ⟨0, Nat.zero_le _, by rw [HP0.out]; rfl, by rw [HT0.out]; exact World.ownsRow_nil _ _ _ _, Below.refl _ _⟩
  case round =>
    obtain ⟨j, hj, rfl, hown, hbr⟩ := hrel
    have HO := Lib.hid hown; have HBR := Lib.hid hbr
    obtain ⟨At, ct, rfl⟩ := own_form hown
    clear hown hbr
    have hzr := HBR.out.size
    rcases Nat.lt_or_ge j m with hjm | hjm
    · obtain ⟨q1, q2, q3⟩ := HST.out j hjm
      have HFJ := Lib.hid (HFI.out j hjm)
      have HTJ := Lib.hid (HTS.out j)
      obtain ⟨pj, hpj⟩ : ∃ p, ps j = p := ⟨_, rfl⟩
      obtain ⟨sj, hsj⟩ : ∃ p, sz j = p := ⟨_, rfl⟩
      obtain ⟨kj, hkj⟩ : ∃ p, kd j = p := ⟨_, rfl⟩
      rw [hpj, hsj] at q1; rw [hsj] at q2
      rw [hpj, hsj, hkj] at HFJ HTJ
      rw [hpj]
      have HQ1 := Lib.hid q1
      rw [← q1] at q3
      clear q1 hpj hsj hkj
      have a0 : (0 : Int) ≤ (pj : Int) := by omega
      have a1 : (pj : Int) ≤ (s.size : Int) := by omega
      have a2 : (pj : Int) < (s.size : Int) := by omega
      have a3 : (pj : Int) + (sj : Int) ≤ (s.size : Int) := by omega
      have a4 : ((sj : Int) == 0) = false := by simp; omega
      have a5 : (pj : Int) ≤ (pj : Int) + (sj : Int) := by omega
      go_wp2_with fail
      refine (HFJ.out _).mono ?_
      rintro e w' ⟨rfl, rfl⟩
      go_wp2_with (at_builtin; refine wpList_appS rfl (.tmp 26) (.tmp 36) 99 rfl w.heap.size 142 i3 _ 3 32 Tryz.underlying99 HI.out HZ.out HSZ.out HBY.out rfl (by decide) (.slice At j ct) j (tokC (tk j)) rfl (HO.out.alloc _) rfl (sl_blk3 (Blk.new _ _ _)) (by intro u hu; simp at hu; rcases hu with rfl | rfl | rfl <;> rfl) (by unfold maxLen; omega) (by omega) (by simp; omega) ?_)
      intro v2 w2 hown hgr hat
      have HOW := Lib.hid hown
      have hb2 : Below w.heap.size w w2 := (HBR.out.alloc hzr _).grown hgr (by simp; omega) (by intro k hk; exact (own_gE HO.out hk).1)
      have HB2 := Lib.hid hb2
      clear hown hgr hat hb2
      go_wp2_with fail
      refine ⟨⟨j + 1, by omega, ?_, ?_, HB2.out⟩, ?_⟩
      · rw [← HQ1.out]; go_num
      · rw [HTJ.out, tokC_app]; exact HOW.out
      · simp [intOf]; omega
    · obtain rfl : m = j := by omega
      have hee : ps m = s.size := HE.out
      rw [hee]
      go_wp2_with fail
      go_ret3
      exact ⟨⟨_, rfl, HO.out⟩, HBR.out⟩
def solidB (t : Int × ByteArray × Int) : Bool := t.1 != 4 && t.1 != 5
theorem e_Solid {w : World} {v : Value} {n : Nat} (l : List (Int × ByteArray × Int)) (hl : l.length = n) (hn : n ≤ 1000) (hv : Sl w (fun k => k < w.heap.size) 3 v n (tokC l)) :
    Calls Tryz.prog 72 #[v] w fun e w' => (∃ v', e = .returned v' ∧ w'.ownsRow w.heap.size 142 3 v' (l.filter solidB).length (tokC (l.filter solidB))) ∧ Below w.heap.size w w' := by
  obtain ⟨A, cap, rfl, hcap, hA, hR⟩ := hv
  have HR := Lib.hid hR; have HL := Lib.hid hl
  obtain ⟨fl, hfl⟩ : ∃ f : Nat → List (Int × ByteArray × Int), ∀ j, f j = (l.take j).filter solidB := ⟨_, fun _ => rfl⟩
  have HF0 : Hid (fl 0 = []) := Lib.hid (by rw [hfl]; rfl)
  have HFS : Hid (∀ j t, l[j]? = some t → fl (j + 1) = if solidB t then fl j ++ [t] else fl j) := Lib.hid fun j t ht => by
    rw [hfl, hfl]
    obtain ⟨h1, h2⟩ := List.getElem?_eq_some_iff.1 ht
    rw [List.take_succ_eq_append_getElem h1, List.filter_append, h2]
    cases hb : solidB t <;> simp [hb]
  have HFN : Hid (fl n = l.filter solidB) := Lib.hid (by rw [hfl, ← hl, List.take_length])
  have HFB : Hid (∀ j, (fl j).length ≤ n) := Lib.hid fun j => by rw [hfl]; have := List.length_filter_le solidB (l.take j); have := List.length_take_le' j l; omega
  obtain ⟨i3, li, lz, ls, lb⟩ := info_parts info_tokA
  have HI := Lib.hid li; have HZ := Lib.hid lz; have HSZ := Lib.hid ls; have HBY := Lib.hid lb
  have HPOST := HFN.out
  rw [← HPOST]
  clear HPOST hfl hR li lz ls lb hl hA
  go_enter Tryz.func72, Tryz.ntmps72
  go_upto_region 3 with fail
  go_loopw [3, 8] (fun v3 v8 wr => ∃ (j : Nat), j ≤ n ∧ v8 = .int .i64 j ∧ wr.ownsRow w.heap.size 142 3 v3 (fl j).length (tokC (fl j)) ∧ Below w.heap.size w wr) (fun _ v _ => n - (intOf v).toNat)
  case atStart => exact ⟨0, Nat.zero_le _, rfl, by rw [HF0.out]; exact World.ownsRow_nil _ _ _ _, Below.refl _ _⟩
  case round =>
    obtain ⟨j, hj, rfl, hown, hbr⟩ := hrel
    obtain ⟨nf, hnf⟩ : ∃ q, (fl j).length = q := ⟨_, rfl⟩
    rw [hnf] at hown
    have HNF := Lib.hid hnf
    clear hnf
    have HO := Lib.hid hown; have HBR := Lib.hid hbr
    obtain ⟨At, ct, rfl⟩ := own_form hown
    clear hown hbr
    have hzr := HBR.out.size
    by_cases hjn : j < n
    · obtain ⟨t, htj⟩ : ∃ t, l[j]? = some t := ⟨_, List.getElem?_eq_getElem (by have := HL.out; omega)⟩
      obtain ⟨g, o, rfl, hg, hc⟩ := HR.out.2 (by omega)
      obtain ⟨p0, p1, p2⟩ := tokC_get l j t htj
      have HFJ := Lib.hid (HFS.out j t htj)
      obtain ⟨k, s, p⟩ := t
      dsimp only at *
      have d0 := (HBR.out.cell (p := ⟨g, o + j * 3, none⟩) hg).trans (hc _ _ p0)
      have d1 := (HBR.out.cell (p := ⟨g, o + j * 3 + 1, none⟩) hg).trans (hc _ _ p1)
      have d2 := (HBR.out.cell (p := ⟨g, o + j * 3 + 2, none⟩) hg).trans (hc _ _ p2)
      have j0 : (0 : Int) ≤ (j : Int) := by omega
      have j1 : (j : Int) < (n : Int) := by omega
      obtain ⟨q4, hq4⟩ : ∃ q, (k != 4) = q := ⟨_, rfl⟩
      obtain ⟨q5, hq5⟩ : ∃ q, (k != 5) = q := ⟨_, rfl⟩
      have HSB : Hid (solidB (k, s, p) = (q4 && q5)) := Lib.hid (by unfold solidB; rw [← hq4, ← hq5])
      have HLB := Lib.hid (HFB.out j)
      have hnfb := HLB.out
      rw [HNF.out] at hnfb
      clear p0 p1 p2 htj
      go_upto_region 5 with fail
      refine wp_nameE ?_
      intro w2 hw2
      have hb2 : Below wr.heap.size wr w2 := by rw [hw2]; exact (by go_grown)
      have K2 : Blk w2 wr.heap.size 142 #[.int .u8 k, .string s, .int .i64 p] := by rw [hw2]; exact blkA
      have HO2 := Lib.hid (own_below HO.out hb2 (Nat.le_refl _))
      have HB2 := Lib.hid (HBR.out.next hb2)
      have hz2 : w.heap.size ≤ w2.heap.size := HB2.out.size
      clear hw2 hb2 d0 d1 d2 HO
      obtain ⟨z_2, T_2, F_2⟩ := K2.open_
      clear K2
      cases q4
      · go_wp2_with fail
        exact ⟨⟨j + 1, by omega, by go_num, by rw [HFJ.out, HSB.out]; simpa [HNF.out] using HO2.out, HB2.out⟩, by simp [intOf]; omega⟩
      cases q5
      · go_wp2_with fail
        exact ⟨⟨j + 1, by omega, by go_num, by rw [HFJ.out, HSB.out]; simpa [HNF.out] using HO2.out, HB2.out⟩, by simp [intOf]; omega⟩
      · go_wp2_with (at_builtin; refine wpList_appS rfl (.tmp 20) (.tmp 22) 99 rfl w.heap.size 142 i3 _ 3 32 Tryz.underlying99 HI.out HZ.out HSZ.out HBY.out rfl (by decide) (.slice At nf ct) nf (tokC (fl j)) rfl (HO2.out.alloc _) rfl (sl_blk3 (Blk.new _ _ _)) (by intro u hu; simp at hu; rcases hu with rfl | rfl | rfl <;> rfl) (by unfold maxLen; omega) (by omega) (by simp; omega) ?_)
        intro v2 w3 hown hgr hat
        have HOW := Lib.hid hown
        have hb3 : Below w.heap.size w w3 := (HB2.out.alloc hz2 _).grown hgr (by simp; omega) (by intro k hk; exact (own_gE HO2.out hk).1)
        have HB3 := Lib.hid hb3
        clear hown hgr hat hb3
        go_wp2_with fail
        refine ⟨⟨j + 1, by omega, by go_num, ?_, HB3.out⟩, by simp [intOf]; omega⟩
        rw [HFJ.out, HSB.out, Bool.and_self, if_pos rfl, tokC_app, List.length_append, HNF.out]
        exact HOW.out
    · obtain rfl : n = j := by omega
      go_wp2_with fail
      go_ret
      exact ⟨⟨_, rfl, by rw [HNF.out]; exact HO.out⟩, HBR.out⟩
end
section
open Go.RowKit Bk
theorem e_sizeN {w : World} {B : Nat} (hBw : B ≤ w.heap.size) (x : Nd) (s : Nat → Nat) (hkid : ∀ i, i < x.n → ∃ y, Kid w B x i y ∧ ∀ W, Below B w W → Calls Tryz.prog 150 #[.agg #[.int .u8 y.k, .int .i64 y.num, .string y.nm, .slice y.A y.n y.cap]] W fun en w'' => en = .returned (.int .i64 (s i : Int)) ∧ Below W.heap.size W w'')
    (hs : sumTo s x.n ≤ 17592186043904) (hn : x.n ≤ 17592186043904) (w' : World) (hb : Below B w w') : Calls Tryz.prog 150 #[.agg #[.int .u8 x.k, .int .i64 x.num, .string x.nm, .slice x.A x.n x.cap]] w' fun en w'' => en = .returned (.int .i64 ((sumTo s x.n + 1 : Nat) : Int)) ∧ Below w'.heap.size w' w'' := by
  have HK := Lib.hid hkid; have HB := Lib.hid hb
  have hBw' : B ≤ w'.heap.size := by have := hb.size; omega
  obtain ⟨z, hz⟩ : ∃ z, sumTo s x.n = z := ⟨_, rfl⟩
  rw [hz] at hs ⊢
  have HZ := Lib.hid hz
  obtain ⟨k, num, nm, A, n, cap⟩ := x
  clear hkid hb hz
  dsimp only at *
  go_enter Tryz.func150, Tryz.ntmps150
  go_upto_region 1 with fail
  refine wp_nameE ?_
  intro w1 hw1
  have hB1 : Below w'.heap.size w' w1 := by rw [hw1]; exact (by go_grown)
  have K1 : Blk w1 w'.heap.size 26 #[.int .u8 k, .int .i64 num, .string nm, .slice A n cap] := by rw [hw1]; exact blkA
  clear hw1
  obtain ⟨z_1, T_1, F_1⟩ := K1.open_
  go_wp2_with fail
  clear T_1 z_1 F_1 K1
  go_loopw [3, 9] (fun v3 v9 wr => ∃ j : Nat, j ≤ n ∧ v9 = .int .i64 j ∧ v3 = .int .i64 ((sumTo s j + 1 : Nat) : Int) ∧ sumTo s j ≤ z ∧ Below w1.heap.size w1 wr) (fun _ v _ => n - (intOf v).toNat)
  case atStart => exact ⟨0, Nat.zero_le _, rfl, rfl, Nat.zero_le _, Below.refl _ _⟩
  case round =>
    obtain ⟨j, hj, rfl, rfl, hdj, hbr⟩ := hrel
    have hBr : Below w'.heap.size w' wr := hB1.next hbr
    have HBR := Lib.hid hBr; have HBX := Lib.hid hbr
    clear hbr
    by_cases hjn : j < n
    · obtain ⟨y, hky, hvy⟩ := HK.out j hjn
      obtain ⟨g, o, hA2, hgB, c0, c1, c2, c3⟩ := hky.cells (HB.out.trans (hBr.mono hBw'))
      simp only at hA2
      subst hA2
      have HVY := Lib.hid hvy
      have hle : sumTo s (j + 1) ≤ z := by rw [← HZ.out]; exact sumTo_le (show j + 1 ≤ n from hjn)
      have hsj : sumTo s (j + 1) = sumTo s j + s j := rfl
      have j0 : (0 : Int) ≤ (j : Int) := by omega
      have j1 : (j : Int) < (n : Int) := by omega
      obtain ⟨s0, hs0⟩ : ∃ s0, sumTo s j = s0 := ⟨_, rfl⟩
      obtain ⟨sj, hsj2⟩ : ∃ q, s j = q := ⟨_, rfl⟩
      rw [hs0, hsj2] at hsj
      rw [hs0] at hdj ⊢
      rw [hsj2] at HVY
      rw [hsj] at hle
      have HSJ := Lib.hid hsj
      clear hky hvy hsj hs0 hsj2 hBr
      go_upto_region 5 with fail
      refine wp_nameE ?_
      intro w2 hw2
      have hb2 : Below wr.heap.size wr w2 := by rw [hw2]; exact (by go_grown)
      have K2 : Blk w2 wr.heap.size 26 #[.int .u8 y.k, .int .i64 y.num, .string y.nm, .slice y.A y.n y.cap] := by rw [hw2]; exact blkA
      have HB2 := Lib.hid (HBR.out.next hb2); have HX2 := Lib.hid (HBX.out.next hb2)
      clear hw2 c0 c1 c2 c3 hb2
      obtain ⟨z_2, T_2, F_2⟩ := K2.open_
      clear K2
      go_wp2_with fail
      refine (HVY.out _ (HB.out.trans (HB2.out.mono hBw'))).mono ?_
      rintro en w3 ⟨rfl, hb3⟩
      have HX3 := Lib.hid (HX2.out.next hb3)
      clear T_2 z_2 F_2 hb3
      go_wp2_with fail
      exact ⟨⟨j + 1, by omega, by go_num, by rw [HSJ.out]; go_num, by rw [HSJ.out]; omega, HX3.out⟩, by simp [intOf]; omega⟩
    · obtain rfl : n = j := by omega
      have hz := HZ.out
      rw [hz] at *
      go_wp2_with fail
      go_ret
      exact ⟨by go_num, HBR.out⟩
theorem e_depthN {w : World} {B : Nat} (hBw : B ≤ w.heap.size) (x : Nd) (s : Nat → Nat) (hkid : ∀ i, i < x.n → ∃ y, Kid w B x i y ∧ ∀ W, Below B w W → Calls Tryz.prog 149 #[.agg #[.int .u8 y.k, .int .i64 y.num, .string y.nm, .slice y.A y.n y.cap]] W fun en w'' => en = .returned (.int .i64 (s i : Int)) ∧ Below W.heap.size W w'')
    (hs : maxTo s x.n ≤ 17592186043904) (hn : x.n ≤ 17592186043904) (w' : World) (hb : Below B w w') : Calls Tryz.prog 149 #[.agg #[.int .u8 x.k, .int .i64 x.num, .string x.nm, .slice x.A x.n x.cap]] w' fun en w'' => en = .returned (.int .i64 ((maxTo s x.n + 1 : Nat) : Int)) ∧ Below w'.heap.size w' w'' := by
  have HK := Lib.hid hkid; have HB := Lib.hid hb
  have hBw' : B ≤ w'.heap.size := by have := hb.size; omega
  obtain ⟨z, hz⟩ : ∃ z, maxTo s x.n = z := ⟨_, rfl⟩
  rw [hz] at hs ⊢
  have HZ := Lib.hid hz
  obtain ⟨k, num, nm, A, n, cap⟩ := x
  clear hkid hb hz
  dsimp only at *
  go_enter Tryz.func149, Tryz.ntmps149
  go_upto_region 1 with fail
  refine wp_nameE ?_
  intro w1 hw1
  have hB1 : Below w'.heap.size w' w1 := by rw [hw1]; exact (by go_grown)
  have K1 : Blk w1 w'.heap.size 26 #[.int .u8 k, .int .i64 num, .string nm, .slice A n cap] := by rw [hw1]; exact blkA
  clear hw1
  obtain ⟨z_1, T_1, F_1⟩ := K1.open_
  go_wp2_with fail
  clear T_1 z_1 F_1 K1
  go_loopw [3, 9] (fun v3 v9 wr => ∃ j : Nat, j ≤ n ∧ v9 = .int .i64 j ∧ v3 = .int .i64 ((maxTo s j + 0 : Nat) : Int) ∧ maxTo s j ≤ z ∧ Below w1.heap.size w1 wr) (fun _ v _ => n - (intOf v).toNat)
  case atStart => exact ⟨0, Nat.zero_le _, rfl, rfl, Nat.zero_le _, Below.refl _ _⟩
  case round =>
    obtain ⟨j, hj, rfl, rfl, hdj, hbr⟩ := hrel
    have hBr : Below w'.heap.size w' wr := hB1.next hbr
    have HBR := Lib.hid hBr; have HBX := Lib.hid hbr
    clear hbr
    by_cases hjn : j < n
    · obtain ⟨y, hky, hvy⟩ := HK.out j hjn
      obtain ⟨g, o, hA2, hgB, c0, c1, c2, c3⟩ := hky.cells (HB.out.trans (hBr.mono hBw'))
      simp only at hA2
      subst hA2
      have HVY := Lib.hid hvy
      have hle : maxTo s (j + 1) ≤ z := by rw [← HZ.out]; exact maxTo_le (show j + 1 ≤ n from hjn)
      have hsj : maxTo s (j + 1) = max (maxTo s j) (s j) := rfl
      have j0 : (0 : Int) ≤ (j : Int) := by omega
      have j1 : (j : Int) < (n : Int) := by omega
      obtain ⟨s0, hs0⟩ : ∃ s0, maxTo s j = s0 := ⟨_, rfl⟩
      obtain ⟨sj, hsj2⟩ : ∃ q, s j = q := ⟨_, rfl⟩
      rw [hs0, hsj2] at hsj
      rw [hs0] at hdj ⊢
      rw [hsj2] at HVY
      rw [hsj] at hle
      have HSJ := Lib.hid hsj
      clear hky hvy hsj hs0 hsj2 hBr
      go_upto_region 5 with fail
      refine wp_nameE ?_
      intro w2 hw2
      have hb2 : Below wr.heap.size wr w2 := by rw [hw2]; exact (by go_grown)
      have K2 : Blk w2 wr.heap.size 26 #[.int .u8 y.k, .int .i64 y.num, .string y.nm, .slice y.A y.n y.cap] := by rw [hw2]; exact blkA
      have HB2 := Lib.hid (HBR.out.next hb2); have HX2 := Lib.hid (HBX.out.next hb2)
      clear hw2 c0 c1 c2 c3 hb2
      obtain ⟨z_2, T_2, F_2⟩ := K2.open_
      clear K2
      go_wp2_with fail
      refine (HVY.out _ (HB.out.trans (HB2.out.mono hBw'))).mono ?_
      rintro en w3 ⟨rfl, hb3⟩
      have HX3 := Lib.hid (HX2.out.next hb3)
      clear T_2 z_2 F_2 hb3
      go_wp2_with fail
      exact ⟨⟨j + 1, by omega, by go_num, by rw [HSJ.out]; go_num, by rw [HSJ.out]; omega, HX3.out⟩, by simp [intOf]; omega⟩
    · obtain rfl : n = j := by omega
      have hz := HZ.out
      rw [hz] at *
      go_wp2_with fail
      go_ret
      exact ⟨by go_num, HBR.out⟩
end
end Go.Proofs.YtakfdnnlhjhcfaaGreatDoor
