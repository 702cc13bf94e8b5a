/- The encoding of a state. -/
import Derived.Test.YtakfdnnlhjhcfaaGreatDoorM37
set_option linter.unusedVariables false
set_option linter.unusedSimpArgs false
set_option maxRecDepth 100000
set_option maxHeartbeats 4000000
namespace Go.Proofs.YtakfdnnlhjhcfaaGreatDoor
def tByte : TypeId := 5
end Go.Proofs.YtakfdnnlhjhcfaaGreatDoor
namespace Bk
open Go Go.RowKit
def bysTo (x : Int) (s : Nat) : Nat → List Value
  | 0 => []
  | j + 1 => bysTo x s j ++ [.int .u8 (x / 2 ^ (8 * (s - 1 - j)) % 256)]
theorem bysTo_len (x : Int) (s : Nat) : ∀ j, (bysTo x s j).length = j
  | 0 => rfl
  | j + 1 => by simp [bysTo, bysTo_len x s j]
def lisTo (l : List Int) : Nat → List Value
  | 0 => []
  | j + 1 => lisTo l j ++ bysTo (l.getD j 0) 8 8
def encTo (vs : List Vr) (cs : List (List Int)) : Nat → List Value
  | 0 => []
  | j + 1 => encTo vs cs j ++ (if (vs.getD j ⟨⟨#[]⟩, 0, 0⟩).k = 3 then bysTo ((cs.getD j []).length : Int) 2 2 else []) ++ lisTo (cs.getD j []) (cs.getD j []).length
def encS (vs : List Vr) (cs : List (List Int)) (inp out : List Int) : List Value := encTo vs cs vs.length ++ bysTo (inp.length : Int) 2 2 ++ lisTo inp inp.length ++ bysTo (out.length : Int) 2 2 ++ lisTo out out.length
structure RowG (w : World) (B : Nat) (v : Value) (w' : World) (v' : Value) (n' : Nat) (ys : List Value) : Prop where
  own : w'.ownsRow B Go.Proofs.YtakfdnnlhjhcfaaGreatDoor.tByte 1 v' n' ys
  fr : Fr (fun k => v.ownBlock = some k) w w'
  at_ : ∀ k, v'.ownBlock = some k → v.ownBlock = some k ∨ w.heap.size ≤ k
end Bk
namespace Go.Proofs.YtakfdnnlhjhcfaaGreatDoor
open Go.RowKit Bk
theorem info_byteK : (Tryz.prog.info? 5).map (fun i => (i.zero, i.size, i.bytes)) = some (some (.int .u8 0), 1, 1) := by kernel_rfl
section
variable {w w' : World} {B : Nat}
theorem c_appendBytes {v : Value} {n s : Nat} {xs : List Value} (x : Int) (ho : w.ownsRow B 5 1 v n xs) (hB : B ≤ w.heap.size) (hn : n ≤ 10000000) (hs : s ≤ 8) :
    Calls Tryz.prog 38 #[v, .int .i64 x, .int .i64 s] w fun e w' => ∃ v', e = .returned v' ∧ RowG w B v w' v' (n + s) (xs ++ bysTo x s s) := by
  obtain ⟨A, c, rfl⟩ := own_form ho
  obtain ⟨i0, li, lz, ls, lb⟩ := info_parts info_byteK
  have HI := Lib.hid li; have HZ := Lib.hid lz; have HSZ := Lib.hid ls; have HBY := Lib.hid lb
  have HO := Lib.hid ho
  clear li lz ls lb ho
  go_enter Tryz.func38, Tryz.ntmps38
  go_wp2_with fail
  go_loopw [9, 0] (fun v9 v0 wr => ∃ (j : Nat) (A1 : Option Addr) (c1 : Nat), j ≤ s ∧ v9 = .int .i64 j ∧ v0 = .slice A1 (n + j) c1 ∧ RowG w B (.slice A n c) wr (.slice A1 (n + j) c1) (n + j) (xs ++ bysTo x s j)) (fun v _ _ => s - (intOf v).toNat)
  case atStart => exact ⟨0, A, c, Nat.zero_le _, rfl, rfl, ⟨by simpa [bysTo, tByte] using HO.out, Fr.refl _ _, fun k hk => .inl hk⟩⟩
  case round =>
    obtain ⟨j, A1, c1, hj, rfl, rfl, hg⟩ := hrel
    have HG := Lib.hid hg
    have hzr := hg.fr.size
    clear hg
    by_cases hlt : j < s
    · go_wp2_with (at_builtin; refine wpList_appS rfl (.tmp 12) (.tmp 21) 52 rfl B 5 i0 _ 1 1 Tryz.underlying52 HI.out HZ.out HSZ.out HBY.out rfl (by decide) (.slice A1 (n + j) c1) (n + j) (xs ++ bysTo x s j) rfl (own_below HG.out.own ((Below.refl _ _).alloc (Nat.le_refl _) _) (Nat.le_refl _)) rfl (sl_blk1 (Blk.new _ _ _)) (by intro u hu; simp at hu; rcases hu with rfl; rfl) (by unfold maxLen; omega) (by omega) (by simp; omega) ?_)
      intro v_3 wf hown3 hgr3 hat3
      obtain ⟨A_3, c_3, rfl⟩ := own_form hown3
      have HO3 := Lib.hid hown3
      have HF3 : Hid (Fr (fun k => Value.ownBlock (.slice A1 (n + j) c1) = some k) wr wf) := Lib.hid ((Fr.of ((Below.refl _ _).alloc (Nat.le_refl _) _)).trans (Fr.ofGrownN hgr3))
      have HAT3 : Hid (∀ k, Value.ownBlock (.slice A_3 (n + j + 1) c_3) = some k → Value.ownBlock (.slice A1 (n + j) c1) = some k ∨ wr.heap.size ≤ k) := Lib.hid fun k hk => hat3.imp (fun e => by rw [← e]; exact hk) fun e => by rw [hk] at e; have e := Option.some.inj e; have hsz := ((Below.refl wr.heap.size wr).alloc (Nat.le_refl _) (.cells #[.int .u8 (x / 2 ^ (8 * (s - 1 - j)) % 256)] 5)).size; omega
      clear hown3 hgr3 hat3
      go_wp2_with fail
      refine ⟨⟨j + 1, A_3, c_3, by omega, by first | rfl | go_num, rfl, ⟨?_, ?_, fun k hk => ?_⟩⟩, (by simp [intOf]; try omega)⟩
      · exact HO3.out
      · have hf := HF3.out
        exact ⟨hf.os.trans HG.out.fr.os, hf.tape.trans HG.out.fr.tape, hf.output.trans HG.out.fr.output, Nat.le_trans hzr hf.size, fun k hk hn' => (hf.block k (Nat.lt_of_lt_of_le hk hzr) (fun h => (HG.out.at_ k h).elim hn' fun h2 => by omega)).trans (HG.out.fr.block k hk hn')⟩
      · rcases HAT3.out k hk with h | h
        · exact HG.out.at_ k h
        · exact .inr (by omega)
    · obtain rfl : j = s := by omega
      go_wp2_with fail
      go_ret
      exact ⟨_, rfl, HG.out⟩
theorem RowG.trans {w1 w2 : World} {v v1 v2 : Value} {n1 n2 : Nat} {ys zs : List Value} (h : RowG w B v w1 v1 n1 ys) (h' : RowG w1 B v1 w2 v2 n2 zs) : RowG w B v w2 v2 n2 zs := by
  have hs := h.fr.size
  have hf := h'.fr
  refine ⟨h'.own, ⟨hf.os.trans h.fr.os, hf.tape.trans h.fr.tape, hf.output.trans h.fr.output, Nat.le_trans hs hf.size, fun k hk hn' => (hf.block k (Nat.lt_of_lt_of_le hk hs) (fun h1 => (h.at_ k h1).elim hn' fun h2 => by omega)).trans (h.fr.block k hk hn')⟩, fun k hk => ?_⟩
  rcases h'.at_ k hk with h1 | h1
  · exact h.at_ k h1
  · exact .inr (by omega)
theorem c_appendList {v u : Value} {n : Nat} {xs : List Value} {l : List Int} {D : Nat → Prop} (ho : w.ownsRow B 5 1 v n xs) (hB : B ≤ w.heap.size) (hn : n ≤ 1000000) (hu : Sl w D 1 u l.length (intCells l)) (hD : ∀ k, D k → k < w.heap.size ∧ v.ownBlock ≠ some k) (hl : l.length ≤ 10000) :
    Calls Tryz.prog 39 #[v, u] w fun e w' => ∃ v', e = .returned v' ∧ RowG w B v w' v' (n + 8 * l.length) (xs ++ lisTo l l.length) := by
  obtain ⟨A, c, rfl⟩ := own_form ho
  obtain ⟨AL, cL, rfl, _, _, hR⟩ := hu
  have HR := Lib.hid hR
  obtain ⟨m, hm⟩ : ∃ m, l.length = m := ⟨_, rfl⟩
  have HM := Lib.hid hm
  rw [hm] at HR hl ⊢
  have HO := Lib.hid ho; have HD := Lib.hid hD
  clear ho hR hm hD
  go_enter Tryz.func39, Tryz.ntmps39
  go_wp2_with fail
  go_loopw [9, 0] (fun v9 v0 wr => ∃ (j : Nat) (A1 : Option Addr) (c1 : Nat), j ≤ m ∧ v9 = .int .i64 j ∧ v0 = .slice A1 (n + 8 * j) c1 ∧ RowG w B (.slice A n c) wr (.slice A1 (n + 8 * j) c1) (n + 8 * j) (xs ++ lisTo l j)) (fun v _ _ => m - (intOf v).toNat)
  case atStart => exact ⟨0, A, c, Nat.zero_le _, rfl, rfl, ⟨by simpa [lisTo, tByte] using HO.out, Fr.refl _ _, fun k hk => .inl hk⟩⟩
  case round =>
    obtain ⟨j, A1, c1, hj, rfl, rfl, hg⟩ := hrel
    have HG := Lib.hid hg
    have hzr := hg.fr.size
    clear hg
    by_cases hlt : j < m
    · obtain ⟨g, o, hA, hg, hc⟩ := HR.out.2 (by omega)
      have hjl : j < l.length := by rw [HM.out]; exact hlt
      have y0 : wr.cell? ⟨g, o + j, none⟩ = some (.int .i64 (l.getD j 0)) := (HG.out.fr.cell (HD.out g hg).1 (HD.out g hg).2 (o + j)).trans (hc j _ (by simp [intCells, hjl, List.getD_eq_getElem?_getD]))
      obtain ⟨x, hx⟩ : ∃ x, l.getD j 0 = x := ⟨_, rfl⟩
      rw [hx] at y0
      have HX := Lib.hid hx
      have HAP := Lib.hid (c_appendBytes (s := 8) x HG.out.own (by omega) (by omega) (by omega))
      have i0 : (0 : Int) ≤ (j : Int) := by omega
      have i1 : (j : Int) < (m : Int) := by omega
      subst hA
      clear hc hx hjl
      go_wp2_with fail
      refine HAP.out.mono ?_
      rintro e w3 ⟨v3, rfl, hg3⟩
      obtain ⟨A3, c3, rfl⟩ := own_form hg3.own
      have HG3 := Lib.hid (RowG.trans HG.out hg3)
      clear hg3 y0 HAP
      go_wp2_with fail
      have hg4 := HG3.out
      rw [List.append_assoc, ← HX.out] at hg4
      exact ⟨⟨j + 1, A3, c3, by omega, by first | rfl | go_num, rfl, hg4⟩, (by simp [intOf]; try omega)⟩
    · obtain rfl : j = m := by omega
      go_wp2_with fail
      go_ret
      exact ⟨_, rfl, HG.out⟩
theorem RowG.next {w1 w2 : World} {v v1 : Value} {n1 : Nat} {ys : List Value} (h : RowG w B v w1 v1 n1 ys) (hb : Below w1.heap.size w1 w2) : RowG w B v w2 v1 n1 ys := ⟨own_below h.own hb (Nat.le_refl _), h.fr.next hb, h.at_⟩
theorem c_Encode {w : World} {B : Nat} (hBw : B ≤ w.heap.size) (V : Option Addr) (nv cv : Nat) (vs : List Vr) (hv : VsAt w B V vs) (hnv : vs.length = nv) {vC vI vO : Value} {cs : List (List Int)} {inp out : List Int} (hS : SW w (· < B) vC vI vO cs inp out) (hfit : fitsS vs cs inp out = true) (w' : World) (hb : Below B w w') :
    Calls Tryz.prog 19 #[.slice V nv cv, .agg #[vC, vI, vO]] w' fun en w'' => ∃ v n, en = .returned (.tuple #[v, .int .i64 0]) ∧ n ≤ 17592186043904 ∧ w''.ownsRow w'.heap.size 5 1 v n (encS vs cs inp out) ∧ Below w'.heap.size w' w'' := by
  have HFT := Lib.hid (fun W hW => c_Fits hBw V nv cv vs hv hnv hS W hW)
  rw [hfit] at HFT
  have hok := start_ok hfit
  have hc : cs.length = vs.length := by
    unfold fitsS at hfit; simp only [Bool.and_eq_true, decide_eq_true_eq] at hfit; exact hfit.2.1
  have hn32 : nv ≤ 32 := by have : vs.length ≤ 32 := hok.base.bd; omega
  have hi4 : inp.length ≤ 4096 := hok.inp
  have ho4 : out.length ≤ 4096 := hok.out
  obtain ⟨sv, hrow, hel⟩ := hS.row
  have HCE : Hid (∀ j, j < nv → ∃ (g o : Nat) (v : Vr) (l : List Int) (A : Option Addr) (c : Nat), vs[j]? = some v ∧ cs[j]? = some l ∧ l.length ≤ 1000 ∧ (∃ n c, vC = .slice (some ⟨g, o, none⟩) n c ∧ n = nv) ∧ g < B ∧ w.cell? ⟨g, o + j, none⟩ = some (.slice A l.length c) ∧ Sl w (· < B) 1 (.slice A l.length c) l.length (intCells l)) := Lib.hid fun j hj => by
    have hjc : j < cs.length := by omega
    obtain ⟨A', c', e1, _, _, hR⟩ := hrow
    obtain ⟨g, o, e2, hg, hc⟩ := hR.2 (by omega)
    have hsl : sv.length = cs.length := by have := hR.1; omega
    have hu : sv[j]? = some (sv[j]'(by omega)) := List.getElem?_eq_getElem (by omega)
    have hlj : cs[j]? = some (cs[j]'hjc) := List.getElem?_eq_getElem hjc
    have hvj : vs[j]? = some (vs[j]'(by omega)) := List.getElem?_eq_getElem (by omega)
    have hs := hel j _ _ hu hlj
    obtain ⟨A, c, e3, _⟩ := id hs
    have h1000 := (hok.one j _ hlj).2
    exact ⟨g, o, _, _, A, c, hvj, hlj, h1000, ⟨_, c', by rw [e1, e2], by omega⟩, hg, by rw [hc j _ hu, e3], by rw [← e3]; exact hs⟩
  have HIN := Lib.hid hS.inp; have HOUT := Lib.hid hS.out
  have HV := Lib.hid hv; have HNV := Lib.hid hnv; have HB := Lib.hid hb
  have hB' : B ≤ w'.heap.size := by have := hb.size; omega
  obtain ⟨AC, nc, cC, rfl⟩ : ∃ A n c, vC = .slice A n c := by obtain ⟨A, c, e, _⟩ := hrow; exact ⟨A, _, c, e⟩
  obtain ⟨AI, cI, rfl, _⟩ := hS.inp
  obtain ⟨AO, cO, rfl, _⟩ := hS.out
  obtain ⟨ni, hni⟩ : ∃ n, inp.length = n := ⟨_, rfl⟩
  obtain ⟨no, hno⟩ : ∃ n, out.length = n := ⟨_, rfl⟩
  have HNI := Lib.hid hni; have HNO := Lib.hid hno
  rw [hni] at HIN HFT hi4 ⊢
  rw [hno] at HOUT HFT ho4 ⊢
  clear hv hb hS hfit hok hrow hel hni hno hc
  go_enter Tryz.func19, Tryz.ntmps19
  go_upto_region 1 with fail
  refine wp_nameE ?_
  intro w1 hw1
  have hb1 : Below w'.heap.size w' w1 := (by rw [hw1]; exact (by go_grown))
  have HK1 : Hid (Blk w1 w'.heap.size 32 #[.slice AC nc cC, .slice AI ni cI, .slice AO no cO]) := Lib.hid (by rw [hw1]; exact blkA)
  have HB1 := Lib.hid hb1
  obtain ⟨z_1, T_1, F_1⟩ := HK1.out.open_
  clear hw1 hb1
  go_wp2_with fail
  refine (HFT.out w1 (HB.out.trans (HB1.out.mono hB'))).mono ?_
  rintro en w2 ⟨rfl, hb2⟩
  have HB2 := Lib.hid (HB1.out.next hb2); have HK2 := Lib.hid (HK1.out.next hb2)
  have hs2 := HB2.out.size; have hbx := HK2.out.lt
  clear z_1 T_1 F_1 hb2 HK1 HFT HB1
  go_wp2_with fail
  go_loopw [15, 6] (fun v15 v6 wr => ∃ (j : Nat) (A1 : Option Addr) (c1 n1 : Nat), j ≤ nv ∧ v15 = .int .i64 j ∧ v6 = .slice A1 n1 c1 ∧ n1 ≤ 10000 * j ∧ RowG w2 w2.heap.size (.slice none 0 0) wr (.slice A1 n1 c1) n1 (encTo vs cs j)) (fun v _ _ => nv - (intOf v).toNat)
  case atStart => exact ⟨0, none, 0, 0, Nat.zero_le _, rfl, rfl, by omega, ⟨⟨by simp [encTo], .inl ⟨rfl, rfl⟩⟩, Fr.refl _ _, fun k hk => .inl hk⟩⟩
  case round =>
    obtain ⟨j, A1, c1, n1, hj, rfl, rfl, hn1, hg⟩ := hrel
    have HG := Lib.hid hg
    have hbr : Below w2.heap.size w2 wr := hg.fr.below (Nat.le_refl _) fun k hk => by cases hk
    have HBR := Lib.hid (HB2.out.next hbr); have HKR := Lib.hid (HK2.out.next hbr)
    have hs3 := hbr.size
    clear hg hbr
    by_cases hjn : j < nv
    · obtain ⟨g, o, v, l, A, c, hvj, hlj, hl1000, ⟨n', c', e, hn'⟩, hgB, hcell, hsl⟩ := HCE.out j hjn
      injection e with e1 e2 e3
      subst e1; subst e2; subst e3
      obtain ⟨gv, ov, hV, hgvB, c0, c1', c2⟩ := HV.out j v hvj
      subst hV
      have hbw : Below B w wr := HB.out.trans (HBR.out.mono hB')
      have d0 := (hbw.cell (p := ⟨gv, ov + j * 3, none⟩) hgvB).trans c0
      have d1 := (hbw.cell (p := ⟨gv, ov + j * 3 + 1, none⟩) hgvB).trans c1'
      have d2 := (hbw.cell (p := ⟨gv, ov + j * 3 + 2, none⟩) hgvB).trans c2
      have HBW := Lib.hid hbw
      have HY : Hid (∀ W, Below B w W → W.cell? ⟨g, o + j, none⟩ = some (.slice A l.length c)) := Lib.hid fun W hW => (hW.cell (p := ⟨g, o + j, none⟩) hgB).trans hcell
      have HE : Hid (encTo vs cs j ++ (if v.k = 3 then bysTo (l.length : Int) 2 2 else []) ++ lisTo l l.length = encTo vs cs (j + 1)) := Lib.hid (by
        have e1 : vs.getD j ⟨⟨#[]⟩, 0, 0⟩ = v := by simp [List.getD_eq_getElem?_getD, hvj]
        have e2 : cs.getD j [] = l := by simp [List.getD_eq_getElem?_getD, hlj]
        simp only [encTo, e1, e2])
      have HSL := Lib.hid hsl
      obtain ⟨nm, k, len⟩ := v
      dsimp only at d0 d1 d2 HE
      obtain ⟨nl, hnl⟩ : ∃ nl, l.length = nl := ⟨_, rfl⟩
      have HNL := Lib.hid hnl
      rw [hnl] at HY HE HSL hl1000
      have j0 : (0 : Int) ≤ (j : Int) := by omega
      have j1 : (j : Int) < (nv : Int) := by omega
      have j2 : (j : Int) < (nc : Int) := by omega
      clear hvj hlj hcell hsl c0 c1' c2 hbw hnl hn'
      go_upto_region 7 with fail
      refine wp_nameE ?_
      intro w3 hw3
      have hb3 : Below wr.heap.size wr w3 := (by rw [hw3]; exact (by go_grown))
      have HV3 : Hid (Blk w3 wr.heap.size 72 #[.string nm, .int .u8 k, .int .i64 len]) := Lib.hid (by rw [hw3]; exact blkA)
      have HG3 := Lib.hid (RowG.next HG.out hb3)
      have HKP : Hid (∀ (W : World) (v' : Value) (n' : Nat) (ys : List Value), RowG w2 w2.heap.size (.slice none 0 0) W v' n' ys → Below w2.heap.size w2 W ∧ Below B w W) := Lib.hid fun W v' n' ys hg => by
        have h1 : Below w2.heap.size w2 W := hg.fr.below (Nat.le_refl _) fun k hk => by cases hk
        exact ⟨h1, HB.out.trans ((HB2.out.next h1).mono hB')⟩
      have hs4 := hb3.size
      have HDD : Hid (∀ (W : World) (v' : Value) (n' : Nat) (ys : List Value), RowG w2 w2.heap.size (.slice none 0 0) W v' n' ys → ∀ k, k < B → k < W.heap.size ∧ v'.ownBlock ≠ some k) := Lib.hid fun W v' n' ys hg k hk => ⟨by have := (HKP.out W v' n' ys hg).1.size; omega, fun e => by have := (own_gE hg.own e).1; omega⟩
      obtain ⟨z_2, T_2, F_2⟩ := HV3.out.open_
      obtain ⟨z_1, T_1, F_1⟩ := (HK2.out.next (HKP.out _ _ _ _ HG3.out).1).open_
      have y3 := HY.out w3 (HKP.out _ _ _ _ HG3.out).2
      clear hw3 d0 d1 d2 hb3 HG HBW
      by_cases hk : k = 3
      · subst hk
        simp only [if_true] at HE
        have HAP := Lib.hid (c_appendBytes (s := 2) (nl : Int) HG3.out.own (by omega) (by omega) (by omega))
        go_wp2_with fail
        refine HAP.out.mono ?_
        rintro en w4 ⟨v4, rfl, hg4⟩
        obtain ⟨A4, c4, rfl⟩ := own_form hg4.own
        have HG4 := Lib.hid (RowG.trans HG3.out hg4)
        have hn4 : n1 + 2 ≤ 10000 * j + 2 := by omega
        clear hg4 HAP HG3 z_1 T_1 F_1 z_2 T_2 F_2 y3 HV3
        obtain ⟨z_1, T_1, F_1⟩ := (HK2.out.next (HKP.out _ _ _ _ HG4.out).1).open_
        have y3 := HY.out w4 (HKP.out _ _ _ _ HG4.out).2
        have HAL := Lib.hid (c_appendList HG4.out.own (by have := (HKP.out _ _ _ _ HG4.out).1.size; omega) (by omega) (l := l) (D := (· < B)) (by rw [HNL.out]; exact Sl.belowS HSL.out (HKP.out _ _ _ _ HG4.out).2) (fun k hk => HDD.out _ _ _ _ HG4.out k hk) (by rw [HNL.out]; omega))
        rw [HNL.out] at HAL
        go_wp2_with fail
        refine HAL.out.mono ?_
        rintro en w5 ⟨v5, rfl, hg5⟩
        obtain ⟨A5, c5, rfl⟩ := own_form hg5.own
        have HG5 := Lib.hid (RowG.trans HG4.out hg5)
        clear hg5 HAL HG4 z_1 T_1 F_1 y3
        go_wp2_with fail
        have hg6 := HG5.out
        rw [HE.out] at hg6
        exact ⟨⟨j + 1, A5, c5, _, by omega, by first | rfl | go_num, rfl, by omega, hg6⟩, (by simp [intOf]; try omega)⟩
      · have hk' : (k == 3) = false := by simpa using hk
        simp only [if_neg hk, List.append_nil] at HE
        have HG4 := HG3
        have hn4 : n1 ≤ 10000 * j + 2 := by omega
        have HAL := Lib.hid (c_appendList HG4.out.own (by have := (HKP.out _ _ _ _ HG4.out).1.size; omega) (by omega) (l := l) (D := (· < B)) (by rw [HNL.out]; exact Sl.belowS HSL.out (HKP.out _ _ _ _ HG4.out).2) (fun k hk => HDD.out _ _ _ _ HG4.out k hk) (by rw [HNL.out]; omega))
        rw [HNL.out] at HAL
        go_wp2_with fail
        refine HAL.out.mono ?_
        rintro en w5 ⟨v5, rfl, hg5⟩
        obtain ⟨A5, c5, rfl⟩ := own_form hg5.own
        have HG5 := Lib.hid (RowG.trans HG4.out hg5)
        clear hg5 HAL HG4 HG3 z_1 T_1 F_1 z_2 T_2 F_2 y3
        go_wp2_with fail
        have hg6 := HG5.out
        rw [HE.out] at hg6
        exact ⟨⟨j + 1, A5, c5, _, by omega, by first | rfl | go_num, rfl, by omega, hg6⟩, (by simp [intOf]; try omega)⟩
    · obtain rfl : j = nv := by omega
      have HKP : Hid (∀ (W : World) (v' : Value) (n' : Nat) (ys : List Value), RowG w2 w2.heap.size (.slice none 0 0) W v' n' ys → Below w2.heap.size w2 W ∧ Below B w W) := Lib.hid fun W v' n' ys hg => by
        have h1 : Below w2.heap.size w2 W := hg.fr.below (Nat.le_refl _) fun k hk => by cases hk
        exact ⟨h1, HB.out.trans ((HB2.out.next h1).mono hB')⟩
      have HDD : Hid (∀ (W : World) (v' : Value) (n' : Nat) (ys : List Value), RowG w2 w2.heap.size (.slice none 0 0) W v' n' ys → ∀ k, k < B → k < W.heap.size ∧ v'.ownBlock ≠ some k) := Lib.hid fun W v' n' ys hg k hk => ⟨by have := (HKP.out W v' n' ys hg).1.size; omega, fun e => by have := (own_gE hg.own e).1; omega⟩
      have hnb : ¬ (w2.heap.size ≤ w'.heap.size) := by omega
      have HKW : Hid (∀ W, Fr (fun k => w2.heap.size ≤ k) w2 W → Blk W w'.heap.size 32 #[.slice AC nc cC, .slice AI ni cI, .slice AO no cO]) := Lib.hid fun W hW => hW.blk HK2.out hnb
      have HF0 : Hid (Fr (fun k => w2.heap.size ≤ k) w2 wr) := Lib.hid (Fr.of (HKP.out _ _ _ _ HG.out).1)
      clear HCE HV HKR HBR
      go_wp2_with fail
      refine wp_region_held_drew (S := fun W => Fr (fun k => w2.heap.size ≤ k) w2 W) (by kernel_rfl) (HF0.out.drew) (fun hH => ?_)
      refine wpAnyH_atN ?_
      intro wawr hwa
      have hX : Below wr.heap.size wr wawr := by rw [hwa]; exact (Below.refl _ _).drew
      replace hH := (show Fr (fun k => w2.heap.size ≤ k) w2 wawr by rw [hwa]; exact hH)
      clear hwa
      refine tkQ 0 (v := ?_) rfl hH ?_
      (try simp only [PU, Act.put])
      refine tkQ 1 (v := ?_) rfl hH ?_
      (try simp only [PU, Act.put])
      refine tkK 2 (v := ?_) rfl ?hy hH ?_
      case hy => (intro w9_ hS9; have t := (HKW.out _ hS9).cell; clear hS9; go_simp; try with_reducible rfl)
      (try simp only [PU, Act.put])
      refine tkQ 3 (v := ?_) rfl hH ?_
      (try simp only [PU, Act.put])
      refine tkQ 5 (v := ?_) rfl hH ?_
      (try simp only [PU, Act.put])
      refine tkK 6 (v := ?_) rfl ?hy hH ?_
      case hy => (intro w9_ hS9; have t := (HKW.out _ hS9).cell; clear hS9; go_simp; try with_reducible rfl)
      (try simp only [PU, Act.put])
      refine nxH 4 (by kernel_rfl) rfl (fun K hK => ?_)
      go_simp
      have ha := c_appendBytes (s := 2) (ni : Int) (RowG.next HG.out hX).own (by have := (HKP.out _ _ _ _ HG.out).1.size; have := hX.size; omega) (by omega) (by omega)
      refine ha.mono ?_
      rintro en wbwr ⟨v4, rfl, hg4⟩
      obtain ⟨A4, c4, rfl⟩ := own_form hg4.own
      have hg4 := RowG.trans (RowG.next HG.out hX) hg4
      refine hK.out _ _ (Fr.of (HKP.out _ _ _ _ hg4).1) (fun hH => ?_)
      clear hK
      (try simp only [PU, Act.put])
      clear ha
      refine nxH 7 (by kernel_rfl) rfl (fun K hK => ?_)
      go_simp
      have ha := c_appendList hg4.own (by have := (HKP.out _ _ _ _ hg4).1.size; omega) (by omega) (l := inp) (D := (· < B)) (by rw [HNI.out]; exact Sl.belowS HIN.out (HKP.out _ _ _ _ hg4).2) (fun k hk => HDD.out _ _ _ _ hg4 k hk) (by rw [HNI.out]; omega)
      rw [HNI.out] at ha
      refine ha.mono ?_
      rintro en wcwr ⟨v5, rfl, hg5⟩
      obtain ⟨A5, c5, rfl⟩ := own_form hg5.own
      have hg5 := RowG.trans hg4 hg5
      refine hK.out _ _ (Fr.of (HKP.out _ _ _ _ hg5).1) (fun hH => ?_)
      clear hK
      (try simp only [PU, Act.put])
      clear ha
      refine tkQ 8 (v := ?_) rfl hH ?_
      (try simp only [PU, Act.put])
      refine wpAnyH_done (by kernel_rfl) ?_ _
      have HG11 := Lib.hid hg5
      have HF11 : Hid (Fr (fun k => w2.heap.size ≤ k) w2 wcwr) := Lib.hid hH
      have hn11 : n1 + 2 + 8 * ni ≤ 400000 := by omega
      clear hX hH hg4 hg5
      go_wp2_with fail
      refine wp_region_held_drew (S := fun W => Fr (fun k => w2.heap.size ≤ k) w2 W) (by kernel_rfl) (HF11.out.drew) (fun hH => ?_)
      refine wpAnyH_atN ?_
      intro wawcwr hwa
      have hX : Below wcwr.heap.size wcwr wawcwr := by rw [hwa]; exact (Below.refl _ _).drew
      replace hH := (show Fr (fun k => w2.heap.size ≤ k) w2 wawcwr by rw [hwa]; exact hH)
      clear hwa
      refine tkQ 0 (v := ?_) rfl hH ?_
      (try simp only [PU, Act.put])
      refine tkQ 1 (v := ?_) rfl hH ?_
      (try simp only [PU, Act.put])
      refine tkK 2 (v := ?_) rfl ?hy hH ?_
      case hy => (intro w9_ hS9; have t := (HKW.out _ hS9).cell; clear hS9; go_simp; try with_reducible rfl)
      (try simp only [PU, Act.put])
      refine tkQ 3 (v := ?_) rfl hH ?_
      (try simp only [PU, Act.put])
      refine tkQ 5 (v := ?_) rfl hH ?_
      (try simp only [PU, Act.put])
      refine tkK 6 (v := ?_) rfl ?hy hH ?_
      case hy => (intro w9_ hS9; have t := (HKW.out _ hS9).cell; clear hS9; go_simp; try with_reducible rfl)
      (try simp only [PU, Act.put])
      refine nxH 4 (by kernel_rfl) rfl (fun K hK => ?_)
      go_simp
      have ha := c_appendBytes (s := 2) (no : Int) (RowG.next HG11.out hX).own (by have := (HKP.out _ _ _ _ HG11.out).1.size; have := hX.size; omega) (by omega) (by omega)
      refine ha.mono ?_
      rintro en wbwcwr ⟨v4, rfl, hg4⟩
      obtain ⟨A4, c4, rfl⟩ := own_form hg4.own
      have hg4 := RowG.trans (RowG.next HG11.out hX) hg4
      refine hK.out _ _ (Fr.of (HKP.out _ _ _ _ hg4).1) (fun hH => ?_)
      clear hK
      (try simp only [PU, Act.put])
      clear ha
      refine nxH 7 (by kernel_rfl) rfl (fun K hK => ?_)
      go_simp
      have ha := c_appendList hg4.own (by have := (HKP.out _ _ _ _ hg4).1.size; omega) (by omega) (l := out) (D := (· < B)) (by rw [HNO.out]; exact Sl.belowS HOUT.out (HKP.out _ _ _ _ hg4).2) (fun k hk => HDD.out _ _ _ _ hg4 k hk) (by rw [HNO.out]; omega)
      rw [HNO.out] at ha
      refine ha.mono ?_
      rintro en wcwcwr ⟨v5, rfl, hg5⟩
      obtain ⟨A5, c5, rfl⟩ := own_form hg5.own
      have hg5 := RowG.trans hg4 hg5
      refine hK.out _ _ (Fr.of (HKP.out _ _ _ _ hg5).1) (fun hH => ?_)
      clear hK
      (try simp only [PU, Act.put])
      clear ha
      refine tkQ 8 (v := ?_) rfl hH ?_
      (try simp only [PU, Act.put])
      refine wpAnyH_done (by kernel_rfl) ?_ _
      have HG12 := Lib.hid hg5
      clear hX hH hg4 hg5
      go_wp2_with fail
      refine bodyPost_ret_by (results_tmp2 rfl _ _ _) rfl ?_
      have hb := (HKP.out _ _ _ _ HG12.out).1
      refine ⟨_, n1 + 2 + 8 * ni + 2 + 8 * no, rfl, by omega, ?_, HB2.out.next hb⟩
      have ho := own_lowE HG12.out.own hs2
      have he : encS vs cs inp out = encTo vs cs j ++ bysTo (ni : Int) 2 2 ++ lisTo inp ni ++ bysTo (no : Int) 2 2 ++ lisTo out no := by unfold encS; rw [HNV.out, HNI.out, HNO.out]
      rw [he]
      exact ho
end
end Go.Proofs.YtakfdnnlhjhcfaaGreatDoor
