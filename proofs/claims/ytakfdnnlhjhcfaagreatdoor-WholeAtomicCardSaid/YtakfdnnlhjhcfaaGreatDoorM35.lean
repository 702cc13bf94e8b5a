/- WhJg WhJh WhPn. -/
import Derived.Test.YtakfdnnlhjhcfaaGreatDoorM34
set_option linter.unusedVariables false
set_option linter.unusedSimpArgs false
set_option linter.unusedSimpArgs false
set_option maxRecDepth 100000
set_option maxHeartbeats 4000000
namespace Bk
open Go Go.RowKit
def newS (vs : List Vr) (cs : List (List Int)) (inp out : List Int) (j : Nat) : PSt := ⟨cs.take j, ⟨vs.take j, List.range j, 0⟩, [], inp, out⟩
theorem newS_succ {vs : List Vr} {cs : List (List Int)} {inp out : List Int} {j : Nat} {v : Vr} {l : List Int} (hv : vs[j]? = some v) (hl : cs[j]? = some l) : (({ newS vs cs inp out j with cells := (newS vs cs inp out j).cells ++ [l] } : PSt).setCur ⟨(newS vs cs inp out j).cur.vars ++ [v], (newS vs cs inp out j).cur.idx ++ [(newS vs cs inp out j).cells.length], (newS vs cs inp out j).cur.locals⟩) = newS vs cs inp out (j + 1) := by
  have hj := (List.getElem?_eq_some_iff.1 hl).1
  unfold newS PSt.setCur PSt.cur
  simp only [List.getLastD_nil, if_true]
  have e1 : vs.take (j + 1) = vs.take j ++ [v] := by rw [List.take_add_one, hv]; rfl
  have e2 : cs.take (j + 1) = cs.take j ++ [l] := by rw [List.take_add_one, hl]; rfl
  rw [e1, e2, List.range_succ, List.length_take, Nat.min_eq_left (by omega)]
theorem newS_end {vs : List Vr} {cs : List (List Int)} {inp out : List Int} (h : cs.length = vs.length) : newS vs cs inp out vs.length = ⟨cs, ⟨vs, List.range vs.length, 0⟩, [], inp, out⟩ := by
  unfold newS
  rw [List.take_length, ← h, List.take_length]
end Bk
namespace Go.Proofs.YtakfdnnlhjhcfaaGreatDoor
open Go.RowKit Bk
section
variable {w w' : World} {B : Nat} {S : Sv} {σ : PSt} {kd : Nat → Int} {m : Nat}
theorem SOn.init {st tb : Nat} {u1 u2 : Value} {inp out : List Int} (hst : Blk w st 123 #[.slice none 0 0, .slice none 0 0, .int .i64 0, .slice none 0 0, .pointer (some ⟨tb, 0, none⟩)]) (htb : Blk w tb 156 #[u1, u2]) (h1 : w.ownsRow B 3 1 u1 inp.length (intCells inp)) (h2 : w.ownsRow B 3 1 u2 out.length (intCells out))
    (hst2 : B ≤ st) (htb2 : B ≤ tb) (hne : st ≠ tb) (n1 : ∀ k, u1.ownBlock = some k ∨ u2.ownBlock = some k → k ≠ st ∧ k ≠ tb) (n2 : ∀ k, u1.ownBlock = some k → u2.ownBlock = some k → False) :
    ∃ S : Sv, S.st = st ∧ SOn w B S ⟨[], ⟨[], [], 0⟩, [], inp, out⟩ := by
  classical
  let ro : Nat → Role := fun k => if k = st then .store else if k = tb then .tape else if u1.ownBlock = some k then .tin else if u2.ownBlock = some k then .tout else .none
  have r1 : ∀ k, u1.ownBlock = some k → ro k = .tin := fun k hk => by
    show (if _ then _ else if _ then _ else if _ then _ else _) = _
    rw [if_neg (n1 k (.inl hk)).1, if_neg (n1 k (.inl hk)).2, if_pos hk]
  have r2 : ∀ k, u2.ownBlock = some k → ro k = .tout := fun k hk => by
    show (if _ then _ else if _ then _ else if _ then _ else _) = _
    rw [if_neg (n1 k (.inr hk)).1, if_neg (n1 k (.inr hk)).2, if_neg (fun h => n2 k h hk), if_pos hk]
  have hn : ∀ k, Value.ownBlock (.slice none 0 0) = some k → False := fun k h => by cases h
  refine ⟨⟨st, tb, .slice none 0 0, .slice none 0 0, .slice none 0 0, u1, u2, [], fun _ => 0, fun _ => .slice none 0 0, ro⟩, rfl, ⟨hst, ⟨⟨by simp [varCells], .inl ⟨rfl, rfl⟩⟩, ⟨by simp [Sv.ptrs], .inl ⟨rfl, rfl⟩⟩, fun k hk => (hn k hk).elim, fun k hk => (hn k hk).elim⟩, ⟨by simp [frRow], .inl ⟨rfl, rfl⟩⟩, rfl, fun i x f h => by simp at h, htb, h1, h2, fun i l h => by simp at h, if_pos rfl, ?_, fun k hk => (hn k hk).elim, r1, r2, fun k hk => ?_⟩⟩
  · show (if tb = st then _ else if tb = tb then _ else _) = _
    rw [if_neg (fun h => hne h.symm), if_pos rfl]
  · change (if k = st then Role.store else if k = tb then .tape else if u1.ownBlock = some k then .tin else if u2.ownBlock = some k then .tout else .none) ≠ .none at hk
    by_cases e1 : k = st
    · subst e1; exact ⟨hst2, hst.lt⟩
    rw [if_neg e1] at hk
    by_cases e2 : k = tb
    · subst e2; exact ⟨htb2, htb.lt⟩
    rw [if_neg e2] at hk
    by_cases e3 : u1.ownBlock = some k
    · exact own_gE h1 e3
    rw [if_neg e3] at hk
    by_cases e4 : u2.ownBlock = some k
    · exact own_gE h2 e4
    rw [if_neg e4] at hk
    exact absurd rfl hk
theorem new_join (h : SOn w B S σ) (hB : B ≤ w.heap.size) (hI : ∀ f, f = σ.base ∨ f ∈ σ.calls → ∀ i, i ∈ f.idx → i < σ.cells.length) (hbd : σ.cur.vars.length ≤ 10000) (hl : σ.cur.idx.length = σ.cur.vars.length) {W : World} (hb : Below w.heap.size w W) {g : Nat} {val : Value} {l : List Int} (hg : w.heap.size ≤ g) (hbl : Blk W g 127 #[val]) (hrow : W.ownsRow w.heap.size 3 1 val l.length (intCells l)) (hne : val.ownBlock ≠ some g) (u : Vr) :
    Calls Tryz.prog 63 #[.pointer (some ⟨S.fb σ, σ.fo, none⟩), .agg #[.string u.nm, .int .u8 u.k, .int .i64 u.len], .pointer (some ⟨g, 0, none⟩)] W fun e w' => e = .returned (.tuple #[]) ∧ (∃ S', SOn w' B S' (({ σ with cells := σ.cells ++ [l] } : PSt).setCur ⟨σ.cur.vars ++ [u], σ.cur.idx ++ [σ.cells.length], σ.cur.locals⟩) ∧ S.Ext S' w) ∧ Fr S.O w w' := by
  obtain ⟨S1, h1, x1, c1, f1, v1⟩ := h.addCell hI hb hg hB hbl hrow hne
  have hB1 : B ≤ W.heap.size := Nat.le_trans hB hb.size
  have hcu : ({ σ with cells := σ.cells ++ [l] } : PSt).cur = σ.cur := rfl
  have hc := c_addS h1 hB1 (by rw [hcu]; exact hbd) (by rw [hcu]; exact hl) u σ.cells.length
  rw [f1, c1] at hc
  refine hc.mono ?_
  rintro e w' ⟨rfl, S2, h2, x2, r2, c2, f2, o2⟩
  exact ⟨rfl, ⟨S2, h2, x1.trans x2 hb.size⟩, x1.fr (Fr.of hb) r2⟩
theorem c_StoreNew {V : Option Addr} {nv cv : Nat} {vs : List Vr} (hBw : B ≤ w.heap.size) (hv : VsAt w B V vs) (hnv : vs.length = nv) {vC vI vO : Value} {cs : List (List Int)} {inp out : List Int} (hS : SW w (· < B) vC vI vO cs inp out) (hfit : fitsS vs cs inp out = true) (w' : World) (hb : Below B w w') :
    Calls Tryz.prog 41 #[.slice V nv cv, .agg #[vC, vI, vO]] w' fun e w'' => ∃ (S : Sv) (B1 : Nat), e = .returned (.tuple #[.pointer (some ⟨S.st, 0, none⟩), .int .i64 0]) ∧ SOn w'' B1 S ⟨cs, ⟨vs, List.range vs.length, 0⟩, [], inp, out⟩ ∧ w'.heap.size ≤ B1 ∧ Below w'.heap.size w' w'' := by
  have hf := hfit
  unfold fitsS valB at hf
  simp only [Bool.and_eq_true, decide_eq_true_eq] at hf
  obtain ⟨⟨hv32, _⟩, hcv, hi4, ho4, hel4⟩ := hf
  have HFT := Lib.hid (fun W hW => c_Fits hBw V nv cv vs hv hnv hS W hW)
  rw [hfit] at HFT
  have HTN := Lib.hid (fun W (hW : Below B w W) => c_TapeNew (w := W) (v1 := vI) (v2 := vO) (a := inp) (b := out) ((Sl.belowS hS.inp hW).mono fun k hk => by have := hW.size; omega) ((Sl.belowS hS.out hW).mono fun k hk => by have := hW.size; omega) hi4 ho4)
  obtain ⟨sv, hrow, hel⟩ := hS.row
  have HCE : Hid (∀ j, j < nv → ∃ (g o : Nat) (v : Vr) (l : List Int) (A : Option Addr) (c : Nat), vs[j]? = some v ∧ cs[j]? = some l ∧ vC.ownBlock = vC.ownBlock ∧ (∃ n c, vC = .slice (some ⟨g, o, none⟩) n c ∧ n = nv) ∧ g < B ∧ w.cell? ⟨g, o + j, none⟩ = some (.slice A l.length c) ∧ ∀ W, Below B w W → Calls Tryz.prog 30 #[.slice A l.length c] W fun e w' => ∃ v, e = .returned v ∧ w'.ownsRow W.heap.size 3 1 v l.length (intCells l) ∧ Below W.heap.size W w') := Lib.hid fun j hj => by
    have hjc : j < cs.length := by omega
    obtain ⟨A', c', e1, _, _, hR⟩ := hrow
    obtain ⟨g, o, e2, hg, hc⟩ := hR.2 (by omega)
    have hsl : sv.length = cs.length := by have := hR.1; omega
    have hu : sv[j]? = some (sv[j]'(by omega)) := List.getElem?_eq_getElem (by omega)
    have hlj : cs[j]? = some (cs[j]'hjc) := List.getElem?_eq_getElem hjc
    have hvj : vs[j]? = some (vs[j]'(by omega)) := List.getElem?_eq_getElem (by omega)
    have hs := hel j _ _ hu hlj
    obtain ⟨A, c, e3, _⟩ := id hs
    refine ⟨g, o, _, _, A, c, hvj, hlj, rfl, ⟨_, c', by rw [e1, e2], by omega⟩, hg, by rw [hc j _ hu, e3], fun W hW => ?_⟩
    have hln : (cs[j]'hjc).length ≤ 17592186044400 := by
      have h1 := hel4 j _ _ hvj hlj
      unfold elB at h1
      have hkd : kndB (vs[j]'(by omega)) = true := (by assumption : ∀ v ∈ vs, kndB v = true) _ (List.getElem_mem _)
      unfold kndB at hkd
      unfold fixN at h1
      split at h1
      · have := of_decide_eq_true h1; omega
      · have h2 := of_decide_eq_true h1
        split at h2
        · omega
        · split at hkd
          · have := of_decide_eq_true hkd; omega
          · split at hkd
            · have := of_decide_eq_true hkd; omega
            · cases hkd
    have := c_CloneI (w := W) (Sl.belowS hs hW) hln
    rwa [e3] at this
  have HV := Lib.hid hv; have HNV := Lib.hid hnv; have HB := Lib.hid hb; have HCV := Lib.hid hcv
  have hB' : B ≤ w'.heap.size := by have := hb.size; omega
  have hn32 : nv ≤ 32 := by omega
  obtain ⟨AC, nc, cC, rfl⟩ : ∃ A n c, vC = .slice A n c := by obtain ⟨A, c, e, _⟩ := hrow; exact ⟨A, _, c, e⟩
  obtain ⟨AI, ni, cI, rfl⟩ : ∃ A n c, vI = .slice A n c := by obtain ⟨A, c, e, _⟩ := hS.inp; exact ⟨A, _, c, e⟩
  obtain ⟨AO, no, cO, rfl⟩ : ∃ A n c, vO = .slice A n c := by obtain ⟨A, c, e, _⟩ := hS.out; exact ⟨A, _, c, e⟩
  clear hv hb hS hfit hrow hel hel4 hi4 ho4 hcv
  go_enter Tryz.func41, Tryz.ntmps41
  go_upto_region 1 with fail
  refine wp_nameE ?_
  intro w1 hw1
  have hb1 : Below w'.heap.size w' w1 := (by rw [hw1]; exact (by go_grown))
  have HK1 : Hid (Blk w1 w'.heap.size 32 #[.slice AC nc cC, .slice AI ni cI, .slice AO no cO]) := Lib.hid (by rw [hw1]; exact blkA)
  have HB1 := Lib.hid hb1
  obtain ⟨z_1, T_1, F_1⟩ := HK1.out.open_
  clear hw1 hb1
  go_wp2_with fail
  refine (HFT.out w1 (HB.out.trans (HB1.out.mono hB'))).mono ?_
  rintro en w2 ⟨rfl, hb2⟩
  have HB2 := Lib.hid (HB1.out.next hb2); have HK2 := Lib.hid (HK1.out.next hb2)
  clear z_1 T_1 F_1 hb2 HK1 HFT
  obtain ⟨z_1, T_1, F_1⟩ := HK2.out.open_
  go_wp2_with fail
  refine (HTN.out w2 (HB.out.trans (HB2.out.mono hB'))).mono ?_
  rintro en w3 ⟨tb, u1, u2, rfl, htb, o1, o2, n2, nlt, htb2, hb3⟩
  have HTB := Lib.hid htb; have HO1 := Lib.hid o1; have HO2 := Lib.hid o2; have HN2 := Lib.hid n2; have HNL := Lib.hid nlt
  have HB3 := Lib.hid (HB2.out.next hb3); have HK3 := Lib.hid (HK2.out.next hb3)
  have hs2 := HB2.out.size
  have hz3 := hb3.size
  have hbx := HK2.out.lt
  clear z_1 T_1 F_1 hb3 htb o1 o2 n2 nlt HK2 HTN
  go_upto_region 7 with fail
  refine wp_nameE ?_
  intro w4 hw4
  have hb4 : Below w3.heap.size w3 w4 := (by rw [hw4]; exact (by go_grown))
  have hst : Blk w4 w3.heap.size 123 #[.slice none 0 0, .slice none 0 0, .int .i64 0, .slice none 0 0, .pointer (some ⟨tb, 0, none⟩)] := (by rw [hw4]; exact Blk.new _ _ _)
  have HSI : Hid (∃ S : Sv, S.st = w3.heap.size ∧ SOn w4 w2.heap.size S ⟨[], ⟨[], [], 0⟩, [], inp, out⟩) := Lib.hid (SOn.init hst (HTB.out.next hb4) (own_below HO1.out hb4 (Nat.le_refl _)) (own_below HO2.out hb4 (Nat.le_refl _)) hz3 htb2 (by have := HTB.out.lt; omega) (fun k hk => by have h1 := HNL.out k hk; have := HTB.out.lt; omega) HN2.out)
  have HB4 := Lib.hid (HB3.out.next hb4); have HK4 := Lib.hid (HK3.out.next hb4)
  have hs4 := hst.lt
  clear hw4 hb4 hst HTB HO1 HO2 HN2 HNL HK3 HB3 HB1 htb2
  generalize w3.heap.size = st at *
  generalize w2.heap.size = B1 at *
  go_wp2_with fail
  go_loopw [30] (fun v30 wr => ∃ (j : Nat) (S : Sv), j ≤ nv ∧ v30 = .int .i64 j ∧ S.st = st ∧ SOn wr B1 S (newS vs cs inp out j) ∧ Below w'.heap.size w' wr ∧ Blk wr w'.heap.size 32 #[.slice AC nc cC, .slice AI ni cI, .slice AO no cO] ∧ S.ro w'.heap.size = .none) (fun v _ => nv - (intOf v).toNat)
  case atStart =>
    obtain ⟨S, h1, h2⟩ := HSI.out
    exact ⟨0, S, Nat.zero_le _, rfl, h1, h2, HB4.out, HK4.out, Decidable.byContradiction fun hn => by have := (h2.new _ hn).1; omega⟩
  case round =>
    obtain ⟨j, S, hj, rfl, hst, hon, hbr, hkb, hro⟩ := hrel
    have HON := Lib.hid hon; have HBR := Lib.hid hbr; have HKB := Lib.hid hkb; have HRO := Lib.hid hro; have HST := Lib.hid hst
    clear hon hkb hro
    by_cases hjn : j < nv
    · obtain ⟨g, o, v, l, A, c, hvj, hlj, _, ⟨n', c', e, hn'⟩, hgB, hcell, hcl⟩ := HCE.out j hjn
      injection e with e1 e2 e3
      subst e1; subst e2; subst e3
      have HNN := Lib.hid hn'
      obtain ⟨gv, ov, hV, hgvB, c0, c1, c2⟩ := HV.out j v hvj
      subst hV
      have hbw : Below B w wr := HB.out.trans (hbr.mono hB')
      have d0 := (hbw.cell (p := ⟨gv, ov + j * 3, none⟩) hgvB).trans c0
      have d1 := (hbw.cell (p := ⟨gv, ov + j * 3 + 1, none⟩) hgvB).trans c1
      have d2 := (hbw.cell (p := ⟨gv, ov + j * 3 + 2, none⟩) hgvB).trans c2
      have HSUC := Lib.hid (newS_succ (inp := inp) (out := out) hvj hlj)
      have HCL := Lib.hid hcl
      have HY : Hid (∀ W, Below B w W → W.cell? ⟨g, o + j, none⟩ = some (.slice A l.length c)) := Lib.hid fun W hW => (hW.cell (p := ⟨g, o + j, none⟩) hgB).trans hcell
      have HBW := Lib.hid hbw
      have hfb : S.fb (newS vs cs inp out j) = st := by unfold Sv.fb newS; rw [if_pos rfl]; exact hst
      have hlen : (newS vs cs inp out j).cells.length = j := by unfold newS; simp; have := (List.getElem?_eq_some_iff.1 hlj).1; omega
      have hlen2 : (newS vs cs inp out j).cur.vars.length = j := by unfold newS PSt.cur; simp; have := (List.getElem?_eq_some_iff.1 hvj).1; omega
      have HJN : Hid (∀ (w5 : World) (hb5 : Below wr.heap.size wr w5) (W : World) (gg : Nat) (val : Value), Below w5.heap.size w5 W → w5.heap.size ≤ gg → Blk W gg 127 #[val] → W.ownsRow w5.heap.size 3 1 val l.length (intCells l) → val.ownBlock ≠ some gg → Calls Tryz.prog 63 #[.pointer (some ⟨st, 0, none⟩), .agg #[.string v.nm, .int .u8 v.k, .int .i64 v.len], .pointer (some ⟨gg, 0, none⟩)] W fun e w' => e = .returned (.tuple #[]) ∧ (∃ S', SOn w' B1 S' (newS vs cs inp out (j + 1)) ∧ S.Ext S' w5) ∧ Fr S.O w5 w') := Lib.hid fun w5 hb5 W gg val hW hg hbl hrow hne => by
        have := new_join (HON.out.next hb5) (by have := HON.out.top.lt; have := (HON.out.new _ (show S.ro S.st ≠ .none by rw [HON.out.rst]; simp)).1; have := hb5.size; omega) (fun f hf i hi => by
          rcases hf with rfl | hf
          · rw [hlen]; unfold newS at hi; simpa using hi
          · unfold newS at hf; simp at hf) (by rw [hlen2]; omega) (by rw [hlen2]; unfold newS PSt.cur; simp) hW hg hbl hrow hne v
        rw [hfb, show (newS vs cs inp out j).fo = 0 from rfl, HSUC.out] at this
        exact this
      obtain ⟨nm, k, len⟩ := v
      dsimp only at d0 d1 d2 HJN
      obtain ⟨nl, hnl⟩ : ∃ nl, l.length = nl := ⟨_, rfl⟩
      have HNL := Lib.hid hnl
      rw [hnl] at HCL HY HJN
      have j0 : (0 : Int) ≤ (j : Int) := by omega
      have j1 : (j : Int) < (nv : Int) := by omega
      have j2 : (j : Int) < (nc : Int) := by omega
      clear hvj hlj hcell hcl c0 c1 c2 hbw hfb hlen hlen2 hnl hn' hst
      go_upto_region 10 with fail
      refine wp_nameE ?_
      intro w5 hw5
      have hb5 : Below wr.heap.size wr w5 := (by rw [hw5]; exact (by go_grown))
      have HV5 : Hid (Blk w5 wr.heap.size 72 #[.string nm, .int .u8 k, .int .i64 len]) := Lib.hid (by rw [hw5]; exact blkA)
      have HB5 := Lib.hid hb5
      have HK5 := Lib.hid (HKB.out.next hb5)
      have HJ5 := Lib.hid (HJN.out w5 hb5)
      have hnV : ¬ S.O wr.heap.size := fun h => by have := (HON.out.new _ h).2; omega
      have hnK : ¬ S.O w'.heap.size := fun h => h HRO.out
      have HBW5 := Lib.hid (HBW.out.trans (hb5.mono (by have := HBR.out.size; omega)))
      have hgS : ∀ W, Fr S.O w5 W → W.cell? ⟨g, o + j, none⟩ = some (.slice A nl c) := fun W hW => HY.out W (HBW5.out.trans (hW.below (by have := HBR.out.size; have := hb5.size; omega) fun k hk => by have := (HON.out.new k hk).1; omega))
      have HGS := Lib.hid hgS
      clear hw5 hb5 d0 d1 d2 hgS HJN HY
      refine wp_region_held_drew (S := fun W => Fr S.O w5 W) (by kernel_rfl) ((Fr.refl _ _).drew) (fun hH => ?_)
      refine wpAnyH_atN ?_
      intro wa hwa
      have hX : Below w5.heap.size w5 wa := by rw [hwa]; exact (Below.refl _ _).drew
      replace hH : Fr S.O w5 wa := Fr.of hX
      clear hwa
      refine tkQ 0 (v := ?_) rfl hH ?_
      (try simp only [PU, Act.put])
      refine tkQ 1 (v := ?_) rfl hH ?_
      (try simp only [PU, Act.put])
      refine tkQ 2 (v := ?_) rfl hH ?_
      (try simp only [PU, Act.put])
      refine tkK 3 (v := ?_) rfl ?hy hH ?_
      case hy => (intro w9_ hS9; have t := (hS9.blk HV5.out hnV).cell; clear hS9; go_simp; try with_reducible rfl)
      (try simp only [PU, Act.put])
      refine tkQ 4 (v := ?_) rfl hH ?_
      (try simp only [PU, Act.put])
      refine tkK 5 (v := ?_) rfl ?hy hH ?_
      case hy => (intro w9_ hS9; have t := (hS9.blk HK5.out hnK).cell; clear hS9; go_simp; try with_reducible rfl)
      (try simp only [PU, Act.put])
      refine tkQ 6 (v := ?_) rfl hH ?_
      (try simp only [PU, Act.put])
      refine tkQ 7 (v := ?_) rfl hH ?_
      (try simp only [PU, Act.put])
      refine tkK 8 (v := ?_) rfl ?hy hH ?_
      case hy => (intro w9_ hS9; have t := HGS.out _ hS9; clear hS9; go_simp; try with_reducible rfl)
      (try simp only [PU, Act.put])
      refine nxH 9 (by kernel_rfl) rfl (fun K hK => ?_)
      go_simp
      refine (HCL.out _ (HBW5.out.trans (hX.mono (by have := HBR.out.size; have := HB5.out.size; omega)))).mono ?_
      rintro en wb ⟨_, rfl, ou, hbn⟩
      obtain ⟨Au, cu, rfl⟩ := own_form ou
      refine hK.out _ _ (hH.next hbn) (fun hH => ?_)
      clear hK
      (try simp only [PU, Act.put])
      have hz1 := hX.size
      have hz2 := hbn.size
      replace hX := hX.next hbn
      clear hbn
      refine tkQ 10 (v := ?_) rfl hH ?_
      (try simp only [PU, Act.put])
      refine nxH 11 (by kernel_rfl) rfl (fun K hK => ?_)
      go_simp
      refine hK.out _ _ (hH.alloc _) (fun hH => ?_)
      clear hK
      (try simp only [PU, Act.put])
      refine wpAnyH_atW ?_
      intro wc hwn
      have hbn : Below wb.heap.size wb wc := by rw [hwn]; exact (Below.refl _ _).alloc (Nat.le_refl _) _
      have kc : Blk wc wb.heap.size 127 #[.slice Au nl cu] := by rw [hwn]; exact Blk.new _ _ _
      replace hH := (show Fr S.O w5 wc by rw [hwn]; exact hH)
      have hne : Value.ownBlock (.slice Au nl cu) ≠ some wb.heap.size := fun e => by have := own_lt' ou e; omega
      replace ou := own_lowE (own_below ou hbn (Nat.le_refl _)) hz1
      replace hX := hX.next hbn
      have hzc : w5.heap.size ≤ wb.heap.size := by omega
      clear hwn hbn
      refine nxH 12 (by kernel_rfl) rfl (fun K hK => ?_)
      go_simp
      refine (HJ5.out _ _ _ hX hzc kc ou hne).mono ?_
      rintro en wd ⟨rfl, ⟨S', hon', hx'⟩, hfr'⟩
      refine hK.out _ _ hfr' (fun hH => ?_)
      clear hK
      (try simp only [PU, Act.put])
      refine wpAnyH_done (by kernel_rfl) ?_ _
      have HON' := Lib.hid hon'; have HX' := Lib.hid hx'; have HF' := Lib.hid hfr'
      clear hon' hx' hfr' hX hH ou kc hne
      go_wp2_with fail
      have hs5 := HB5.out.size
      exact ⟨⟨j + 1, S', by omega, by first | rfl | go_num, HX'.out.1.trans HST.out, HON'.out, HBR.out.trans ((HB5.out.mono HBR.out.size).trans (HF'.out.below (by have := HBR.out.size; omega) fun k hk => by have := (HON.out.new k hk).1; omega)), HF'.out.blk HK5.out hnK, (HX'.out.2 _ HK5.out.lt).trans HRO.out⟩, by simp [intOf]; omega⟩
    · obtain rfl : j = nv := by omega
      go_wp2_with fail
      refine bodyPost_ret_by (results_tmp2 rfl _ _ _) rfl ?_
      have hnn : newS vs cs inp out j = ⟨cs, ⟨vs, List.range vs.length, 0⟩, [], inp, out⟩ := by rw [← HNV.out]; exact newS_end HCV.out
      refine ⟨S, B1, by rw [HST.out]; rfl, ?_, by omega, HBR.out⟩
      rw [← hnn]; exact HON.out
end
end Go.Proofs.YtakfdnnlhjhcfaaGreatDoor
namespace Bk
open Go Go.RowKit Go.Proofs.YtakfdnnlhjhcfaaGreatDoor
theorem SqAt.upS {w w' : World} {B B' d : Nat} {s : Sq} {x : Nd} (h : SqAt w B d s x) (hb : Below B w w') (hB : B ≤ B') : SqAt w' B' d s x :=
  ⟨h.1, h.2.1, fun i hi => let ⟨y, ⟨g, o, a, b, c⟩, h2⟩ := h.2.2 i hi; ⟨y, Kid.upS ⟨g, o, a, b, c⟩ hb hB, StAt.upS hb hB _ _ _ h2⟩⟩
theorem PrsAt.upS {w w' : World} {B B' d : Nat} {A : Option Addr} {l : List Pc} (h : PrsAt w B d A l) (hb : Below B w w') (hB : B ≤ B') : PrsAt w' B' d A l := fun i p hi => by
  obtain ⟨⟨g, o, e, hg, c0, c1, c2, c3, c4, c5⟩, hv, h2, h3, h4, h5⟩ := h i p hi
  refine ⟨⟨g, o, e, Nat.lt_of_lt_of_le hg hB, (hb.cell (p := ⟨g, o + i * 6, none⟩) hg).trans c0, (hb.cell (p := ⟨g, o + i * 6 + 1, none⟩) hg).trans c1, (hb.cell (p := ⟨g, o + i * 6 + 2, none⟩) hg).trans c2, (hb.cell (p := ⟨g, o + i * 6 + 3, none⟩) hg).trans c3, (hb.cell (p := ⟨g, o + i * 6 + 4, none⟩) hg).trans c4, (hb.cell (p := ⟨g, o + i * 6 + 5, none⟩) hg).trans c5⟩, ?_, h2, h3, h4, h5.upS hb hB⟩
  exact fun j v hj => let ⟨g, o, a, b, c⟩ := (hv.next hb) j v hj; ⟨g, o, a, Nat.lt_of_lt_of_le b hB, c⟩
theorem start_ok {vs : List Vr} {cs : List (List Int)} {inp out : List Int} (h : fitsS vs cs inp out = true) : (⟨cs, ⟨vs, List.range vs.length, 0⟩, [], inp, out⟩ : PSt).Ok (fun i => (vs.getD i ⟨⟨#[]⟩, 0, 0⟩).k) 32 := by
  unfold fitsS valB at h
  simp only [Bool.and_eq_true, decide_eq_true_eq] at h
  obtain ⟨⟨hv, hkd⟩, hc, hi, ho, hel⟩ := h
  refine ⟨⟨by simp, fun i v c (h1 : vs[i]? = some v) (h2 : (List.range vs.length)[i]? = some c) => ?_, Nat.zero_le _, hv⟩, fun f hf => by simp at hf, fun c l (hl : cs[c]? = some l) => ?_, hi, ho, Nat.zero_le _⟩
  · have hiv := (List.getElem?_eq_some_iff.1 h1).1
    simp only [List.getElem?_range hiv, Option.some.injEq] at h2
    subst h2
    exact ⟨by show i < cs.length; omega, by simp [List.getD_eq_getElem?_getD, h1]⟩
  · have hcl := (List.getElem?_eq_some_iff.1 hl).1
    have hvj : vs[c]? = some (vs[c]'(by omega)) := List.getElem?_eq_getElem (by omega)
    have h1 := hel c _ _ hvj hl
    have h2 := hkd _ (List.getElem_mem (show c < vs.length by omega))
    have hg : (vs.getD c ⟨⟨#[]⟩, 0, 0⟩).k = (vs[c]'(by omega)).k := by simp [List.getD_eq_getElem?_getD, hvj]
    generalize vs[c]'(by omega) = v at *
    simp only [hg]
    unfold elB at h1
    unfold kndB at h2
    by_cases h3 : v.k = 3
    · rw [if_pos h3] at h1
      have := of_decide_eq_true h1
      exact ⟨fun h => by omega, this⟩
    · rw [if_neg h3] at h1
      have h4 := of_decide_eq_true h1
      unfold fixN at h4
      by_cases h5 : v.k = 1
      · rw [if_pos h5] at h4
        exact ⟨fun _ => by omega, by omega⟩
      · rw [if_neg h5] at h4
        rw [if_neg (by omega)] at h2
        split at h2
        · have := of_decide_eq_true h2
          exact ⟨fun h => absurd h h5, by omega⟩
        · cases h2
end Bk
namespace Go.Proofs.YtakfdnnlhjhcfaaGreatDoor
open Go.RowKit Bk
def keptX (W : World) (S : Sv) (r eg : Nat) (b : Nat) : Prop := b < W.heap.size ∧ S.ro b = .none ∧ b ≠ r ∧ b ≠ eg
theorem RAt.start {W : World} {B1 r eg nq fuel : Nat} {S : Sv} {vs : List Vr} {cs : List (List Int)} {inp out : List Int} {V Q : Value} {m : Nd} (hfit : fitsS vs cs inp out = true) (hon : SOn W B1 S ⟨cs, ⟨vs, List.range vs.length, 0⟩, [], inp, out⟩) (hfu : fuel ≤ 2000)
    (hr : Blk W r 86 #[V, Q, .int .u8 m.k, .int .i64 m.num, .string m.nm, .slice m.A m.n m.cap, .pointer (some ⟨S.st, 0, none⟩), .int .i64 0, .int .i64 fuel, .slice (some ⟨eg, 0, none⟩) nq nq]) (he : Blk W eg 3 (madeCells #[.int .i64 0] nq)) (hB : B1 ≤ W.heap.size) (hrB : B1 ≤ r) (heB : B1 ≤ eg) (hrn : S.ro r = .none) (hen : S.ro eg = .none) (hne : eg ≠ r) (hn : nq ≤ 1000) :
    RAt W B1 W r ⟨V, Q, m, S.st, .slice (some ⟨eg, 0, none⟩) nq nq, keptX W S r eg⟩ S ⟨cs, ⟨vs, List.range vs.length, 0⟩, [], inp, out⟩ fuel fuel (fun i => (vs.getD i ⟨⟨#[]⟩, 0, 0⟩).k) 32 := by
  refine ⟨Below.refl _ _, ?_, hon, start_ok hfit, rfl, hrn, hrB, ⟨eg, nq, nq, List.replicate nq 0, rfl, ?_, by simp, hen, hne⟩, Nat.le_refl _, by omega, hfu, Nat.le_refl _, fun b hb => ⟨hb.1, hb.2.1, hb.2.2.1, fun h => hb.2.2.2 (by injection h with h; exact h.symm)⟩, fun _ _ => rfl⟩
  · unfold Rn.cells
    dsimp only
    rw [show (fuel : Int) - (fuel : Int) = 0 by omega]
    exact hr
  · have hsz : (madeCells #[.int .i64 0] nq).size = nq := by simp [madeCells]
    refine own_of_get he heB (Nat.le_refl _) (by unfold maxLen; omega) hsz (by simp [intCells]) fun j u hu => ?_
    have hj : j < nq := by have := (List.getElem?_eq_some_iff.1 hu).1; simpa [intCells] using this
    have : u = .int .i64 0 := by simpa [intCells, hj, List.getElem?_replicate] using hu.symm
    subst this
    rw [Array.getElem?_eq_getElem (by rw [hsz]; exact hj)]
    simp [madeCells, Nat.mod_one]
end Go.Proofs.YtakfdnnlhjhcfaaGreatDoor
namespace Bk
def Ne0 (a : Mo) : Prop := ∀ σ f x, a σ f = .error x → x ≠ 0
def Ne0S (g : PSt → Rs) : Prop := ∀ σ x, g σ = .error x → x ≠ 0
theorem Ne0.ok : Ne0 okM := fun σ f x h => by cases h
theorem Ne0.err {e : Int} (h : e ≠ 0) : Ne0 fun _ _ => .error e := fun σ f x h1 => by injection h1 with h1; subst h1; exact h
theorem Ne0.seq {a b : Mo} (ha : Ne0 a) (hb : Ne0 b) : Ne0 (a.seq b) := fun σ f x h => by
  unfold Mo.seq at h
  cases h1 : a σ f with
  | error e => rw [h1] at h; injection h with h; subst h; exact ha _ _ _ h1
  | ok r => rw [h1] at h; exact hb _ _ _ h
theorem Ne0.step : Ne0 stepM := fun σ f x h => by
  cases f with
  | zero => injection h with h; subst h; decide
  | succ f => cases h
theorem Ne0.lift {g : PSt → Rs} (h : Ne0S g) : Ne0 (liftM g) := fun σ f x h1 => by
  unfold liftM at h1
  cases h2 : g σ with
  | error e => rw [h2] at h1; injection h1 with h1; subst h1; exact h _ _ h2
  | ok s => rw [h2] at h1; cases h1
theorem Ne0.value {e : Ex} {k : Int → Mo} (hk : ∀ v, Ne0 (k v)) : Ne0 (valueM e k) := fun σ f x h => by
  unfold valueM at h
  split at h
  · rename_i h0; injection h with h; subst h; exact h0
  · exact hk _ _ _ _ h
theorem Ne0.holds {e : Ex} {k : Bool → Mo} (hk : ∀ v, Ne0 (k v)) : Ne0 (holdsM e k) := Ne0.step.seq (Ne0.value fun _ => hk _)
theorem Ne0.assert (e : Ex) (w : Bool) : Ne0 (assertM e w) := Ne0.holds fun b => by
  by_cases h : b = w
  · rw [if_pos h]; exact Ne0.ok
  · rw [if_neg h]; exact Ne0.err (by decide)
theorem Ne0S.place {σ : PSt} {p : Ex} {r : Int × Int} {k : Nat → Int → Rs} (hk : ∀ i v x, k i v = .error x → x ≠ 0) {x : Int} (h : placeM σ p r k = .error x) : x ≠ 0 := by
  unfold placeM at h
  split at h
  · rename_i h0; injection h with h; subst h; exact h0
  · split at h
    · rename_i h0; injection h with h; subst h; exact h0
    · split at h
      · injection h with h; subst h; decide
      · exact hk _ _ _ h
theorem Ne0S.upd (op : Int) (p e : Ex) : Ne0S (updM op p e) := fun σ x h => by
  unfold updM at h
  split at h
  · injection h with h; subst h; decide
  · split at h
    · rename_i h0; injection h with h; subst h; exact h0
    · exact Ne0S.place (fun i v x h => by cases h) h
theorem Ne0S.swp (p q : Ex) : Ne0S (swpM p q) := fun σ x h => by
  unfold swpM at h
  split at h
  · rename_i h0; injection h with h; subst h; exact h0
  · refine Ne0S.place (fun i v x h => ?_) h
    split at h
    · injection h with h; subst h; decide
    · cases h
theorem Ne0S.stk (op : Int) (s : ByteArray) (p : Ex) : Ne0S (stkM op s p) := fun σ x h => by
  unfold stkM at h
  split at h
  · rename_i h0; injection h with h; subst h; exact h0
  · refine Ne0S.place (fun i v x h => ?_) h
    repeat' split at h
    all_goals first | (injection h with h; subst h; decide) | cases h
theorem Ne0S.tap (op : Int) (p : Ex) : Ne0S (tapM op p) := fun σ x h => by
  unfold tapM at h
  split at h
  · rename_i h0; injection h with h; subst h; exact h0
  · refine Ne0S.place (fun i v x h => ?_) h
    repeat' split at h
    all_goals first | (injection h with h; subst h; decide) | cases h
theorem Ne0S.open_ (v : Vr) (l : List Int) : Ne0S (openM v l) := fun σ x h => by
  unfold openM at h
  split at h
  · injection h with h; subst h; decide
  · cases h
theorem Ne0S.close (s : ByteArray) (v : Int) : Ne0S (closeM s v) := fun σ x h => by
  unfold closeM at h
  repeat' split at h
  all_goals first | (injection h with h; subst h; decide) | cases h
theorem Ne0S.leave : Ne0S leaveM := fun σ x h => by
  unfold leaveM at h
  split at h
  · injection h with h; subst h; decide
  · cases h
theorem argsM_ne0 {σ : PSt} : ∀ {ps : List Vr} {ss : List ByteArray} {x : Int}, argsM σ ps ss = .error x → x ≠ 0
  | [], _, x, h => by cases h
  | _ :: _, [], x, h => by simp only [argsM] at h; injection h with h; subst h; decide
  | v :: ps, s :: ss, x, h => by
    simp only [argsM] at h
    split at h
    · injection h with h; subst h; decide
    · split at h
      · injection h with h; subst h; decide
      · cases h1 : argsM σ ps ss with
        | error e => rw [h1] at h; injection h with h; subst h; exact argsM_ne0 h1
        | ok l => rw [h1] at h; cases h
theorem Ne0S.enter (ps : List Vr) (ss : List ByteArray) : Ne0S (enterM ps ss) := fun σ x h => by
  unfold enterM at h
  split at h
  · injection h with h; subst h; decide
  · cases h1 : argsM σ ps ss with
    | error e => rw [h1] at h; injection h with h; subst h; exact argsM_ne0 h1
    | ok l =>
      rw [h1] at h
      dsimp only at h
      split at h
      · injection h with h; subst h; decide
      · cases h
theorem Ne0.basic {g : PSt → Rs} (h : Ne0S g) : Ne0 (basicM g) := Ne0.step.seq (Ne0.lift h)
theorem Ne0.loop {a b : Mo} (ha : Ne0 a) (hb : Ne0 b) (entry test : Ex) : ∀ n, Ne0 (loopM a b entry test n)
  | 0 => Ne0.err (by decide)
  | n + 1 => ha.seq (Ne0.holds fun t => by
    cases t with
    | true => exact Ne0.ok
    | false => exact hb.seq ((Ne0.assert entry false).seq (Ne0.loop ha hb entry test n)))
theorem Ne0.put {a b : Mo} (back : Bool) (ha : Ne0 a) (hb : Ne0 b) : Ne0 (put back a b) := by
  cases back with
  | true => exact hb.seq ha
  | false => exact ha.seq hb
theorem Ne0.execS (procs : List Pr) (n : Nat) (inner : Bool → Sq → Mo) (hi : ∀ b s, Ne0 (inner b s)) (back : Bool) : ∀ s, Ne0 (Bk.execS procs n inner back s)
  | .nil => Ne0.ok
  | .upd op p e r => Ne0.put back (Ne0.basic (Ne0S.upd _ _ _)) (Ne0.execS procs n inner hi back r)
  | .swp p q r => Ne0.put back (Ne0.basic (Ne0S.swp _ _)) (Ne0.execS procs n inner hi back r)
  | .stk op s p r => Ne0.put back (Ne0.basic (Ne0S.stk _ _ _)) (Ne0.execS procs n inner hi back r)
  | .tap op p r => Ne0.put back (Ne0.basic (Ne0S.tap _ _)) (Ne0.execS procs n inner hi back r)
  | .cal op s ss r => by
    refine Ne0.put back ?_ (Ne0.execS procs n inner hi back r)
    unfold callM
    split
    · exact Ne0.err (by decide)
    · exact Ne0.step.seq ((Ne0.lift (Ne0S.enter _ _)).seq ((hi _ _).seq (Ne0.step.seq (Ne0.lift Ne0S.leave))))
  | .ifs e a b e' r => Ne0.put back (Ne0.holds fun t => (hi _ _).seq (Ne0.assert _ t)) (Ne0.execS procs n inner hi back r)
  | .frm e a b e' r => Ne0.put back ((Ne0.assert _ _).seq (Ne0.loop (hi _ _) (hi _ _) _ _ n)) (Ne0.execS procs n inner hi back r)
  | .loc x e b e' r => Ne0.put back (Ne0.step.seq ((Ne0.value fun v => Ne0.lift (Ne0S.open_ _ _)).seq ((hi _ _).seq (Ne0.step.seq (Ne0.value fun v => Ne0.lift (Ne0S.close _ _)))))) (Ne0.execS procs n inner hi back r)
  | .lst x b r => Ne0.put back (Ne0.step.seq ((Ne0.lift (Ne0S.open_ _ _)).seq ((hi _ _).seq (Ne0.step.seq (Ne0.lift (Ne0S.close _ _)))))) (Ne0.execS procs n inner hi back r)
theorem Ne0.execP (procs : List Pr) : ∀ n back s, Ne0 (Bk.execP procs n back s)
  | 0, _, _ => Ne0.err (by decide)
  | n + 1, back, s => Ne0.execS procs n (Bk.execP procs n) (fun b s => Ne0.execP procs n b s) back s
theorem runP_ne0 {p : Pg} {back : Bool} {cells : List (List Int)} {inp out : List Int} {k : Nat} {x : Int} (h : runP p back cells inp out k = .error x) : x ≠ 0 := Ne0.execP _ _ _ _ _ _ _ h
end Bk
