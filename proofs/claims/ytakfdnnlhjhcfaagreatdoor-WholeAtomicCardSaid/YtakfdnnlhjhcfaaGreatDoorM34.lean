/- WhJe WhJf. -/
import Derived.Test.YtakfdnnlhjhcfaaGreatDoorZWhJd
set_option linter.unusedVariables false
set_option linter.unusedSimpArgs false
set_option linter.unusedSimpArgs false
set_option maxRecDepth 100000
set_option maxHeartbeats 4000000
namespace Bk
open Go Go.RowKit
def PSt.fin (σ : PSt) : List (List Int) := (σ.base.idx.take (σ.base.idx.length - σ.base.locals)).map fun i => σ.cells.getD i []
def rowS (xs : List Value) (m : Nat) : Array Value := (xs ++ List.replicate m (Value.slice none 0 0)).toArray
theorem rowS_get {xs : List Value} {m : Nat} : (rowS xs (m + 1))[xs.length]? = some (.slice none 0 0) := by
  unfold rowS
  simp only [List.getElem?_toArray]
  rw [List.getElem?_append_right (Nat.le_refl _), Nat.sub_self, List.replicate_succ]; rfl
theorem rowS_set {xs : List Value} {m : Nat} (u : Value) : (rowS xs (m + 1)).setIfInBounds xs.length u = rowS (xs ++ [u]) m := by
  unfold rowS
  simp only [List.setIfInBounds_toArray]
  congr 1
  rw [List.set_append, if_neg (by omega), Nat.sub_self, List.replicate_succ]
  simp
theorem rowS_end {xs : List Value} {i : Nat} {u : Value} (h : xs[i]? = some u) : (rowS xs 0)[i]? = some u := by
  unfold rowS
  simpa using h
end Bk
namespace Go.Proofs.YtakfdnnlhjhcfaaGreatDoor
open Go.RowKit Bk
section
variable {w w' : World} {B : Nat} {S : Sv} {σ : PSt} {kd : Nat → Int} {m : Nat}
theorem c_State (h : SOn w B S σ) (ho : σ.Ok kd m) (hm : m ≤ 5000) :
    Calls Tryz.prog 45 #[.pointer (some ⟨S.st, 0, none⟩)] w fun e w' => ∃ uC uI uO, e = .returned (.agg #[uC, uI, uO]) ∧ SW w' (fun k => w.heap.size ≤ k ∧ k < w'.heap.size) uC uI uO σ.fin σ.inp σ.out ∧ Below w.heap.size w w' := by
  have HIN := Lib.hid (fun W (hW : Below w.heap.size w W) => c_TapeIn (w := W) (h.tape.next hW) (Sl.ownS (own_below h.inp hW (Nat.le_refl _))) ho.inp)
  have HOUT := Lib.hid (fun W (hW : Below w.heap.size w W) => c_TapeOut (w := W) (h.tape.next hW) (Sl.ownS (own_below h.out hW (Nat.le_refl _))) ho.out)
  obtain ⟨AB, cB, eB⟩ := own_form h.base.refs
  obtain ⟨AV, cV, eV⟩ := own_form h.base.vars
  have hlen := ho.base.len
  have hloc := ho.base.loc
  have hbd := ho.base.bd
  have hTop := h.top
  rw [eB, eV] at hTop
  have hrefs := h.base.refs
  rw [eB] at hrefs
  have HT := Lib.hid hTop
  have HCE : Hid (∀ j, j < σ.base.idx.length - σ.base.locals → ∃ (g o : Nat) (b : Nat) (l : List Int) (A : Option Addr) (c : Nat), AB = some ⟨g, o, none⟩ ∧ σ.fin[j]? = some l ∧ w.cell? ⟨g, o + j, none⟩ = some (.pointer (some ⟨b, 0, none⟩)) ∧ Blk w b 127 #[.slice A l.length c] ∧ g < w.heap.size ∧ ∀ W, Below w.heap.size w W → Calls Tryz.prog 30 #[.slice A l.length c] W fun e w' => ∃ v, e = .returned v ∧ w'.ownsRow W.heap.size 3 1 v l.length (intCells l) ∧ Below W.heap.size W w') := Lib.hid fun j hj => by
    have hji : j < σ.base.idx.length := by omega
    obtain ⟨i, hi⟩ : ∃ i, σ.base.idx[j]? = some i := ⟨_, List.getElem?_eq_getElem hji⟩
    obtain ⟨v, hv⟩ : ∃ v, σ.base.vars[j]? = some v := ⟨_, List.getElem?_eq_getElem (by omega)⟩
    have hic := (ho.base.kind j v i hv hi).1
    have hl : σ.cells[i]? = some (σ.cells[i]'hic) := List.getElem?_eq_getElem hic
    have hcell := h.cells i _ hl
    obtain ⟨A, c, e1⟩ := own_form hcell.own
    obtain ⟨A', n', hAA, hR⟩ : ∃ A' c', Value.slice AB σ.base.idx.length cB = .slice A' σ.base.idx.length c' ∧ Rd w (fun b => B ≤ b ∧ b < w.heap.size) 1 A' σ.base.idx.length (S.ptrs σ.base.idx) := by
      obtain ⟨A', c', e, _, _, hR⟩ := Sl.of_own hrefs
      exact ⟨A', c', e, hR⟩
    injection hAA with hAA _ _
    subst hAA
    obtain ⟨g, o, e2, hg, hc⟩ := hR.2 (by omega)
    have hb := hcell.blk
    rw [e1] at hb
    refine ⟨g, o, S.cb i, σ.cells[i]'hic, A, c, e2, ?_, hc j _ (by simp [Sv.ptrs, hi]), hb, hg.2, fun W hW => ?_⟩
    · unfold PSt.fin
      rw [List.getElem?_map, List.getElem?_take, if_pos hj, hi]
      simp [hic]
    · have := c_CloneI (w := W) (Sl.belowS (Sl.ownS hcell.own) hW) (by have := (ho.one i _ hl).2; omega)
      rwa [e1] at this
  have hfl : σ.fin.length = σ.base.idx.length - σ.base.locals := by unfold PSt.fin; simp
  have hw1 : IntKind.i64.wrap ((σ.base.idx.length : Int) - (σ.base.locals : Int)) = ((σ.base.idx.length - σ.base.locals : Nat) : Int) := (wrap_small _ (by omega) (by omega)).trans (by omega)
  obtain ⟨n, hn⟩ : ∃ n, σ.base.idx.length - σ.base.locals = n := ⟨_, rfl⟩
  rw [hn] at HCE hfl hw1
  have hn5 : n ≤ 5000 := by omega
  have hnl : n ≤ σ.base.idx.length := by omega
  have HFL := Lib.hid hfl
  obtain ⟨fc, hfc⟩ : ∃ fc, σ.fin = fc := ⟨_, rfl⟩
  rw [hfc] at HCE HFL ⊢
  obtain ⟨i2, li, lz, ls, lb⟩ := info_parts info_ints
  have mkC : ∀ W : World, (Instr.makeSlice 29 (.int .i64 (n : Int)) (.int .i64 (n : Int))).run Tryz.prog W = .ok (.slice (some ⟨W.heap.size, 0, none⟩) n n) (W.alloc (.cells (madeCells #[.slice none 0 0] n) 30)) := fun W => by
    have := run_make_rowN (P := Tryz.prog) 29 30 i2 _ Tryz.underlying29 li lz .i64 .i64 n n (Nat.le_refl _) (by rw [lb]; omega) (by omega) W
    rw [ls, Nat.mul_one] at this; exact this
  have MK0 : Hid (madeCells #[.slice none 0 0] n = rowS [] n) := Lib.hid (by
    refine Array.ext (by simp [madeCells, rowS]) fun i h1 h2 => ?_
    simp [madeCells, rowS, Nat.mod_one])
  obtain ⟨ni, hni⟩ : ∃ n, σ.inp.length = n := ⟨_, rfl⟩
  obtain ⟨no, hno⟩ : ∃ n, σ.out.length = n := ⟨_, rfl⟩
  rw [hni] at HIN
  rw [hno] at HOUT
  have HNI := Lib.hid hni; have HNO := Lib.hid hno
  have hstl := h.top.lt
  generalize σ.base.idx.length = nb at *
  generalize hlo : σ.base.locals = lo at *
  generalize σ.base.vars.length = nv at *
  generalize S.bv = bv at *
  generalize S.bc = bcv at *
  subst eV; subst eB
  generalize σ.inp = sin at *
  generalize σ.out = sout at *
  generalize S.st = st at *
  generalize hcv : S.cv = cv at *
  obtain ⟨CA, cn, cc, rfl⟩ : ∃ A n c, cv = .slice A n c := by rw [← hcv]; obtain ⟨A, c, e⟩ := own_form h.calls; exact ⟨A, _, c, e⟩
  generalize S.tb = tb at *
  clear h ho hlen hloc hbd hTop hrefs hn hfl hfc hlo hcv hni hno li lz ls lb
  obtain ⟨z_1, T_1, F_1⟩ := HT.out.open_
  have l0 : (0 : Int) ≤ (n : Int) := by omega
  go_enter Tryz.func45, Tryz.ntmps45
  go_upto_region 3 with fail
  refine wp_nameE ?_
  intro w1 hw1'
  have hb1 : Below w.heap.size w w1 := (by rw [hw1']; exact (by go_grown))
  have HK2 : Hid (Blk w1 w.heap.size 32 #[.slice none 0 0, .slice none 0 0, .slice none 0 0]) := Lib.hid (by rw [hw1']; exact Blk.new _ _ _)
  have HB1 := Lib.hid hb1
  have hs1 := HK2.out.lt
  have HT1 := Lib.hid (HT.out.next hb1)
  clear hw1' hb1 z_1 T_1 F_1
  obtain ⟨z_1, T_1, F_1⟩ := HT1.out.open_
  go_region
  refine then_name ?_
  intro wq hwq
  have hbq : Below w1.heap.size w1 wq := (by rw [hwq]; exact (by go_grown))
  have HBQ := Lib.hid hbq
  have hsq := hbq.size
  clear hwq hbq z_1 T_1 F_1
  go_upto_region 5 with fail
  refine wp_nameE ?_
  intro w2 hw2
  have HC0 : Hid (Blk w2 wq.heap.size 30 (rowS [] n)) := Lib.hid (by rw [hw2, ← MK0.out]; exact Blk.new _ _ _)
  have HB2 := Lib.hid (HBQ.out.next (show Below wq.heap.size wq w2 by rw [hw2]; exact (by go_grown)))
  have hs2 := HB2.out.size
  have hc2 := HC0.out.lt
  clear hw2 MK0 mkC HBQ
  generalize wq.heap.size = bc at *
  go_wp2_with fail
  go_loopw [25] (fun v25 wr => ∃ (j : Nat) (xs : List Value), j ≤ n ∧ v25 = .int .i64 j ∧ xs.length = j ∧ Blk wr bc 30 (rowS xs (n - j)) ∧ (∀ (i : Nat) (u : Value) (l : List Int), xs[i]? = some u → fc[i]? = some l → Sl wr (fun k => w2.heap.size ≤ k ∧ k < wr.heap.size) 1 u l.length (intCells l)) ∧ Fr (fun k => k = bc) w2 wr) (fun v _ => n - (intOf v).toNat)
  case atStart => exact ⟨0, [], Nat.zero_le _, rfl, rfl, HC0.out, fun i u l h => by simp at h, Fr.refl _ _⟩
  case round =>
    obtain ⟨j, xs, hj, rfl, hxl, hrow, hel, hfr⟩ := hrel
    have hbr1 : Below w1.heap.size w1 wr := HB2.out.trans (hfr.below hs2 fun k hk => by omega)
    have HBR := Lib.hid hbr1
    have HBW := Lib.hid (HB1.out.trans (hbr1.mono (by omega)))
    have HRO := Lib.hid hrow; have HEL := Lib.hid hel; have HFR := Lib.hid hfr; have HXL := Lib.hid hxl
    have hTr := HT1.out.next hbr1
    have hsr := hfr.size
    clear hrow hel hfr hbr1 hxl
    by_cases hlt : j < n
    · obtain ⟨g, o, b, l, A, c, hgA, hfl, hrc, hbb, hgl, hcl⟩ := HCE.out j hlt
      have HCL := Lib.hid hcl; have HF := Lib.hid hfl
      have e0 : wr.cell? ⟨g, o + j, none⟩ = some (.pointer (some ⟨b, 0, none⟩)) := (HBW.out.cell (p := ⟨g, o + j, none⟩) hgl).trans hrc
      have e1 : wr.cell? ⟨b, 0, none⟩ = some (.slice A l.length c) := by rw [(hbb.next HBW.out).cell]; rfl
      have i0 : (0 : Int) ≤ (j : Int) := by omega
      have i1 : (j : Int) < (n : Int) := by omega
      have i2 : (j : Int) < (nb : Int) := by omega
      obtain ⟨nl, hnl⟩ : ∃ nl, l.length = nl := ⟨_, rfl⟩
      have HNL := Lib.hid hnl
      rw [hnl] at e1 HCL
      obtain ⟨mm, hmm⟩ : ∃ mm, n - j = mm + 1 := ⟨n - j - 1, by omega⟩
      have HMM := Lib.hid hmm
      have HRO2 : Hid (Blk wr bc 30 (rowS xs (mm + 1))) := Lib.hid (by rw [← HMM.out]; exact HRO.out)
      obtain ⟨z_1, T_1, F_1⟩ := hTr.open_
      subst hgA
      clear hcl hfl hrc hbb hnl hmm hTr HIN HOUT HCE
      go_wp2_with fail
      refine (HCL.out wr HBW.out).mono ?_
      rintro e w3 ⟨u, rfl, ou, hb3⟩
      have HU := Lib.hid ou; have HB3 := Lib.hid hb3
      have hrow3 := HRO2.out.next hb3
      have ca : w3.cell? ⟨bc, j, none⟩ = some (.slice none 0 0) := by rw [hrow3.cell, ← HXL.out]; exact rowS_get
      have fa := hrow3.frozen j
      have za := hrow3.lt
      have hs3 := hb3.size
      obtain ⟨Au, cu, rfl⟩ := own_form ou
      clear ou hb3 hrow3 z_1 T_1 F_1 e0 e1
      go_wp2_with fail
      have hrow4 : Blk (w3.setCell ⟨bc, j, none⟩ (.slice Au nl cu)) bc 30 (rowS (xs ++ [.slice Au nl cu]) mm) := by rw [← rowS_set, HXL.out]; exact (HRO2.out.next HB3.out).set_ _ _
      have hf4 : Fr (fun k => k = bc) w3 (w3.setCell ⟨bc, j, none⟩ (.slice Au nl cu)) := by refine Fr.set ?_ ?_ _; rotate_left; exact rfl; exact Fr.refl _ _
      have hs4 := hf4.size
      refine ⟨⟨j + 1, xs ++ [.slice Au nl cu], by omega, by first | rfl | go_num, by have := HXL.out; simp; omega, by rw [show n - (j + 1) = mm by have := HMM.out; omega]; exact hrow4, fun i u l' h1 h2 => ?_, (HFR.out.next HB3.out).trans hf4⟩, (by simp [intOf]; try omega)⟩
      by_cases hij : i < xs.length
      · rw [List.getElem?_append_left hij] at h1
        exact Sl.frS (HEL.out i u l' h1 h2) ((Fr.of (O := fun k => k = bc) HB3.out).trans hf4) fun k hk => by obtain ⟨h3, h4⟩ := hk; exact ⟨h4, by omega, h3, by omega⟩
      · have hxl := HXL.out
        have hi : i = j := by have := (List.getElem?_eq_some_iff.1 h1).1; simp at this; omega
        subst hi
        rw [List.getElem?_append_right (by omega), hxl, Nat.sub_self] at h1
        simp at h1; subst h1
        rw [HF.out] at h2; injection h2 with h2; subst h2
        rw [HNL.out]
        exact Sl.frS (Sl.of_own HU.out) hf4 fun k hk => by obtain ⟨h3, h4⟩ := hk; exact ⟨h4, by omega, by omega, by omega⟩
    · obtain rfl : j = n := (by omega)
      have HKT := Lib.hid hTr
      have HR2 := Lib.hid (HK2.out.below HBR.out hs1)
      have hne : ¬ st = w.heap.size := by omega
      have hne2 : ¬ bc = w.heap.size := by omega
      clear hTr HCE hlt
      go_wp2_with fail
      refine wp_region_held_drew (S := fun W => Fr (fun k => k = w.heap.size) wr W) (by kernel_rfl) ((Fr.refl _ _).drew) (fun hH => ?_)
      refine wpAnyH_atN ?_
      intro wa hwa
      have hX : Below wr.heap.size wr wa := by rw [hwa]; exact (Below.refl _ _).drew
      replace hH : Fr (fun k => k = w.heap.size) wr wa := Fr.of hX
      have hza := hX.size
      clear hwa
      refine tkQ 0 (v := ?_) rfl hH ?_
      (try simp only [PU, Act.put])
      refine tkQ 1 (v := ?_) rfl hH ?_
      (try simp only [PU, Act.put])
      refine tkQ 2 (v := ?_) rfl hH ?_
      (try simp only [PU, Act.put])
      refine tkQ 3 (v := ?_) rfl hH ?_
      (try simp only [PU, Act.put])
      refine tkK 4 (v := ?_) rfl ?hy hH ?_
      case hy => (intro w9_ hS9; have t := (hS9.blk HKT.out hne).cell; clear hS9; go_simp; try with_reducible rfl)
      (try simp only [PU, Act.put])
      refine tkQ 6 (v := ?_) rfl hH ?_
      (try simp only [PU, Act.put])
      refine tkQ 7 (v := ?_) rfl hH ?_
      (try simp only [PU, Act.put])
      refine tkQ 8 (v := ?_) rfl hH ?_
      (try simp only [PU, Act.put])
      refine tkK 9 (v := ?_) rfl ?hy hH ?_
      case hy => (intro w9_ hS9; have t := (hS9.blk HKT.out hne).cell; clear hS9; go_simp; try with_reducible rfl)
      (try simp only [PU, Act.put])
      refine nxH 5 (by kernel_rfl) rfl (fun K hK => ?_)
      go_simp
      refine (HIN.out _ (HBW.out.next hX)).mono ?_
      rintro en wb ⟨_, rfl, o1, hbn⟩
      obtain ⟨A1, c1, rfl⟩ := own_form o1
      refine hK.out _ _ (hH.next hbn) (fun hH => ?_)
      clear hK
      (try simp only [PU, Act.put])
      have s1 := Sl.of_own o1
      have hz1 := hbn.size
      replace hX := hX.next hbn
      clear o1 hbn
      refine nxH 10 (by kernel_rfl) rfl (fun K hK => ?_)
      go_simp
      refine (HOUT.out _ (HBW.out.next hX)).mono ?_
      rintro en wc ⟨_, rfl, o2, hbn⟩
      obtain ⟨A2, c2, rfl⟩ := own_form o2
      refine hK.out _ _ (hH.next hbn) (fun hH => ?_)
      clear hK
      (try simp only [PU, Act.put])
      replace s1 := Sl.numS s1 hbn (Nat.le_refl _)
      have s2 := Sl.of_own o2
      have hz2 := hbn.size
      replace hX := hX.next hbn
      clear o2 hbn
      refine tkQ 11 (v := ?_) rfl hH ?_
      (try simp only [PU, Act.put])
      refine nxH 12 (by kernel_rfl) rfl (fun K hK => ?_)
      obtain ⟨z_2, T_2, F_2⟩ := (HR2.out.next hX).open_
      go_simp
      refine hK.out _ _ ?h1 (fun hH => ?_)
      case h1 => (repeat (first | exact hH | (refine Fr.set ?_ ?_ _; rotate_left; exact rfl)))
      clear hK
      (try simp only [PU, Act.put])
      clear z_2 T_2 F_2
      refine wpAnyH_done (by kernel_rfl) ?_ _
      generalize hwf : World.setCell _ _ _ = wf at *
      have kf : Blk wf w.heap.size 32 #[.slice (some ⟨bc, 0, none⟩) j j, .slice A1 ni c1, .slice A2 no c2] := (by rw [← hwf]; simpa using (((HR2.out.next hX).set_ 0 (.slice (some ⟨bc, 0, none⟩) j j)).set_ 1 (.slice A1 ni c1)).set_ 2 (.slice A2 no c2))
      have ff : Fr (fun k => k = w.heap.size) wc wf := (by rw [← hwf]; repeat (first | exact Fr.refl _ _ | (refine Fr.set ?_ ?_ _; rotate_left; exact rfl)))
      have hzf := ff.size; have hzx := hX.size
      have HKF := Lib.hid kf; have HFF := Lib.hid ff; have HX := Lib.hid hX; have HS1 := Lib.hid s1; have HS2 := Lib.hid s2; have HH := Lib.hid hH
      clear hwf kf ff hX s1 s2 hH
      go_wp2_with fail
      refine bodyPost_ret_by (results_cellS rfl _ _ w.heap.size _ _ _ rfl HKF.out Tryz.underlying32 rfl (by rw [info_stateS]; rfl)) rfl ?_
      have hrow := HH.out.blk HRO.out hne2
      rw [Nat.sub_self] at hrow
      refine ⟨_, _, _, rfl, ⟨⟨xs, ?_, fun i u l h1 h2 => ?_⟩, ?_, ?_⟩, ?_⟩
      · rw [HFL.out]
        refine ⟨_, j, rfl, Nat.le_refl _, (fun h => by cases h), by rw [HXL.out, Nat.mul_one], fun _ => ⟨bc, 0, rfl, ⟨by omega, by omega⟩, fun k v hk => ?_⟩⟩
        rw [hrow.cell, Nat.zero_add]
        exact rowS_end hk
      · exact Sl.frS (HEL.out i u l h1 h2) HH.out fun k hk => by obtain ⟨h3, h4⟩ := hk; exact ⟨h4, by omega, by omega, by omega⟩
      · rw [HNI.out]; exact Sl.frS HS1.out HFF.out fun k hk => by obtain ⟨h3, h4⟩ := hk; exact ⟨by omega, by omega, by omega, by omega⟩
      · rw [HNO.out]; exact Sl.frS HS2.out HFF.out fun k hk => by obtain ⟨h3, h4⟩ := hk; exact ⟨by omega, by omega, by omega, by omega⟩
      · exact HBW.out.trans (HH.out.below HBW.out.size fun k hk => by omega)
end
end Go.Proofs.YtakfdnnlhjhcfaaGreatDoor
namespace Bk
def kndB (v : Vr) : Bool := if v.k = 1 ∨ v.k = 3 then decide (v.len = 0) else if v.k = 2 then decide (1 ≤ v.len ∧ v.len ≤ 16) else false
open Classical in
noncomputable def valB (vs : List Vr) : Bool := decide (vs.length ≤ 32) && decide (∀ v ∈ vs, kndB v = true)
def fixN (v : Vr) : Int := if v.k = 1 then 1 else v.len
def elB (v : Vr) (n : Nat) : Bool := if v.k = 3 then decide (n ≤ 1000) else decide ((n : Int) = fixN v)
open Classical in
noncomputable def fitsS (vs : List Vr) (cs : List (List Int)) (inp out : List Int) : Bool := valB vs && (decide (cs.length = vs.length) && (decide (inp.length ≤ 4096) && (decide (out.length ≤ 4096) && decide (∀ (i : Nat) (v : Vr) (l : List Int), vs[i]? = some v → cs[i]? = some l → elB v l.length = true))))
end Bk
namespace Go.Proofs.YtakfdnnlhjhcfaaGreatDoor
open Go.RowKit Bk
theorem e_kinds {w : World} {B : Nat} (hBw : B ≤ w.heap.size) (V : Option Addr) (nv cv : Nat) (vs : List Vr) (hv : VsAt w B V vs) (hnv : vs.length = nv) (hnv2 : nv ≤ 32) (r : Bool) (hr : r = true ↔ ∀ v ∈ vs, kndB v = true) (w' : World) (hb : Below B w w') :
    Calls Tryz.prog 36 #[.slice V nv cv] w' fun en w'' => en = .returned (.bool r) ∧ Below w'.heap.size w' w'' := by
  have HV := Lib.hid hv; have HNV := Lib.hid hnv; have HB := Lib.hid hb; have HR := Lib.hid hr
  clear hv hnv hb hr
  have hgt : decide (32 < (nv : Int)) = false := by simp; omega
  go_enter Tryz.func36, Tryz.ntmps36
  go_wp2_with fail
  go_loopw [10] (fun v10 wr => ∃ j : Nat, j ≤ nv ∧ v10 = .int .i64 j ∧ (∀ i v, i < j → vs[i]? = some v → kndB v = true) ∧ Below w'.heap.size w' wr) (fun v _ => nv - (intOf v).toNat)
  case atStart => exact ⟨0, Nat.zero_le _, rfl, (fun i v hi => absurd hi (Nat.not_lt_zero _)), Below.refl _ _⟩
  case round =>
    obtain ⟨j, hj, rfl, hpre, hbr⟩ := hrel
    have HP := Lib.hid hpre; have HBR := Lib.hid hbr
    clear hpre
    by_cases hjn : j < nv
    · obtain ⟨v, hvj⟩ : ∃ v, vs[j]? = some v := ⟨_, List.getElem?_eq_getElem (by have := HNV.out; omega)⟩
      obtain ⟨g, o, hA2, hgB, c0, c1, c2⟩ := (HV.out.next HB.out) j v hvj
      subst hA2
      have hgw : g < w'.heap.size := by have := HB.out.size; omega
      have d0 := (hbr.cell (p := ⟨g, o + j * 3, none⟩) hgw).trans c0
      have d1 := (hbr.cell (p := ⟨g, o + j * 3 + 1, none⟩) hgw).trans c1
      have d2 := (hbr.cell (p := ⟨g, o + j * 3 + 2, none⟩) hgw).trans c2
      have HF : Hid (kndB v = false → r = false) := Lib.hid fun h => by
        cases r with
        | false => rfl
        | true => have := HR.out.1 rfl v (List.mem_of_getElem? hvj); rw [h] at this; cases this
      have HS : Hid (kndB v = true → ∀ i u, i < j + 1 → vs[i]? = some u → kndB u = true) := Lib.hid fun h i u hi hu => (Nat.lt_succ_iff_lt_or_eq.1 hi).elim (fun h1 => HP.out i u h1 hu) (fun h1 => by subst h1; rw [hvj] at hu; injection hu with hu; subst hu; exact h)
      obtain ⟨nm, k, len⟩ := v
      dsimp only at d0 d1 d2
      have j0 : (0 : Int) ≤ (j : Int) := by omega
      have j1 : (j : Int) < (nv : Int) := by omega
      clear c0 c1 c2 hvj hbr
      go_upto_region 6 with fail
      refine wp_nameE ?_
      intro w2 hw2
      have hb2 : Below wr.heap.size wr w2 := by rw [hw2]; exact (by go_grown)
      have K2 : Blk w2 wr.heap.size 72 #[.string nm, .int .u8 k, .int .i64 len] := by rw [hw2]; exact blkA
      have HB2 := Lib.hid (HBR.out.next hb2); have HK2 := Lib.hid K2
      clear hw2 d0 d1 d2 hb2
      obtain ⟨z_2, T_2, F_2⟩ := K2.open_
      clear K2
      have HB3 := HB2
      unfold kndB at HF HS
      dsimp only at HF HS
      by_cases h13 : k = 1 ∨ k = 3
      · by_cases hl : len = 0
        · subst hl
          have HS2 := Lib.hid (HS.out (by rw [if_pos h13]; simp))
          clear HS HF
          rcases h13 with rfl | rfl
          · go_wp2_with fail
            exact ⟨⟨j + 1, by omega, by go_num, HS2.out, HB3.out⟩, by simp [intOf]; omega⟩
          · go_wp2_with fail
            exact ⟨⟨j + 1, by omega, by go_num, HS2.out, HB3.out⟩, by simp [intOf]; omega⟩
        · obtain rfl : r = false := HF.out (by rw [if_pos h13]; simp [hl])
          have hl' : (len != 0) = true := by simpa using hl
          clear HS HF
          rcases h13 with rfl | rfl
          · go_wp2_with fail
            go_ret
            exact ⟨rfl, HB3.out⟩
          · go_wp2_with fail
            go_ret
            exact ⟨rfl, HB3.out⟩
      · by_cases h2 : k = 2
        · subst h2
          by_cases hl : 1 ≤ len ∧ len ≤ 16
          · have HS2 := Lib.hid (HS.out (by rw [if_neg h13, if_pos rfl]; simp [hl]))
            have l1 : decide (len < 1) = false := by simp; omega
            have l2 : decide (16 < len) = false := by simp; omega
            clear HS HF
            go_wp2_with fail
            exact ⟨⟨j + 1, by omega, by go_num, HS2.out, HB3.out⟩, by simp [intOf]; omega⟩
          · obtain rfl : r = false := HF.out (by rw [if_neg h13, if_pos rfl]; simpa using hl)
            clear HS HF
            by_cases l1 : len < 1
            · have l1' : decide (len < 1) = true := by simpa using l1
              go_wp2_with fail
              go_ret
              exact ⟨rfl, HB3.out⟩
            · have l1' : decide (len < 1) = false := by simpa using l1
              have l2 : decide (16 < len) = true := by simp; omega
              go_wp2_with fail
              go_ret
              exact ⟨rfl, HB3.out⟩
        · obtain rfl : r = false := HF.out (by rw [if_neg h13, if_neg h2])
          have e1 : (k == 1) = false := by simp; omega
          have e2 : (k == 2) = false := by simpa using h2
          have e3 : (k == 3) = false := by simp; omega
          clear HS HF
          go_wp2_with fail
          go_ret
          exact ⟨rfl, HB3.out⟩
    · obtain rfl : j = nv := by omega
      obtain rfl : r = true := HR.out.2 fun v hv => by
        obtain ⟨i, hi⟩ := List.getElem?_of_mem hv
        exact HP.out i v (by have := (List.getElem?_eq_some_iff.1 hi).1; have := HNV.out; omega) hi
      go_wp2_with fail
      go_ret
      exact ⟨rfl, HBR.out⟩
theorem c_valid {w : World} {B : Nat} (hBw : B ≤ w.heap.size) (V : Option Addr) (nv cv : Nat) (vs : List Vr) (hv : VsAt w B V vs) (hnv : vs.length = nv) (w' : World) (hb : Below B w w') :
    Calls Tryz.prog 36 #[.slice V nv cv] w' fun en w'' => en = .returned (.bool (valB vs)) ∧ Below w'.heap.size w' w'' := by
  unfold valB
  by_cases h : nv ≤ 32
  · rw [hnv, show decide (nv ≤ 32) = true by simpa using h, Bool.true_and]
    exact e_kinds hBw V nv cv vs hv hnv h _ (by simp) w' hb
  · rw [hnv, show decide (nv ≤ 32) = false by simpa using h, Bool.false_and]
    have hgt : decide (32 < (nv : Int)) = true := by simp; omega
    clear hv hb hnv
    go_enter Tryz.func36, Tryz.ntmps36
    go_wp2_with fail
    go_ret
    exact ⟨rfl, by go_grown⟩
theorem c_fixed (nm : ByteArray) (k len : Int) (w : World) : Calls Tryz.prog 37 #[.agg #[.string nm, .int .u8 k, .int .i64 len]] w fun en w' => en = .returned (.int .i64 (fixN ⟨nm, k, len⟩)) ∧ Below w.heap.size w w' := by
  unfold fixN
  by_cases h : k = 1
  · subst h
    go_enter Tryz.func37, Tryz.ntmps37
    go_wp2_with fail
    go_ret
    exact ⟨by simp, by go_grown⟩
  · have h1 : (k == 1) = false := by simpa using h
    go_enter Tryz.func37, Tryz.ntmps37
    go_wp2_with fail
    go_ret
    exact ⟨by simp [h], by go_grown⟩
theorem c_Fits {w : World} {B : Nat} (hBw : B ≤ w.heap.size) (V : Option Addr) (nv cv : Nat) (vs : List Vr) (hv : VsAt w B V vs) (hnv : vs.length = nv) {vC vI vO : Value} {cs : List (List Int)} {inp out : List Int} (hS : SW w (· < B) vC vI vO cs inp out) (w' : World) (hb : Below B w w') :
    Calls Tryz.prog 18 #[.slice V nv cv, .agg #[vC, vI, vO]] w' fun en w'' => en = .returned (.bool (fitsS vs cs inp out)) ∧ Below w'.heap.size w' w'' := by
  have HVA := Lib.hid (fun W hW => c_valid hBw V nv cv vs hv hnv W hW)
  obtain ⟨r, hr⟩ : ∃ r, fitsS vs cs inp out = r := ⟨_, rfl⟩
  have HR : Hid (r = true ↔ valB vs = true ∧ cs.length = vs.length ∧ inp.length ≤ 4096 ∧ out.length ≤ 4096 ∧ ∀ (i : Nat) (v : Vr) (l : List Int), vs[i]? = some v → cs[i]? = some l → elB v l.length = true) := Lib.hid (by rw [← hr]; unfold fitsS; simp only [Bool.and_eq_true, decide_eq_true_eq])
  rw [hr]
  obtain ⟨sv, hrow, hel⟩ := hS.row
  have hsvl : sv.length = cs.length := by
    obtain ⟨_, _, _, _, _, hR⟩ := hrow
    have := hR.1; omega
  have HSV : Hid (∀ (i : Nat) (u : Value) (l : List Int), sv[i]? = some u → cs[i]? = some l → ∃ A c, u = .slice A l.length c) := Lib.hid fun i u l h1 h2 => by
    obtain ⟨A, c, e, _⟩ := hel i u l h1 h2
    exact ⟨A, c, e⟩
  obtain ⟨AC, cC, rfl, _, _, hR⟩ := hrow
  obtain ⟨AI, cI, rfl, _⟩ := hS.inp
  obtain ⟨AO, cO, rfl, _⟩ := hS.out
  have HRW := Lib.hid hR; have HV := Lib.hid hv; have HNV := Lib.hid hnv; have HB := Lib.hid hb; have HSL := Lib.hid hsvl
  have hBw' : B ≤ w'.heap.size := by have := hb.size; omega
  have HCL0 : Hid (sv.length = cs.length) := Lib.hid hsvl
  obtain ⟨nc, hnc⟩ : ∃ n, cs.length = n := ⟨_, rfl⟩
  obtain ⟨ni, hni⟩ : ∃ n, inp.length = n := ⟨_, rfl⟩
  obtain ⟨no, hno⟩ : ∃ n, out.length = n := ⟨_, rfl⟩
  obtain ⟨rV, hrV⟩ : ∃ n, valB vs = n := ⟨_, rfl⟩
  have HV32 : Hid (rV = true → nv ≤ 32) := Lib.hid fun h => by rw [← hrV] at h; unfold valB at h; simp only [Bool.and_eq_true, decide_eq_true_eq] at h; omega
  rw [hnc, hni, hno, hnv, hrV] at HR
  rw [hrV] at HVA
  rw [hnc] at HRW HSL ⊢
  rw [hni, hno]
  clear hr hel hS hR hv hnv hb hsvl hnc hni hno hrV
  go_enter Tryz.func18, Tryz.ntmps18
  go_upto_region 1 with fail
  refine wp_nameE ?_
  intro w1 hw1
  have hb1 : Below w'.heap.size w' w1 := (by rw [hw1]; exact (by go_grown))
  have HK1 : Hid (Blk w1 w'.heap.size 32 #[.slice AC nc cC, .slice AI ni cI, .slice AO no cO]) := Lib.hid (by rw [hw1]; exact blkA)
  have HB1 := Lib.hid hb1
  clear hw1 hb1
  go_wp2_with fail
  refine (HVA.out w1 (HB.out.trans (HB1.out.mono hBw'))).mono ?_
  rintro en w2 ⟨rfl, hb2⟩
  have HB2 := Lib.hid (HB1.out.next hb2)
  have HK2 := Lib.hid (HK1.out.next hb2)
  obtain ⟨z_1, T_1, F_1⟩ := HK2.out.open_
  clear hb2 HK1 HB1 HVA
  cases rV with
  | false =>
    obtain rfl : r = false := by cases r with
      | false => rfl
      | true => exact absurd (HR.out.1 rfl).1 (by simp)
    go_wp2_with fail
    go_ret
    exact ⟨rfl, HB2.out⟩
  | true =>
    by_cases h1 : nc = nv
    rotate_left
    · have q1 : ((nc : Int) != (nv : Int)) = true := by simp; omega
      obtain rfl : r = false := by cases r with
        | false => rfl
        | true => exact absurd (HR.out.1 rfl).2.1 h1
      clear h1
      go_wp2_with fail
      go_ret
      exact ⟨rfl, HB2.out⟩
    have q1 : ((nc : Int) != (nv : Int)) = false := by simp; omega
    by_cases h2 : ni ≤ 4096
    rotate_left
    · have q2 : decide (4096 < (ni : Int)) = true := by simp; omega
      obtain rfl : r = false := by cases r with
        | false => rfl
        | true => exact absurd (HR.out.1 rfl).2.2.1 h2
      clear h1 h2
      go_wp2_with fail
      go_ret
      exact ⟨rfl, HB2.out⟩
    have q2 : decide (4096 < (ni : Int)) = false := by simp; omega
    by_cases h3 : no ≤ 4096
    rotate_left
    · have q3 : decide (4096 < (no : Int)) = true := by simp; omega
      obtain rfl : r = false := by cases r with
        | false => rfl
        | true => exact absurd (HR.out.1 rfl).2.2.2.1 h3
      clear h1 h2 h3
      go_wp2_with fail
      go_ret
      exact ⟨rfl, HB2.out⟩
    have q3 : decide (4096 < (no : Int)) = false := by simp; omega
    have HR2 : Hid (r = true ↔ ∀ (i : Nat) (v : Vr) (l : List Int), vs[i]? = some v → cs[i]? = some l → elB v l.length = true) := Lib.hid (by rw [HR.out]; exact ⟨fun h => h.2.2.2.2, fun h => ⟨rfl, h1, h2, h3, h⟩⟩)
    have HCN : Hid (nc = nv) := Lib.hid h1
    have hn32 := HV32.out rfl
    clear h1 h2 h3 HR
    go_wp2_with fail
    clear z_1 T_1 F_1 q1 q2 q3
    go_loopw [32] (fun v32 wr => ∃ j : Nat, j ≤ nv ∧ v32 = .int .i64 j ∧ (∀ (i : Nat) (v : Vr) (l : List Int), i < j → vs[i]? = some v → cs[i]? = some l → elB v l.length = true) ∧ Below w2.heap.size w2 wr) (fun v _ => nv - (intOf v).toNat)
    case atStart => exact ⟨0, Nat.zero_le _, rfl, (fun i v l hi => absurd hi (Nat.not_lt_zero _)), Below.refl _ _⟩
    case round =>
      obtain ⟨j, hj, rfl, hpre, hbr⟩ := hrel
      have HP := Lib.hid hpre; have HBR := Lib.hid (HB2.out.next hbr); have HKR := Lib.hid (HK2.out.next hbr)
      have HBQ := Lib.hid hbr
      clear hpre hbr
      by_cases hjn : j < nv
      · obtain ⟨v, hvj⟩ : ∃ v, vs[j]? = some v := ⟨_, List.getElem?_eq_getElem (by have := HNV.out; omega)⟩
        obtain ⟨u, huj⟩ : ∃ u, sv[j]? = some u := ⟨_, List.getElem?_eq_getElem (by have := HSL.out; have := HCN.out; omega)⟩
        have hcl : j < cs.length := by
          have h5 := HRW.out.1; have := HSL.out; have := HCN.out; have := HCL0.out; omega
        obtain ⟨l, hlj⟩ : ∃ l, cs[j]? = some l := ⟨_, List.getElem?_eq_getElem hcl⟩
        obtain ⟨Al, cl, rfl⟩ := HSV.out j u l huj hlj
        obtain ⟨gC, oC, hAC, hgC, hcc⟩ := HRW.out.2 (by have := HCN.out; omega)
        obtain ⟨g, o, hA2, hgB, c0, c1, c2⟩ := (HV.out.next HB.out) j v hvj
        subst hA2; subst hAC
        have hbw : Below B w wr := HB.out.trans (HBR.out.mono hBw')
        have hgw : g < w'.heap.size := by omega
        have d0 := (HBR.out.cell (p := ⟨g, o + j * 3, none⟩) hgw).trans c0
        have d1 := (HBR.out.cell (p := ⟨g, o + j * 3 + 1, none⟩) hgw).trans c1
        have d2 := (HBR.out.cell (p := ⟨g, o + j * 3 + 2, none⟩) hgw).trans c2
        have y0 : wr.cell? ⟨gC, oC + j, none⟩ = some (.slice Al l.length cl) := (hbw.cell (p := ⟨gC, oC + j, none⟩) hgC).trans (hcc j _ huj)
        have HF : Hid (elB v l.length = false → r = false) := Lib.hid fun h => by
          cases r with
          | false => rfl
          | true => have := HR2.out.1 rfl j v l hvj hlj; rw [h] at this; cases this
        have HS : Hid (elB v l.length = true → ∀ (i : Nat) (v : Vr) (l : List Int), i < j + 1 → vs[i]? = some v → cs[i]? = some l → elB v l.length = true) := Lib.hid fun h i v' l' hi h1 h2 => (Nat.lt_succ_iff_lt_or_eq.1 hi).elim (fun h3 => HP.out i v' l' h3 h1 h2) (fun h3 => by subst h3; rw [hvj] at h1; rw [hlj] at h2; injection h1 with h1; injection h2 with h2; subst h1; subst h2; exact h)
        obtain ⟨nl, hnl⟩ : ∃ nl, l.length = nl := ⟨_, rfl⟩
        rw [hnl] at y0 HF HS
        obtain ⟨nm, k, len⟩ := v
        dsimp only at d0 d1 d2
        have j0 : (0 : Int) ≤ (j : Int) := by omega
        have j1 : (j : Int) < (nv : Int) := by omega
        have j2 : (j : Int) < (nc : Int) := by have := HCN.out; omega
        clear c0 c1 c2 hvj huj hlj hcc hcl hnl
        go_upto_region 6 with fail
        refine wp_nameE ?_
        intro w3 hw3
        have hb3 : Below wr.heap.size wr w3 := (by rw [hw3]; exact (by go_grown))
        have HV3 : Hid (Blk w3 wr.heap.size 72 #[.string nm, .int .u8 k, .int .i64 len]) := Lib.hid (by rw [hw3]; exact blkA)
        have HB3 := Lib.hid (HBR.out.next hb3); have HK3 := Lib.hid (HKR.out.next hb3)
        have HQ3 := Lib.hid (HBQ.out.next hb3)
        have HY3 : Hid (∀ W, Below w3.heap.size w3 W → W.cell? ⟨gC, oC + j, none⟩ = some (.slice Al nl cl)) := Lib.hid fun W hW => (hW.cell (p := ⟨gC, oC + j, none⟩) (by have := hbw.size; have := hb3.size; show gC < _; omega)).trans ((hb3.cell (p := ⟨gC, oC + j, none⟩) (by have := hbw.size; show gC < _; omega)).trans y0)
        have y3 := HY3.out w3 (Below.refl _ _)
        clear hw3 d0 d1 d2 hb3 y0 hbw
        obtain ⟨z_2, T_2, F_2⟩ := HV3.out.open_
        unfold elB at HF HS
        dsimp only at HF HS
        by_cases hk : k = 3
        · subst hk
          simp only [if_true] at HF HS
          obtain ⟨z_1, T_1, F_1⟩ := HK3.out.open_
          by_cases hl : nl ≤ 1000
          · have HS2 := Lib.hid (HS.out (by simpa using hl))
            have l2 : decide (1000 < (nl : Int)) = false := by simp; omega
            clear HS HF
            go_wp2_with fail
            exact ⟨⟨j + 1, by omega, by first | rfl | go_num, HS2.out, HQ3.out⟩, by simp [intOf]; omega⟩
          · obtain rfl : r = false := HF.out (by simpa using hl)
            have l2 : decide (1000 < (nl : Int)) = true := by simp; omega
            clear HS HF
            go_wp2_with fail
            go_ret
            exact ⟨rfl, HB3.out⟩
        · have e3 : (k == 3) = false := by simpa using hk
          simp only [if_neg hk] at HF HS
          obtain ⟨fx, hfx⟩ : ∃ fx, fixN ⟨nm, k, len⟩ = fx := ⟨_, rfl⟩
          have HFX : Hid (∀ W, Calls Tryz.prog 37 #[.agg #[.string nm, .int .u8 k, .int .i64 len]] W fun en w' => en = .returned (.int .i64 fx) ∧ Below W.heap.size W w') := Lib.hid fun W => by rw [← hfx]; exact c_fixed nm k len W
          rw [hfx] at HF HS
          clear hfx
          go_wp2_with fail
          clear T_2 z_2 F_2
          refine wp_region_held_drew (S := fun W => Below w3.heap.size w3 W) (by kernel_rfl) ((Below.refl _ _).drew) (fun hH => ?_)
          refine wpAnyH_atN ?_
          intro wa hwa
          have hX : Below w3.heap.size w3 wa := by rw [hwa]; exact (Below.refl _ _).drew
          replace hH : Below w3.heap.size w3 wa := hX
          clear hwa
          refine tkQ 0 (v := ?_) rfl hH ?_
          (try simp only [PU, Act.put])
          refine tkK 1 (v := ?_) rfl ?hy hH ?_
          case hy => (intro w9_ hS9; have t := (HK3.out.next hS9).cell; clear hS9; go_simp; try with_reducible rfl)
          (try simp only [PU, Act.put])
          refine tkQ 2 (v := ?_) rfl hH ?_
          (try simp only [PU, Act.put])
          refine tkQ 3 (v := ?_) rfl hH ?_
          (try simp only [PU, Act.put])
          refine tkK 4 (v := ?_) rfl ?hy hH ?_
          case hy => (intro w9_ hS9; have t := HY3.out _ hS9; clear hS9; go_simp; try with_reducible rfl)
          (try simp only [PU, Act.put])
          refine tkQ 5 (v := ?_) rfl hH ?_
          (try simp only [PU, Act.put])
          refine tkK 6 (v := ?_) rfl ?hy hH ?_
          case hy => (intro w9_ hS9; have t := (HV3.out.next hS9).cell; clear hS9; go_simp; try with_reducible rfl)
          (try simp only [PU, Act.put])
          refine nxH 7 (by kernel_rfl) rfl (fun K hK => ?_)
          go_simp
          refine (HFX.out _).mono ?_
          rintro en wb ⟨rfl, hbn⟩
          refine hK.out _ _ (hX.next hbn) (fun hH => ?_)
          clear hK
          (try simp only [PU, Act.put])
          replace hX := hX.next hbn
          refine tkQ 8 (v := ?_) rfl hH ?_
          (try simp only [PU, Act.put])
          refine wpAnyH_done (by kernel_rfl) ?_ _
          by_cases hl : (nl : Int) = fx
          · have HS2 := Lib.hid (HS.out (by simpa using hl))
            have l2 : ((nl : Int) != fx) = false := by simpa using hl
            clear HS HF hl
            have HX := Lib.hid (HQ3.out.next hX)
            clear hX hH hbn
            go_wp2_with fail
            exact ⟨⟨j + 1, by omega, by first | rfl | go_num, HS2.out, HX.out⟩, by simp [intOf]; omega⟩
          · obtain rfl : r = false := HF.out (by simpa using hl)
            have l2 : ((nl : Int) != fx) = true := by simpa using hl
            clear HS HF hl
            have HX := Lib.hid (HB3.out.next hX)
            clear hX hH hbn
            go_wp2_with fail
            go_ret
            exact ⟨rfl, HX.out⟩
      · obtain rfl : j = nv := by omega
        obtain rfl : r = true := HR2.out.2 fun i v l h1 h2 => HP.out i v l (by have := (List.getElem?_eq_some_iff.1 h1).1; have := HNV.out; omega) h1 h2
        clear HP
        go_wp2_with fail
        go_ret
        exact ⟨rfl, HBR.out⟩
end Go.Proofs.YtakfdnnlhjhcfaaGreatDoor
