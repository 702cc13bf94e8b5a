/- A state is cloned. -/
import Derived.Test.YtakfdnnlhjhcfaaGreatDoorM32
set_option linter.unusedVariables false
set_option linter.unusedSimpArgs false
set_option maxRecDepth 100000
set_option maxHeartbeats 4000000
namespace Go.Proofs.YtakfdnnlhjhcfaaGreatDoor
open Go.RowKit Bk
theorem results_cellS {P : Program} {fn : Func} {p : Tmp} {ty : TypeId} (h : fn.results = #[.cell p ty]) (tmps : Array Value) (w : World) (g : Nat) (t : TypeId) (cs : Array Value) (d : TypeDesc)
    (hp : tmps.getD p undef = .pointer (some ⟨g, 0, none⟩)) (hg : Blk w g t cs) (hu : P.underlying ty = some d) (hd : (match d with | .struct _ | .array _ _ => true | _ => false) = true) (hi : (P.info? ty).map (·.size) = some cs.size) :
    (results fn tmps).run P w = .ok (.agg cs) w := by
  simp only [results, h]
  simp only [Array.getD_eq_getD_getElem?] at hp
  simp [Sem.run_bind, Result.andThen, hp, asAddr, run_loadVar_row w g t ty cs (0, 0) d hg hu hd hi]
theorem info_stateS : (Tryz.prog.info? 32).map (·.size) = some 3 := by kernel_rfl
theorem info_ints : (Tryz.prog.info? 30).map (fun i => (i.zero, i.size, i.bytes)) = some (some (.slice none 0 0), 1, 24) := by kernel_rfl
theorem Sl.numS {w w' : World} {lo hi : Nat} {size n : Nat} {v : Value} {xs : List Value} (h : Sl w (fun k => lo ≤ k ∧ k < hi) size v n xs) (hb : Below w.heap.size w w') (hh : hi ≤ w.heap.size) : Sl w' (fun k => lo ≤ k ∧ k < hi) size v n xs := h.keep (fun b o hb' => hb.cell (p := ⟨b, o, none⟩) (Nat.lt_of_lt_of_le hb'.2 hh)) fun _ h => h
theorem Sl.frS {O D D' : Nat → Prop} {w w' : World} {size n : Nat} {v : Value} {xs : List Value} (h : Sl w D size v n xs) (hf : Fr O w w') (hd : ∀ k, D k → k < w.heap.size ∧ ¬ O k ∧ D' k) : Sl w' D' size v n xs := h.keep (fun b o hb' => hf.cell (hd b hb').1 (hd b hb').2.1 o) fun k hk => (hd k hk).2.2
theorem blk_name {n : Nat} {Q : Exit → Act → World → Prop} {x : Exit} {a : Act} {w : World} (h : ∀ w', w' = w → Exit.inBlock n Q x a w') : Exit.inBlock n Q x a w := h w rfl
def DcS (lo : Nat) (w : World) (b : Nat) (v : Value) (k : Nat) : Prop := lo ≤ k ∧ k < w.heap.size ∧ k ≠ b ∧ v.ownBlock ≠ some k
def ElS (lo : Nat) (w : World) (b : Nat) (v : Value) (xs : List Value) (cs : List (List Int)) : Prop := ∀ (i : Nat) (u : Value) (l : List Int), xs[i]? = some u → cs[i]? = some l → Sl w (DcS lo w b v) 1 u l.length (intCells l)
section
variable {w w' : World} {B : Nat}
theorem c_StClone {vC vI vO : Value} {cs : List (List Int)} {inp out : List Int} (h : SW w (· < B) vC vI vO cs inp out) (hB : B ≤ w.heap.size) (hc : cs.length ≤ 1000) (hl : ∀ l, l ∈ cs → l.length ≤ 10000) (hi : inp.length ≤ 10000) (ho : out.length ≤ 10000) :
    Calls Tryz.prog 40 #[.agg #[vC, vI, vO]] w fun e w' => ∃ uC uI uO, e = .returned (.agg #[uC, uI, uO]) ∧ SW w' (fun k => w.heap.size ≤ k ∧ k < w'.heap.size) uC uI uO cs inp out ∧ Below w.heap.size w w' := by
  obtain ⟨sv, hrow, hel⟩ := h.row
  have HCI := Lib.hid (fun W (hW : Below w.heap.size w W) => c_CloneI (w := W) (Sl.belowS h.inp (hW.mono hB)) (by omega))
  have HCO := Lib.hid (fun W (hW : Below w.heap.size w W) => c_CloneI (w := W) (Sl.belowS h.out (hW.mono hB)) (by omega))
  have HCL : Hid (∀ (i : Nat) (v : Value) (l : List Int), sv[i]? = some v → cs[i]? = some l → ∀ W, Below w.heap.size w W → Calls Tryz.prog 30 #[v] W fun e w' => ∃ v, e = .returned v ∧ w'.ownsRow W.heap.size 3 1 v l.length (intCells l) ∧ Below W.heap.size W w') := Lib.hid fun i v l h1 h2 W hW => c_CloneI (Sl.belowS (hel i v l h1 h2) (hW.mono hB)) (by have := hl l (List.mem_of_getElem? h2); omega)
  have HSV : Hid (sv.length = cs.length ∧ ∀ (i : Nat) (v : Value), sv[i]? = some v → ∃ A n c, v = .slice A n c) := Lib.hid ⟨by
    obtain ⟨_, _, _, _, _, hR⟩ := hrow
    have := hR.1; omega, fun i v hv => by
    have hlen : sv.length = cs.length := by
      obtain ⟨_, _, _, _, _, hR⟩ := hrow
      have := hR.1; omega
    have hi := (List.getElem?_eq_some_iff.1 hv).1
    obtain ⟨A, c, e, _⟩ := hel i v (cs[i]'(by omega)) hv (List.getElem?_eq_getElem (by omega))
    exact ⟨A, _, c, e⟩⟩
  obtain ⟨AC, cC, rfl, hcap, hAN, hR⟩ := hrow
  have HRW := Lib.hid hR
  obtain ⟨AI, cI, rfl, _⟩ := h.inp
  obtain ⟨AO, cO, rfl, _⟩ := h.out
  have HSD : Hid (∀ j, j < cs.length → ∃ v, sv[j]? = some v) := Lib.hid fun j hj => ⟨sv[j]'(by have := HSV.out.1; omega), List.getElem?_eq_getElem (by have := HSV.out.1; omega)⟩
  obtain ⟨n, hn⟩ : ∃ n, cs.length = n := ⟨_, rfl⟩
  have HN := Lib.hid hn
  rw [hn] at hcap HRW HSD hc ⊢
  have HBD : Hid (B ≤ w.heap.size) := Lib.hid hB
  clear h hel hl hi ho hR hAN hn
  obtain ⟨ni, hni⟩ : ∃ n, inp.length = n := ⟨_, rfl⟩
  obtain ⟨no, hno⟩ : ∃ n, out.length = n := ⟨_, rfl⟩
  have HNI := Lib.hid hni; have HNO := Lib.hid hno
  rw [hni] at HCI
  rw [hno] at HCO
  rw [hni, hno]
  clear hni hno
  obtain ⟨i2, li, lz, ls, lb⟩ := info_parts info_ints
  have HI2 := Lib.hid li; have HZ2 := Lib.hid lz; have HSZ2 := Lib.hid ls; have HBY2 := Lib.hid lb
  clear li lz ls lb
  go_enter Tryz.func40, Tryz.ntmps40
  go_upto_region 1 with fail
  refine wp_nameE ?_
  intro w1 hw1
  have hb1 : Below w.heap.size w w1 := (by rw [hw1]; exact (by go_grown))
  have K1 : Blk w1 w.heap.size 32 #[.slice AC n cC, .slice AI ni cI, .slice AO no cO] := (by rw [hw1]; exact blkA)
  have K2 : Blk w1 (w.heap.size + 1) 32 #[.slice none 0 0, .slice none 0 0, .slice none 0 0] := (by rw [hw1]; exact (Blk.new' (by simp) _ _))
  have HK1 := Lib.hid K1; have HK2 := Lib.hid K2; have HB1 := Lib.hid hb1
  have hs1 := K2.lt
  clear hw1 hb1 K1 K2
  go_cut [3] (fun v3 wx => ∃ b3 A1 c1 A2 c2, v3 = .pointer (some ⟨b3, 0, none⟩) ∧ Blk wx b3 32 #[.slice none 0 0, .slice A1 ni c1, .slice A2 no c2] ∧ Sl wx (fun k => w1.heap.size ≤ k ∧ k < wx.heap.size ∧ k ≠ b3) 1 (.slice A1 ni c1) ni (intCells inp) ∧ Sl wx (fun k => w1.heap.size ≤ k ∧ k < wx.heap.size ∧ k ≠ b3) 1 (.slice A2 no c2) no (intCells out) ∧ w1.heap.size ≤ b3 ∧ Below w1.heap.size w1 wx)
  case first =>
    refine wp_region_held_drew (S := fun W => Below w1.heap.size w1 W) (by kernel_rfl) ((Below.refl _ _).drew) (fun hH => ?_)
    refine wpAnyH_atN ?_
    intro wa hwa
    have hX : Below w1.heap.size w1 wa := by rw [hwa]; exact (Below.refl _ _).drew
    replace hH : Below w1.heap.size w1 wa := hX
    have hza := hX.size
    clear hwa
    refine tkQ 0 (v := ?_) rfl hH ?_
    (try simp only [PU, Act.put])
    refine tkK 1 (v := ?_) rfl ?hy hH ?_
    case hy => (intro w9_ hS9; have t := (HK1.out.next hS9).cell; clear hS9; go_simp; try with_reducible rfl)
    (try simp only [PU, Act.put])
    refine tkQ 3 (v := ?_) rfl hH ?_
    (try simp only [PU, Act.put])
    refine tkK 4 (v := ?_) rfl ?hy hH ?_
    case hy => (intro w9_ hS9; have t := (HK1.out.next hS9).cell; clear hS9; go_simp; try with_reducible rfl)
    (try simp only [PU, Act.put])
    refine wpAnyH_ready (rs := [2, 7]) (by kernel_rfl) (by simp) ?_
    refine AllReadyH.cons rfl (fun K hK => ?_) (AllReadyH.cons rfl (fun K hK => ?_) (AllReadyH.nil))
    · go_simp
      refine (HCI.out _ (HB1.out.next hX)).mono ?_
      rintro en wb ⟨_, rfl, o1, hbn⟩
      obtain ⟨A1, c1, rfl⟩ := own_form o1
      refine hK.out _ _ (hX.next hbn) (fun hH => ?_)
      clear hK
      (try simp only [PU, Act.put])
      have hzwb := hbn.size
      have s1 := Sl.of_own o1
      have q1 : wa.heap.size ≤ wa.heap.size := Nat.le_refl _
      replace hX := hX.next hbn
      clear o1 hbn
      refine wpAnyH_ready (rs := [5, 7]) (by kernel_rfl) (by simp) ?_
      refine AllReadyH.cons rfl (fun K hK => ?_) (AllReadyH.cons rfl (fun K hK => ?_) (AllReadyH.nil))
      · go_simp
        refine (HCO.out _ (HB1.out.next hX)).mono ?_
        rintro en wc ⟨_, rfl, o2, hbn⟩
        obtain ⟨A2, c2, rfl⟩ := own_form o2
        refine hK.out _ _ (hX.next hbn) (fun hH => ?_)
        clear hK
        (try simp only [PU, Act.put])
        have hzwc := hbn.size
        replace s1 := Sl.numS s1 hbn (by omega)
        have s2 := Sl.of_own o2
        have q2 : wb.heap.size ≤ wb.heap.size := Nat.le_refl _
        replace hX := hX.next hbn
        clear o2 hbn
        refine tkQ 6 (v := ?_) rfl hH ?_
        (try simp only [PU, Act.put])
        refine nxH 7 (by kernel_rfl) rfl (fun K hK => ?_)
        go_simp
        refine hK.out _ _ (hX.alloc hX.size _) (fun hH => ?_)
        clear hK
        (try simp only [PU, Act.put])
        refine wpAnyH_atW ?_
        intro wd hwn
        have hbn : Below wc.heap.size wc wd := by rw [hwn]; exact (Below.refl _ _).alloc (Nat.le_refl _) _
        have hzwd := hbn.size
        have hywd : wc.heap.size < wd.heap.size := by rw [hwn]; simp
        replace s1 := Sl.numS s1 hbn (by omega)
        replace s2 := Sl.numS s2 hbn (by omega)
        have k3 : Blk wd wc.heap.size 32 #[.slice none 0 0, .slice none 0 0, .slice none 0 0] := by rw [hwn]; exact Blk.new _ _ _
        replace hX := hX.next hbn
        replace hH := hX
        clear hwn hbn
        refine nxH 8 (by kernel_rfl) rfl (fun K hK => ?_)
        obtain ⟨z_3, T_3, F_3⟩ := k3.open_
        go_simp
        refine hK.out _ _ ?h1 (fun hH => ?_)
        case h1 => exact hX.trans (Fr.below (O := fun k => k = wc.heap.size) (by repeat (first | exact Fr.refl _ _ | (refine Fr.set ?_ ?_ _; rotate_left; exact rfl))) hX.size (fun k hk => by rw [hk]; omega))
        clear hK
        (try simp only [PU, Act.put])
        clear T_3 F_3
        refine wpAnyH_done (by kernel_rfl) ?_ _
        refine then_name ?_
        intro wf hwf
        have kf : Blk wf wc.heap.size 32 #[.slice none 0 0, .slice A1 ni c1, .slice A2 no c2] := (by rw [hwf]; simpa using ((k3.set_ 0 _).set_ 1 _).set_ 2 _)
        have ff : Fr (fun k => k = wc.heap.size) wd wf := (by rw [hwf]; repeat (first | exact Fr.refl _ _ | (refine Fr.set ?_ ?_ _; rotate_left; exact rfl)))
        rw [← hwf] at hH
        have hzf := ff.size
        have t1 : Sl wf (fun k => w1.heap.size ≤ k ∧ k < wf.heap.size ∧ k ≠ wc.heap.size) 1 (.slice A1 ni c1) ni (intCells inp) := Sl.frS s1 ff fun k hk => by obtain ⟨h1, h2⟩ := hk; exact ⟨by omega, by omega, by omega, by omega, by omega⟩
        have t2 : Sl wf (fun k => w1.heap.size ≤ k ∧ k < wf.heap.size ∧ k ≠ wc.heap.size) 1 (.slice A2 no c2) no (intCells out) := Sl.frS s2 ff fun k hk => by obtain ⟨h1, h2⟩ := hk; exact ⟨by omega, by omega, by omega, by omega, by omega⟩
        have hlb : w1.heap.size ≤ wc.heap.size := by omega
        clear hwf ff s1 s2 k3 hX
        go_wp2_with fail
        go_meet
        exact ⟨_, A1, c1, A2, c2, rfl, kf, t1, t2, hlb, hH⟩
      · go_simp
        refine hK.out _ _ (hX.alloc hX.size _) (fun hH => ?_)
        clear hK
        (try simp only [PU, Act.put])
        refine wpAnyH_atW ?_
        intro wc hwn
        have hbn : Below wb.heap.size wb wc := by rw [hwn]; exact (Below.refl _ _).alloc (Nat.le_refl _) _
        have hzwc := hbn.size
        have hywc : wb.heap.size < wc.heap.size := by rw [hwn]; simp
        replace s1 := Sl.numS s1 hbn (by omega)
        have k3 : Blk wc wb.heap.size 32 #[.slice none 0 0, .slice none 0 0, .slice none 0 0] := by rw [hwn]; exact Blk.new _ _ _
        replace hX := hX.next hbn
        replace hH := hX
        clear hwn hbn
        refine nxH 5 (by kernel_rfl) rfl (fun K hK => ?_)
        go_simp
        refine (HCO.out _ (HB1.out.next hX)).mono ?_
        rintro en wd ⟨_, rfl, o2, hbn⟩
        obtain ⟨A2, c2, rfl⟩ := own_form o2
        refine hK.out _ _ (hX.next hbn) (fun hH => ?_)
        clear hK
        (try simp only [PU, Act.put])
        have hzwd := hbn.size
        replace s1 := Sl.numS s1 hbn (by omega)
        replace k3 := k3.next hbn
        have s2 := Sl.of_own o2
        have q2 : wc.heap.size ≤ wc.heap.size := Nat.le_refl _
        replace hX := hX.next hbn
        clear o2 hbn
        refine tkQ 6 (v := ?_) rfl hH ?_
        (try simp only [PU, Act.put])
        refine nxH 8 (by kernel_rfl) rfl (fun K hK => ?_)
        obtain ⟨z_3, T_3, F_3⟩ := k3.open_
        go_simp
        refine hK.out _ _ ?h1 (fun hH => ?_)
        case h1 => exact hX.trans (Fr.below (O := fun k => k = wb.heap.size) (by repeat (first | exact Fr.refl _ _ | (refine Fr.set ?_ ?_ _; rotate_left; exact rfl))) hX.size (fun k hk => by rw [hk]; omega))
        clear hK
        (try simp only [PU, Act.put])
        clear T_3 F_3
        refine wpAnyH_done (by kernel_rfl) ?_ _
        refine then_name ?_
        intro wf hwf
        have kf : Blk wf wb.heap.size 32 #[.slice none 0 0, .slice A1 ni c1, .slice A2 no c2] := (by rw [hwf]; simpa using ((k3.set_ 0 _).set_ 1 _).set_ 2 _)
        have ff : Fr (fun k => k = wb.heap.size) wd wf := (by rw [hwf]; repeat (first | exact Fr.refl _ _ | (refine Fr.set ?_ ?_ _; rotate_left; exact rfl)))
        rw [← hwf] at hH
        have hzf := ff.size
        have t1 : Sl wf (fun k => w1.heap.size ≤ k ∧ k < wf.heap.size ∧ k ≠ wb.heap.size) 1 (.slice A1 ni c1) ni (intCells inp) := Sl.frS s1 ff fun k hk => by obtain ⟨h1, h2⟩ := hk; exact ⟨by omega, by omega, by omega, by omega, by omega⟩
        have t2 : Sl wf (fun k => w1.heap.size ≤ k ∧ k < wf.heap.size ∧ k ≠ wb.heap.size) 1 (.slice A2 no c2) no (intCells out) := Sl.frS s2 ff fun k hk => by obtain ⟨h1, h2⟩ := hk; exact ⟨by omega, by omega, by omega, by omega, by omega⟩
        have hlb : w1.heap.size ≤ wb.heap.size := by omega
        clear hwf ff s1 s2 k3 hX
        go_wp2_with fail
        go_meet
        exact ⟨_, A1, c1, A2, c2, rfl, kf, t1, t2, hlb, hH⟩
    · go_simp
      refine hK.out _ _ (hX.alloc hX.size _) (fun hH => ?_)
      clear hK
      (try simp only [PU, Act.put])
      refine wpAnyH_atW ?_
      intro wb hwn
      have hbn : Below wa.heap.size wa wb := by rw [hwn]; exact (Below.refl _ _).alloc (Nat.le_refl _) _
      have hzwb := hbn.size
      have hywb : wa.heap.size < wb.heap.size := by rw [hwn]; simp
      have k3 : Blk wb wa.heap.size 32 #[.slice none 0 0, .slice none 0 0, .slice none 0 0] := by rw [hwn]; exact Blk.new _ _ _
      replace hX := hX.next hbn
      replace hH := hX
      clear hwn hbn
      refine nxH 2 (by kernel_rfl) rfl (fun K hK => ?_)
      go_simp
      refine (HCI.out _ (HB1.out.next hX)).mono ?_
      rintro en wc ⟨_, rfl, o1, hbn⟩
      obtain ⟨A1, c1, rfl⟩ := own_form o1
      refine hK.out _ _ (hX.next hbn) (fun hH => ?_)
      clear hK
      (try simp only [PU, Act.put])
      have hzwc := hbn.size
      replace k3 := k3.next hbn
      have s1 := Sl.of_own o1
      have q1 : wb.heap.size ≤ wb.heap.size := Nat.le_refl _
      replace hX := hX.next hbn
      clear o1 hbn
      refine nxH 5 (by kernel_rfl) rfl (fun K hK => ?_)
      go_simp
      refine (HCO.out _ (HB1.out.next hX)).mono ?_
      rintro en wd ⟨_, rfl, o2, hbn⟩
      obtain ⟨A2, c2, rfl⟩ := own_form o2
      refine hK.out _ _ (hX.next hbn) (fun hH => ?_)
      clear hK
      (try simp only [PU, Act.put])
      have hzwd := hbn.size
      replace s1 := Sl.numS s1 hbn (by omega)
      replace k3 := k3.next hbn
      have s2 := Sl.of_own o2
      have q2 : wc.heap.size ≤ wc.heap.size := Nat.le_refl _
      replace hX := hX.next hbn
      clear o2 hbn
      refine tkQ 6 (v := ?_) rfl hH ?_
      (try simp only [PU, Act.put])
      refine nxH 8 (by kernel_rfl) rfl (fun K hK => ?_)
      obtain ⟨z_3, T_3, F_3⟩ := k3.open_
      go_simp
      refine hK.out _ _ ?h1 (fun hH => ?_)
      case h1 => exact hX.trans (Fr.below (O := fun k => k = wa.heap.size) (by repeat (first | exact Fr.refl _ _ | (refine Fr.set ?_ ?_ _; rotate_left; exact rfl))) hX.size (fun k hk => by rw [hk]; omega))
      clear hK
      (try simp only [PU, Act.put])
      clear T_3 F_3
      refine wpAnyH_done (by kernel_rfl) ?_ _
      refine then_name ?_
      intro wf hwf
      have kf : Blk wf wa.heap.size 32 #[.slice none 0 0, .slice A1 ni c1, .slice A2 no c2] := (by rw [hwf]; simpa using ((k3.set_ 0 _).set_ 1 _).set_ 2 _)
      have ff : Fr (fun k => k = wa.heap.size) wd wf := (by rw [hwf]; repeat (first | exact Fr.refl _ _ | (refine Fr.set ?_ ?_ _; rotate_left; exact rfl)))
      rw [← hwf] at hH
      have hzf := ff.size
      have t1 : Sl wf (fun k => w1.heap.size ≤ k ∧ k < wf.heap.size ∧ k ≠ wa.heap.size) 1 (.slice A1 ni c1) ni (intCells inp) := Sl.frS s1 ff fun k hk => by obtain ⟨h1, h2⟩ := hk; exact ⟨by omega, by omega, by omega, by omega, by omega⟩
      have t2 : Sl wf (fun k => w1.heap.size ≤ k ∧ k < wf.heap.size ∧ k ≠ wa.heap.size) 1 (.slice A2 no c2) no (intCells out) := Sl.frS s2 ff fun k hk => by obtain ⟨h1, h2⟩ := hk; exact ⟨by omega, by omega, by omega, by omega, by omega⟩
      have hlb : w1.heap.size ≤ wa.heap.size := by omega
      clear hwf ff s1 s2 k3 hX
      go_wp2_with fail
      go_meet
      exact ⟨_, A1, c1, A2, c2, rfl, kf, t1, t2, hlb, hH⟩
  case rest =>
    obtain ⟨b3, A1, c1, A2, c2, rfl, k3, s1, s2, hlb, hbc⟩ := hcut
    have HBC := Lib.hid hbc; have HK3 := Lib.hid k3
    have HS1 := Lib.hid s1; have HS2 := Lib.hid s2
    have hz3 := k3.lt
    have hzc := hbc.size
    obtain ⟨z_1, T_1, F_1⟩ := (HK1.out.next hbc).open_
    clear hbc k3 s1 s2
    go_wp2_with fail
    clear z_1 T_1 F_1
    go_loopw [16] (fun v16 wr => ∃ (j : Nat) (AJ : Option Addr) (cJ : Nat) (xs : List Value), j ≤ n ∧ v16 = .int .i64 j ∧ Blk wr b3 32 #[.slice AJ j cJ, .slice A1 ni c1, .slice A2 no c2] ∧ wr.ownsRow wc.heap.size 30 1 (.slice AJ j cJ) j xs ∧ ElS w1.heap.size wr b3 (.slice AJ j cJ) xs cs ∧ Sl wr (DcS w1.heap.size wr b3 (.slice AJ j cJ)) 1 (.slice A1 ni c1) ni (intCells inp) ∧ Sl wr (DcS w1.heap.size wr b3 (.slice AJ j cJ)) 1 (.slice A2 no c2) no (intCells out) ∧ Below w1.heap.size w1 wr ∧ wc.heap.size ≤ wr.heap.size) (fun v _ => n - (intOf v).toNat)
    case atStart => exact ⟨0, none, 0, [], Nat.zero_le _, rfl, HK3.out, own_nil0, fun i v l h => by simp at h, HS1.out.mono fun k hk => ⟨hk.1, hk.2.1, hk.2.2, fun h => by cases h⟩, HS2.out.mono fun k hk => ⟨hk.1, hk.2.1, hk.2.2, fun h => by cases h⟩, HBC.out, Nat.le_refl _⟩
    case round =>
      obtain ⟨j, AJ, cJ, xs, hj, rfl, k3, hown, hel, s1, s2, hbr, hzr⟩ := hrel
      have HK3r := Lib.hid k3; have HO := Lib.hid hown; have HEL := Lib.hid hel; have HS1r := Lib.hid s1; have HS2r := Lib.hid s2; have HBR := Lib.hid hbr
      clear k3 hown hel s1 s2 hbr
      by_cases hlt : j < n
      · obtain ⟨v, hv⟩ := HSD.out j hlt
        obtain ⟨Av, nv, cv, rfl⟩ := HSV.out.2 j v hv
        have hjl : j < cs.length := by rw [HN.out]; exact hlt
        obtain ⟨l, hl⟩ : ∃ l, cs[j]? = some l := ⟨cs[j]'hjl, List.getElem?_eq_getElem hjl⟩
        have HCV := Lib.hid (HCL.out j _ l hv hl)
        have HL := Lib.hid hl
        obtain ⟨g, o, hgA, hgB, hcl⟩ := HRW.out.2 (by omega)
        have hbw : Below w.heap.size w wr := HB1.out.trans (HBR.out.mono (by omega))
        have y0 : wr.cell? ⟨g, o + j, none⟩ = some (.slice Av nv cv) := (hbw.cell (p := ⟨g, o + j, none⟩) (Nat.lt_of_lt_of_le hgB HBD.out)).trans (hcl j _ hv)
        have HBW := Lib.hid hbw
        have i0 : (0 : Int) ≤ (j : Int) := by omega
        have i1 : (j : Int) < (n : Int) := by omega
        have hbl : b3 < wr.heap.size := by omega
        have hnb : ¬ Value.ownBlock (.slice AJ j cJ) = some b3 := fun e => by have := (own_gE HO.out e).1; omega
        have HOWN : Hid (∀ k, Value.ownBlock (.slice AJ j cJ) = some k → wc.heap.size ≤ k ∧ k < wr.heap.size) := Lib.hid fun k hk => own_gE HO.out hk
        have HC : Hid (wr.cell? ⟨b3, 0, none⟩ = some (.slice AJ j cJ)) := Lib.hid (by rw [HK3r.out.cell]; rfl)
        have HCF : Hid (wr.frozen? ⟨b3, 0, none⟩ = false) := Lib.hid (HK3r.out.frozen 0)
        obtain ⟨nl, hnl⟩ : ∃ nl, l.length = nl := ⟨_, rfl⟩
        have HNL := Lib.hid hnl
        rw [hnl] at HCV
        subst hgA
        clear hv hl hjl hcl hbw hnl
        go_upto_region 5 with fail
        refine wp_region_heldL (S := fun W => Fr (fun k => Value.ownBlock (.slice AJ j cJ) = some k) wr W) 7 (by kernel_rfl) ((Fr.refl _ _).drew) (fun hH => ?_)
        refine wpAnyL_at ?_
        intro wa hwa
        have hX : Fr (fun k => Value.ownBlock (.slice AJ j cJ) = some k) wr wa := by rw [hwa]; exact (Fr.refl _ _).drew
        have HOq := HO.out
        replace HOq : wa.ownsRow wc.heap.size 30 1 (.slice AJ j cJ) j xs := by rw [hwa]; exact own_drew HOq
        replace hH := hX
        clear hwa
        refine wpAnyL_take (i := 0) (v := ?_) rfl (by kernel_rfl) (by kernel_rfl) (by kernel_rfl) (by kernel_rfl) (fun _ _ _ h => h) (Or.inl ⟨by rfl, ?hy⟩) hH ?_
        case hy => (intro w9_ hS9; clear hS9; go_simp; try with_reducible rfl)
        (try simp only [PU, Act.put])
        refine wpAnyL_take (i := 1) (v := ?_) rfl (by kernel_rfl) (by kernel_rfl) (by kernel_rfl) (by kernel_rfl) (fun _ _ _ h => h) (Or.inl ⟨by rfl, ?hy⟩) hH ?_
        case hy => (intro w9_ hS9; have t := (hS9.cell hbl hnb 0).trans HC.out; clear hS9; go_simp; try with_reducible rfl)
        (try simp only [PU, Act.put])
        refine wpAnyL_take (i := 2) (v := ?_) rfl (by kernel_rfl) (by kernel_rfl) (by kernel_rfl) (by kernel_rfl) (fun _ _ _ h => h) (Or.inl ⟨by rfl, ?hy⟩) hH ?_
        case hy => (intro w9_ hS9; clear hS9; go_simp; try with_reducible rfl)
        (try simp only [PU, Act.put])
        refine wpAnyL_next (i := 3) rfl (by kernel_rfl) (fun K hK => ?_)
        go_simp
        refine (HCV.out _ (HBW.out.trans (hX.below (Nat.le_trans HBW.out.size (Nat.le_refl _)) fun k hk => by have := (HOWN.out k hk).1; have := HBC.out.size; omega))).mono ?_
        rintro en wb ⟨_, rfl, ou, hbn⟩
        obtain ⟨Au, cu, rfl⟩ := own_form ou
        refine hK.out _ _ (hX.next hbn) (fun _ => ?_)
        clear hK
        (try simp only [PU, Act.put])
        replace HOq := own_below HOq hbn (Nat.le_refl _)
        have hza := hX.size
        have hzb := hbn.size
        replace hX := hX.next hbn
        replace hH := hX
        have su := Sl.of_own ou
        clear ou hbn
        refine wpAnyL_next (i := 4) rfl (by kernel_rfl) (fun K hK => ?_)
        go_simp
        replace hH := hX.alloc (.cells #[.slice Au nl cu] 30)
        refine hK.out _ _ hH (fun _ => ?_)
        clear hK
        (try simp only [PU, Act.put])
        refine wpAnyL_at ?_
        intro wd hwn
        have hbn : Below wb.heap.size wb wd := by rw [hwn]; exact (Below.refl _ _).alloc (Nat.le_refl _) _
        have K_n : Blk wd wb.heap.size 30 #[.slice Au nl cu] := by rw [hwn]; exact Blk.new _ _ _
        replace su := Sl.numS su hbn (Nat.le_refl _)
        have hzc2 := hbn.size
        replace HOq := own_below HOq hbn (Nat.le_refl _)
        replace hX := hX.next hbn
        replace hH := hX
        clear hwn hbn
        refine wpAnyL_next (i := 5) rfl (by kernel_rfl) (fun K hK => ?_)
        rw [if_pos (by rfl)]
        refine wp_appS (.tmp 21) (.tmp 24) 29 rfl wc.heap.size 30 i2 _ 1 24 Tryz.underlying29 HI2.out HZ2.out HSZ2.out HBY2.out rfl (by decide) (.slice AJ j cJ) j xs (by simp [Act.eval]) HOq (by simp [Act.eval]) (sl_blk1 K_n) (by intro u hu; simp at hu; subst hu; rfl) (by unfold maxLen; omega) (by omega) (by have := hX.size; omega) ?_
        intro v_2 we hown hgr hat
        have hXB := hX.size
        have hzd := (Fr.ofGrownN hgr).size
        obtain ⟨A_2, c_2, rfl⟩ := own_form hown
        have HAT : Hid (∀ k, Value.ownBlock (.slice A_2 (j + 1) c_2) = some k → Value.ownBlock (.slice AJ j cJ) = some k ∨ wd.heap.size ≤ k) := Lib.hid (fun k hk => hat.imp (fun e => by rw [← e]; exact hk) (fun e => by rw [hk] at e; have e := Option.some.inj e; omega))
        replace su := Sl.frS su (Fr.ofGrownN hgr) (D' := fun k => wa.heap.size ≤ k ∧ k < wb.heap.size) fun k hk => by obtain ⟨h1, h2⟩ := hk; exact ⟨by omega, fun e => by have := (HOWN.out k e).2; omega, h1, h2⟩
        replace hX : Fr (fun k => Value.ownBlock (.slice AJ j cJ) = some k) wr we := hX.trans (Fr.ofGrownN hgr)
        replace hH := hX
        clear hgr hat
        refine hK.out _ _ hH (fun _ => ?_)
        clear hK
        (try simp only [PU, Act.put])
        refine wpAnyL_take (i := 6) (v := ?_) rfl (by kernel_rfl) (by kernel_rfl) (by kernel_rfl) (by kernel_rfl) (fun _ _ _ h => h) (Or.inl ⟨by rfl, ?hy⟩) hH ?_
        case hy => (intro w9_ hS9; clear hS9; go_simp; try with_reducible rfl)
        (try simp only [PU, Act.put])
        refine wpAnyL_last (l := 7) rfl (by kernel_rfl) (by kernel_rfl) (fun K hK => ?_)
        have F_f := (World.frozen?_of_block (a := ⟨b3, 0, none⟩) (hX.block _ hbl hnb)).trans HCF.out
        have C_f := (hX.cell hbl hnb _).trans HC.out
        go_simp
        refine hK.out _ _ ?_
        clear hK
        (try simp only [PU, Act.put])
        refine blk_name ?_
        intro wf hwf
        have k3' := hX.blk HK3r.out hnb
        have kf : Blk wf b3 32 #[.slice A_2 (j + 1) c_2, .slice A1 ni c1, .slice A2 no c2] := (by rw [hwf]; simpa using k3'.set_ 0 (.slice A_2 (j + 1) c_2))
        have ff : Fr (fun k => k = b3) we wf := (by rw [hwf]; refine Fr.set ?_ ?_ _; rotate_left; exact rfl; exact Fr.refl _ _)
        have hownf := own_fr hown ff fun k hk e => by rw [e] at hk; rcases HAT.out _ hk with h | h; exact hnb h; omega
        have hfr : Fr (fun k => Value.ownBlock (.slice AJ j cJ) = some k ∨ k = b3) wr wf := (hX.mono fun k hk => .inl hk).trans (ff.mono fun k hk => .inr hk)
        have HUP : Hid (∀ size n v ys, Sl wr (DcS w1.heap.size wr b3 (.slice AJ j cJ)) size v n ys → Sl wf (DcS w1.heap.size wf b3 (.slice A_2 (j + 1) c_2)) size v n ys) := Lib.hid fun size n v ys hs => Sl.frS hs hfr fun k hk => ⟨hk.2.1, fun e => e.elim hk.2.2.2 hk.2.2.1, hk.1, Nat.lt_of_lt_of_le hk.2.1 hfr.size, hk.2.2.1, fun e => (HAT.out k e).elim hk.2.2.2 fun h => by have := hk.2.1; omega⟩
        have hun : Sl wf (DcS w1.heap.size wf b3 (.slice A_2 (j + 1) c_2)) 1 (.slice Au nl cu) nl (intCells l) := Sl.frS su ff fun k hk => by obtain ⟨h1, h2⟩ := hk; have := hX.size; have := ff.size; have := HBR.out.size; have := HBC.out.size; exact ⟨by omega, by omega, by omega, by omega, by omega, fun e => (HAT.out k e).elim (fun h => by have := (HOWN.out k h).2; omega) fun h => by omega⟩
        have HELf : Hid (ElS w1.heap.size wf b3 (.slice A_2 (j + 1) c_2) (xs ++ [.slice Au nl cu]) cs) := Lib.hid fun i u l' h1 h2 => by
          by_cases hij : i < xs.length
          · rw [List.getElem?_append_left hij] at h1; exact HUP.out _ _ _ _ (HEL.out i u l' h1 h2)
          · have hxl : xs.length = j := by have := HO.out.1; omega
            have hi : i = j := by have := (List.getElem?_eq_some_iff.1 h1).1; simp at this; omega
            subst hi
            rw [List.getElem?_append_right (by omega), hxl, Nat.sub_self] at h1
            simp at h1; subst h1
            rw [HL.out] at h2; injection h2 with h2; subst h2
            rw [HNL.out]; exact hun
        have HKF := Lib.hid kf; have HOF := Lib.hid hownf; have HFF := Lib.hid hfr
        have HBF : Hid (Below w1.heap.size w1 wf) := Lib.hid (HBR.out.trans (hfr.below HBR.out.size fun k hk => hk.elim (fun h => by have := (HOWN.out k h).1; omega) fun h => by omega))
        have hzf := hfr.size
        clear hwf k3' kf ff hownf hfr hun hX hH su hown K_n C_f F_f
        go_wp2_with fail
        exact ⟨⟨j + 1, A_2, c_2, xs ++ [.slice Au nl cu], by omega, by first | rfl | go_num, HKF.out, HOF.out, HELf.out, HUP.out _ _ _ _ HS1r.out, HUP.out _ _ _ _ HS2r.out, HBF.out, by omega⟩, (by simp [intOf]; try omega)⟩
      · obtain rfl : j = n := (by omega)
        have HR2 := Lib.hid (HK2.out.below HBR.out hs1)
        obtain ⟨z_3, T_3, F_3⟩ := HK3r.out.open_
        obtain ⟨z_2, T_2, F_2⟩ := HR2.out.open_
        have hne : ¬ (b3 = w.heap.size + 1) := by omega
        clear HRW HCL HSV HSD HCI HCO
        go_wp2_with fail
        generalize hwf : World.setCell _ _ _ = wf
        have kf : Blk wf (w.heap.size + 1) 32 #[.slice AJ j cJ, .slice A1 ni c1, .slice A2 no c2] := (by rw [← hwf]; simpa using ((HR2.out.set_ 0 (.slice AJ j cJ)).set_ 1 (.slice A1 ni c1)).set_ 2 (.slice A2 no c2))
        have ff : Fr (fun k => k = w.heap.size + 1) wr wf := (by rw [← hwf]; repeat (first | exact Fr.refl _ _ | (refine Fr.set ?_ ?_ _; rotate_left; exact rfl)))
        clear hwf T_3 T_2 F_3 F_2
        refine bodyPost_ret_by (results_cellS rfl _ _ (w.heap.size + 1) _ _ _ rfl kf Tryz.underlying32 rfl (by rw [info_stateS]; rfl)) rfl ?_
        have hsz := ff.size
        have up : ∀ size n v ys, Sl wr (DcS w1.heap.size wr b3 (.slice AJ j cJ)) size n v ys → Sl wf (fun k => w.heap.size ≤ k ∧ k < wf.heap.size) size n v ys := fun size n v ys hs => Sl.frS hs ff fun k hk => ⟨hk.2.1, by have := hk.1; omega, by have := hk.1; omega, by have := hk.2.1; omega⟩
        refine ⟨_, _, _, rfl, ⟨⟨xs, ?_, fun i u l h1 h2 => up _ _ _ _ (HEL.out i u l h1 h2)⟩, ?_, ?_⟩, ?_⟩
        · rw [HN.out]
          exact (Sl.of_own (own_fr HO.out ff fun k hk e => by have := (own_gE HO.out hk).1; omega)).mono fun k hk => ⟨by have := hk.1; omega, hk.2⟩
        · rw [HNI.out]; exact up _ _ _ _ HS1r.out
        · rw [HNO.out]; exact up _ _ _ _ HS2r.out
        · exact (HB1.out.trans (HBR.out.mono (by omega))).trans (ff.below (by have := HB1.out.size; have := HBR.out.size; omega) fun k hk => by omega)
end
end Go.Proofs.YtakfdnnlhjhcfaaGreatDoor
