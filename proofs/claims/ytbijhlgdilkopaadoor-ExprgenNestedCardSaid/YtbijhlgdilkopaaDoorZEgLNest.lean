/- The walk of the law ExprgenNested. Printed by gen_egnest.py. -/
import Derived.Test.YtbijhlgdilkopaaDoorEwX
import Derived.Test.YtbijhlgdilkopaaDoorEvX
import Derived.Test.YtbijhlgdilkopaaDoorCpZ
import Derived.Test.YtbijhlgdilkopaaDoorEuX
import Derived.Test.YtbijhlgdilkopaaDoorZEgR6
import Derived.Test.YtbijhlgdilkopaaDoorZEgW2
import Derived.Test.YtbijhlgdilkopaaDoorErX
import Derived.Deep.DeepCutAuto
set_option linter.unusedVariables false
set_option linter.unusedSimpArgs false
set_option maxRecDepth 100000
set_option maxHeartbeats 4000000
namespace Go.Proofs.YtbijhlgdilkopaaDoor
open Go.RowKit Bk
theorem c_lawNest {d : Nat} {x : Nd} {V : Option Addr} {nv cv : Nat} {vs : List Vr} {C : Option Addr} {nc cc : Nat} {cs : List (List Int)} {fp sb : Int} {G : Option Addr} {ng cg : Nat} {regs : List Int} {E : Option Addr} {ne ce : Nat} {scr : List Int} (W : World) (hc : CaseAt W W.heap.size d x V nv vs C nc cs G ng regs E ne ce scr) (hT : TableAt W) {d' : Nat} {y : Nd} (hn : KV W W.heap.size d' y) :
    Calls Tryd.prog 7 #[.agg #[.int .u8 x.k, .int .i64 x.num, .string x.nm, .slice x.A x.n x.cap, .slice V nv cv, .slice C nc cc, .int .i64 fp, .int .i64 sb, .slice G ng cg, .slice E ne ce], .agg #[.int .u8 y.k, .int .i64 y.num, .string y.nm, .slice y.A y.n y.cap]] W fun e w' => e = .returned (.bool true) ∧ Below W.heap.size W w' := by
  have hc' : CaseAt W W.heap.size d' y V nv vs C nc cs G ng regs E ne ce scr := { hc with kv := hn }
  have HC := Lib.hid hc; have HC2 := Lib.hid hc'; have HT := Lib.hid hT
  have HUS : Hid (∀ W1, Below W.heap.size W W1 → Calls Tryd.prog 9 #[.agg #[.int .u8 x.k, .int .i64 x.num, .string x.nm, .slice x.A x.n x.cap, .slice V nv cv, .slice C nc cc, .int .i64 fp, .int .i64 sb, .slice G ng cg, .slice E ne ce]] W1 fun en w'' => ∃ b, en = .returned (.bool b) ∧ (b = true → ∃ e, Usable W W.heap.size nameB x e vs cs fp sb ne) ∧ Below W1.heap.size W1 w'') := Lib.hid fun W1 h1 => e_usable (Nat.le_refl _) hc W1 h1
  have HUY : Hid (∀ W1, Below W.heap.size W W1 → Calls Tryd.prog 9 #[.agg #[.int .u8 y.k, .int .i64 y.num, .string y.nm, .slice y.A y.n y.cap, .slice V nv cv, .slice C nc cc, .int .i64 fp, .int .i64 sb, .slice G ng cg, .slice E ne ce]] W1 fun en w'' => ∃ b, en = .returned (.bool b) ∧ (b = true → ∃ e, Usable W W.heap.size nameB y e vs cs fp sb ne) ∧ Below W1.heap.size W1 w'') := Lib.hid fun W1 h1 => e_usable (Nat.le_refl _) hc' W1 h1
  obtain ⟨k, num, nm, A, n, cap⟩ := x
  obtain ⟨k2, num2, nm2, A2, nn2, cap2⟩ := y
  dsimp only at *
  clear hc hT hc' hn
  go_enter Tryd.func7, Tryd.ntmps7
  go_upto_region 1 with fail
  refine wp_nameE ?_
  intro w1 hw1
  have hb1 : Below W.heap.size W w1 := by rw [hw1]; exact (by go_grown)
  have K1 : Blk w1 W.heap.size 29 #[.int .u8 k, .int .i64 num, .string nm, .slice A n cap, .slice V nv cv, .slice C nc cc, .int .i64 fp, .int .i64 sb, .slice G ng cg, .slice E ne ce] := by rw [hw1]; exact (by repeat' (first | assumption | exact Blk.new' (by simp) _ _ | apply Blk.alloc | apply Blk.drew))
  have K1n : Blk w1 (W.heap.size + 1) 24 #[.int .u8 k2, .int .i64 num2, .string nm2, .slice A2 nn2 cap2] := by rw [hw1]; exact Blk.new' (by simp) _ _
  have HK1 := Lib.hid K1; have HB1 := Lib.hid hb1; have HN1 := Lib.hid K1n
  clear hw1 hb1 K1 K1n
  go_wp2_with fail
  refine (e_awake w1 (HT.out.next HB1.out)).mono ?_
  rintro en w2 ⟨rfl, hb2⟩
  have HB2 := Lib.hid (HB1.out.next hb2); have HK2 := Lib.hid (HK1.out.next hb2); have HN2 := Lib.hid (HN1.out.next hb2)
  have hz2 : W.heap.size + 1 < w2.heap.size := HN2.out.lt
  clear hb2 HK1 HN1 HB1
  obtain ⟨z_1, T_1, F_1⟩ := HK2.out.open_
  obtain ⟨z_2, T_2, F_2⟩ := HN2.out.open_
  go_upto_region 5 with fail
  refine wp_nameE ?_
  intro w3 hw3
  have hb3 : Below w2.heap.size w2 w3 := by rw [hw3]; exact (Below.refl _ _).alloc (Nat.le_refl _) _
  have K3y : Blk w3 w2.heap.size 29 #[.int .u8 k2, .int .i64 num2, .string nm2, .slice A2 nn2 cap2, .slice V nv cv, .slice C nc cc, .int .i64 fp, .int .i64 sb, .slice G ng cg, .slice E ne ce] := by rw [hw3]; exact Blk.new _ _ _
  have HB3 := Lib.hid (HB2.out.next hb3); have HK3 := Lib.hid (HK2.out.next hb3); have HN3 := Lib.hid (HN2.out.next hb3); have HY3 := Lib.hid K3y
  clear T_1 z_1 F_1 T_2 z_2 F_2 hw3 hb3 K3y HK2 HN2 HB2
  obtain ⟨z_1, T_1, F_1⟩ := HK3.out.open_
  go_wp2_with fail
  refine (HUS.out w3 HB3.out).mono ?_
  rintro en w4 ⟨b4, rfl, hus, hb4⟩
  have HB4 := Lib.hid (HB3.out.next hb4); have HK4 := Lib.hid (HK3.out.next hb4); have HN4 := Lib.hid (HN3.out.next hb4); have HY4 := Lib.hid (HY3.out.next hb4); have HUSE := Lib.hid hus
  clear T_1 z_1 F_1 hb4 hus HK3 HN3 HY3
  cases b4 with
  | false =>
    go_wp2_with fail
    go_ret
    exact ⟨rfl, HB4.out⟩
  | true =>
  obtain ⟨e, hu⟩ := HUSE.out (by first | rfl | trivial)
  have HU := Lib.hid hu
  clear HUSE HUS hu
  obtain ⟨z_1, T_1, F_1⟩ := HY4.out.open_
  go_wp2_with fail
  refine (HUY.out w4 HB4.out).mono ?_
  rintro en w5 ⟨b5, rfl, hus, hb5⟩
  have HB5 := Lib.hid (HB4.out.next hb5); have HK5 := Lib.hid (HK4.out.next hb5); have HN5 := Lib.hid (HN4.out.next hb5); have HY5 := Lib.hid (HY4.out.next hb5); have HUSE := Lib.hid hus
  clear T_1 z_1 F_1 hb5 hus HK4 HN4 HY4
  cases b5 with
  | false =>
    go_wp2_with fail
    go_ret
    exact ⟨rfl, HB5.out⟩
  | true =>
  obtain ⟨e', hu2⟩ := HUSE.out (by first | rfl | trivial)
  have hu := HU.out
  clear HUSE HUY HU
  obtain ⟨fpn, rfl⟩ : ∃ q : Nat, fp = (q : Int) := ⟨fp.toNat, by have := hu.fp; omega⟩
  obtain ⟨sbn, rfl⟩ : ∃ q : Nat, sb = (q : Int) := ⟨sb.toNat, by have := hu.sb; omega⟩
  have hfp : fpn ≤ 20 := by have := hu.fp; omega
  have hsb : sbn ≤ 5 := by have := hu.sb; omega
  have HU := Lib.hid hu; have HU2 := Lib.hid hu2
  clear hu hu2
  obtain ⟨z_1, T_1, F_1⟩ := HK5.out.open_
  have hzc : W.heap.size + 1 < w2.heap.size := hz2
  go_upto_region 8 with fail
  refine wp_nameE ?_
  intro w8 hw8
  have K8 : Blk w8 W.heap.size 29 #[.int .u8 k, .int .i64 num, .string nm, .slice A n cap, .slice V nv cv, .slice C nc cc, .int .i64 (fpn : Int), .int .i64 (sbn : Int), .slice none 0 0, .slice E ne ce] := by rw [hw8]; simpa using HK5.out.set_ 8 (.slice none 0 0)
  have HB8W : Hid (Below W.heap.size W w8) := Lib.hid (by rw [hw8]; have h5 := HB5.out; go_grown)
  have HN8 : Hid (Blk w8 (W.heap.size + 1) 24 #[.int .u8 k2, .int .i64 num2, .string nm2, .slice A2 nn2 cap2]) := Lib.hid (by rw [hw8]; exact HN5.out.far (by show W.heap.size + 1 ≠ W.heap.size; omega) _)
  have HY8 : Hid (Blk w8 w2.heap.size 29 #[.int .u8 k2, .int .i64 num2, .string nm2, .slice A2 nn2 cap2, .slice V nv cv, .slice C nc cc, .int .i64 (fpn : Int), .int .i64 (sbn : Int), .slice G ng cg, .slice E ne ce]) := Lib.hid (by rw [hw8]; exact HY5.out.far (by show w2.heap.size ≠ W.heap.size; omega) _)
  have HK8 := Lib.hid K8
  have hc8 := HC.out.regs (ng' := 0) (G' := none) (regs' := []) HB8W.out (fun i hi => absurd hi (Nat.not_lt_zero _)) rfl (by intro y hy; cases hy)
  have hcy := HC2.out.regs (ng' := ng) HB8W.out ((HC2.out.g.next HB8W.out).up HB8W.out.size) HC2.out.gn HC2.out.gi
  have HC8 := Lib.hid hc8; have HCY := Lib.hid hcy
  have hu := HU.out.up HB8W.out; have hu2 := HU2.out.up HB8W.out
  have HT8 := Lib.hid (HT.out.next HB8W.out)
  have HB8 := Lib.hid (Below.refl w8.heap.size w8)
  have hz8 : w2.heap.size < w8.heap.size := HY8.out.lt
  clear T_1 z_1 F_1 hw8 K8 hc8 hcy HK5 HN5 HY5 HB5 HU HU2 HC HC2 HT
  have hsum := sums_le vs hu.fits.ok
  have hcl : 0 ≤ cellsOf vs ∧ cellsOf vs ≤ 96 := by have := hu.v6; omega
  have hnv6 : nv ≤ 6 := by have := hu.v6; have := HC8.out.vn; omega
  have hne50 : ne ≤ 50 := hu.n50
  have HFR : Hid (∀ W1, Below w8.heap.size w8 W1 → Calls Tryd.prog 10 #[.slice V nv cv] W1 fun en w'' => ∃ u, en = .returned (.agg #[u, .int .i64 (cellsOf vs), .int .i64 (stksOf vs)]) ∧ w''.ownsRow W1.heap.size 75 4 u nv (slotCells (slotsL vs 0 0)) ∧ Below W1.heap.size W1 w'') := Lib.hid fun W1 h1 => e_frame (Nat.le_refl _) V nv cv vs HC8.out.v HC8.out.vn (by omega) hu.fits.ok W1 h1
  have hok : e.ok := Ex.ok_of e d _ hu.ev HC8.out.kv
  have hheld := known_held hu.kn
  have hline : Line (comp (slotsL vs 0 0) (cellsOf vs) e 0) := comp_line (slots_ok hu.fits) hcl.1 e 0 hheld hok (by omega) (by have := hu.dp; omega)
  have hlen := comp_length (slotsL vs 0 0) (cellsOf vs) e 0
  have hsl := slotsL_length vs 0 0
  have hM : Hid (∀ W1, Below w8.heap.size w8 W1 → Calls Tryd.prog 16 #[.agg #[.int .u8 k, .int .i64 num, .string nm, .slice A n cap, .slice V nv cv, .slice C nc cc, .int .i64 (fpn : Int), .int .i64 (sbn : Int), .slice none 0 0, .slice E ne ce]] W1 fun e w'' => ∃ vm vt sv, e = .returned (.agg (mcells (caseM vs cs fpn sbn ([] : List Int) scr) vm vt (.slice none 0 0) (.slice none 0 0) (.slice none 0 0)).toArray) ∧ MOwn w'' W1.heap.size (caseM vs cs fpn sbn ([] : List Int) scr) vm vt (.slice none 0 0) (.slice none 0 0) (.slice none 0 0) sv ∧ Below W1.heap.size W1 w'') :=
    Lib.hid fun W1 h1 => e_machine (Nat.le_refl _) HC8.out hu.fits hnv6 hfp hsb hne50 W1 h1
  have hg := case_good hu.fits hu.dist HC8.out.ci fpn sbn hfp hsb hu.v6 ([] : List Int) scr HC8.out.gi HC8.out.ei
  have hrn : Runs (caseM vs cs fpn sbn ([] : List Int) scr) (comp (slotsL vs 0 0) (cellsOf vs) e 0).length := case_runs hu.fits HC8.out.ci fpn sbn hfp hsb hu.v6 ([] : List Int) scr HC8.out.gi HC8.out.ei (by have := HC8.out.en; omega) (by have := hu.sz; omega)
  have HVA : Hid (∀ W1, Below w8.heap.size w8 W1 → Calls Tryd.prog 18 #[.agg #[.int .u8 k, .int .i64 num, .string nm, .slice A n cap, .slice V nv cv, .slice C nc cc, .int .i64 (fpn : Int), .int .i64 (sbn : Int), .slice none 0 0, .slice E ne ce]] W1 fun en w'' => en = .returned (.tuple #[.int .i64 (evalE (lookV vs cs) e).1, .int .i64 (evalE (lookV vs cs) e).2]) ∧ Below W1.heap.size W1 w'') := Lib.hid fun W1 h1 => e_valueF (Nat.le_refl _) HC8.out hu W1 h1
  have hrun := hg.run hheld hok.nums (by have := hu.dp; omega)
  have hs0 : (caseM vs cs fpn sbn ([] : List Int) scr).stk 0 = scr := rfl
  rw [hs0] at hrun
  have hsc0 : (caseM vs cs fpn sbn ([] : List Int) scr).setS 0 scr = caseM vs cs fpn sbn ([] : List Int) scr := rfl
  have hat0 : (caseM vs cs fpn sbn ([] : List Int) scr).at_ 0 1 = caseM vs cs fpn sbn ([] : List Int) scr := rfl
  have hmss : 1 ≤ (caseM vs cs fpn sbn ([] : List Int) scr).s.length := by simp [caseM]
  have hrev := evalE_range hg.lk e hok.nums
  have hr40 : (caseM vs cs fpn sbn ([] : List Int) scr).reg 4 = 0 := by rfl
  have hr50 : (caseM vs cs fpn sbn ([] : List Int) scr).reg 5 = 0 := by rfl
  have hsb3 := case_sbW hu.fits fpn sbn ([] : List Int) scr (by have := HC8.out.en; omega)
  have hok2 : e'.ok := Ex.ok_of e' d' _ hu2.ev HCY.out.kv
  have hheld2 := known_held hu2.kn
  have hline2 : Line (comp (slotsL vs 0 0) (cellsOf vs) e' 0) := comp_line (slots_ok hu.fits) hcl.1 e' 0 hheld2 hok2 (by omega) (by have := hu2.dp; omega)
  have hlen2 := comp_length (slotsL vs 0 0) (cellsOf vs) e' 0
  have HVB : Hid (∀ W1, Below w8.heap.size w8 W1 → Calls Tryd.prog 18 #[.agg #[.int .u8 k2, .int .i64 num2, .string nm2, .slice A2 nn2 cap2, .slice V nv cv, .slice C nc cc, .int .i64 (fpn : Int), .int .i64 (sbn : Int), .slice G ng cg, .slice E ne ce]] W1 fun en w'' => en = .returned (.tuple #[.int .i64 (evalE (lookV vs cs) e').1, .int .i64 (evalE (lookV vs cs) e').2]) ∧ Below W1.heap.size W1 w'') := Lib.hid fun W1 h1 => e_valueF (Nat.le_refl _) HCY.out hu2 W1 h1
  obtain ⟨M0, hM0⟩ : ∃ M0, caseM vs cs fpn sbn ([] : List Int) scr = M0 := ⟨_, rfl⟩
  obtain ⟨rv, hrv⟩ : ∃ rv, evalE (lookV vs cs) e = rv := ⟨_, rfl⟩
  obtain ⟨l, hl⟩ : ∃ l, comp (slotsL vs 0 0) (cellsOf vs) e 0 = l := ⟨_, rfl⟩
  obtain ⟨sl, hsl0⟩ : ∃ sl, slotsL vs 0 0 = sl := ⟨_, rfl⟩
  obtain ⟨ct, hct⟩ : ∃ ct, cellsOf vs = ct := ⟨_, rfl⟩
  obtain ⟨st, hst⟩ : ∃ st, stksOf vs = st := ⟨_, rfl⟩
  rw [hM0] at hM hg hrn hrun hsc0 hat0 hmss
  obtain ⟨rw, hrw⟩ : ∃ rw, evalE (lookV vs cs) e' = rw := ⟨_, rfl⟩
  obtain ⟨l2, hl2⟩ : ∃ l2, comp (slotsL vs 0 0) (cellsOf vs) e' 0 = l2 := ⟨_, rfl⟩
  rw [hM0] at hr40 hr50 hsb3
  have HSB := Lib.hid hsb3
  have HBA : Hid (∀ u : Prg, rv.2 ≠ 0 → (seqX (withL l u) M0).1 = rv.2) := Lib.hid fun u h0 => by
    have h := nested_bad1 hg hheld hok.nums (by have := hu.dp; omega) (u := u) (by rw [hrv]; exact h0)
    rw [hl, hrv] at h; exact h
  have HBB : Hid (rv.2 = 0 → rw.2 ≠ 0 → (seqX (withL l (useN l2)) M0).1 = rw.2) := Lib.hid fun h0 h1 => by
    have h := nested_bad2 hg hr40 hheld hok.nums (by have := hu.dp; omega) hheld2 hok2.nums (by have := hu2.dp; omega) hr50 (by rw [hrv]; exact h0) (by rw [hrw]; exact h1)
    rw [hl, hl2, hrw] at h; exact h
  have HGN : Hid (rv.2 = 0 → rw.2 = 0 → seqX (withL l (useN l2)) M0 = (0, M0.setR 8 (xor64 (M0.reg 8) (wrap64 (rv.1 - rw.1))))) := Lib.hid fun h0 h1 => by
    have h := with_nested hg hr40 hheld hok.nums (by have := hu.dp; omega) hheld2 hok2.nums (by have := hu2.dp; omega) hr50 hline hline2 (by rw [hrv]; exact h0) (by rw [hrw]; exact h1)
    rw [hl, hl2, hrv, hrw] at h; exact h
  rw [hl2] at hline2 hlen2
  rw [hrw] at HVB
  have HLINE2 := Lib.hid hline2
  have HLN2 : Hid (l2.length ≤ 1600) := Lib.hid (by have := hu2.sz; omega)
  rw [hrv] at hrun HVA hrev
  rw [hl] at hline hlen hrn hrun
  have hlp := pushE_length (lookV vs cs) e
  obtain ⟨pu, hpu⟩ : ∃ pu, pushE (lookV vs cs) e = pu := ⟨_, rfl⟩
  rw [hpu] at hrun hlp
  have hbd : MBd M0 := by
    have h := (Runs.fit (l := l) hrn hline (j := 0) (Nat.zero_le _) (N := M0) rfl).2
    rw [show M0.at_ ((0 : Nat) : Int) 1 = M0 from hat0] at h
    exact h
  rw [hsl0] at hl hsl hheld HFR
  rw [hct] at hl hcl HFR
  rw [hst] at HFR
  have HL := Lib.hid hl; have HLINE := Lib.hid hline; have HRUN := Lib.hid hrun; have HAT := Lib.hid hat0; have HSC := Lib.hid hsc0; have HMSS := Lib.hid hmss; have HMBD := Lib.hid hbd
  obtain ⟨nl, hnl⟩ : ∃ nl, l.length = nl := ⟨_, rfl⟩
  rw [hnl] at hrn hlen
  have HNL := Lib.hid hnl; have HRN := Lib.hid hrn; have HLP := Lib.hid hlp
  have hnl2 : nl ≤ 1600 := by have := hu.sz; omega
  have hsz200 : e.sz ≤ 200 := hu.sz
  rw [hsl0] at hl2 hheld2
  rw [hct] at hl2
  have HCW : Hid (∀ wf, Below w8.heap.size w8 wf → ∀ Au cu, SlotsAt wf wf.heap.size Au sl → ∀ U nu cu' lu, (U = none → nu = 0 ∧ cu' = 0) → Rd wf (· < wf.heap.size) 5 U nu (codeCells lu) → nu ≤ 100000 → Calls Tryd.prog 12 #[.agg #[.int .u8 k, .int .i64 num, .string nm, .slice A n cap], .agg #[.slice Au nv cu, .int .i64 ct, .int .i64 st], .slice U nu cu'] wf fun en w'' => ∃ v, en = .returned (.tuple #[v, .int .i64 0]) ∧ w''.ownsRow wf.heap.size 42 5 v (withL l lu).length (codeCells (withL l lu)) ∧ Below wf.heap.size wf w'') := Lib.hid fun wf hwf Au cu hs U nu cu' lu hU hRU hnu => by
    have h := e_With (w := wf) (B := wf.heap.size) (Nat.le_refl _) (F := Au) (nf := nv) (cf := cu) (cc := ct) (ss := st) hcl.1 (by omega) sl hs (by rw [hsl]; exact HC8.out.vn) (by omega) e hheld (by have := hu.sz; omega) ⟨k, num, nm, A, n, cap⟩ (EV.up hwf.size _ _ (hu.ev.next hwf)) (KV.up hwf.size _ _ (HC8.out.kv.next hwf)) (by have := hu.dp; omega) wf (Below.refl _ _) (by rw [HL.out]; exact HLINE.out.wf) U nu cu' lu hU hRU hnu
    rw [HL.out] at h
    exact h
  have HCW2 : Hid (∀ wf, Below w8.heap.size w8 wf → ∀ Au cu, SlotsAt wf wf.heap.size Au sl → ∀ U nu cu' lu, (U = none → nu = 0 ∧ cu' = 0) → Rd wf (· < wf.heap.size) 5 U nu (codeCells lu) → nu ≤ 100000 → Calls Tryd.prog 12 #[.agg #[.int .u8 k2, .int .i64 num2, .string nm2, .slice A2 nn2 cap2], .agg #[.slice Au nv cu, .int .i64 ct, .int .i64 st], .slice U nu cu'] wf fun en w'' => ∃ v, en = .returned (.tuple #[v, .int .i64 0]) ∧ w''.ownsRow wf.heap.size 42 5 v (withL l2 lu).length (codeCells (withL l2 lu)) ∧ Below wf.heap.size wf w'') := Lib.hid fun wf hwf Au cu hs U nu cu' lu hU hRU hnu => by
    have h := e_With (w := wf) (B := wf.heap.size) (Nat.le_refl _) (F := Au) (nf := nv) (cf := cu) (cc := ct) (ss := st) hcl.1 (by omega) sl hs (by rw [hsl]; exact HC8.out.vn) (by omega) e' hheld2 (by have := hu2.sz; omega) ⟨k2, num2, nm2, A2, nn2, cap2⟩ (EV.up hwf.size _ _ (hu2.ev.next hwf)) (KV.up hwf.size _ _ (HCY.out.kv.next hwf)) (by have := hu2.dp; omega) wf (Below.refl _ _) (by rw [hl2]; exact hline2.wf) U nu cu' lu hU hRU hnu
    rw [hl2] at h
    exact h
  have hsn : scr.length = ne := HC8.out.en
  have HSN := Lib.hid hsn
  clear hu2 hok2 hheld2 hline2 hlen2 hl2 hrw hr40 hr50 hsb3
  clear hu hsum hok hheld hline hlen hsl hl hsl0 hct hst hnl hcl hfp hsb hg hrn hrun hs0 hsc0 hat0 hmss hM0 hrv hlp hpu hbd hsn hrev
  refine wp_region_pred3 (n := 6) (by kernel_rfl) (by kernel_rfl) (by kernel_rfl) (by kernel_rfl) (PrB (.agg #[.int .u8 k, .int .i64 num, .string nm, .slice A n cap, .slice V nv cv, .slice C nc cc, .int .i64 (fpn : Int), .int .i64 (sbn : Int), .slice none 0 0, .slice E ne ce]) M0) (PrB_next _ _) ?_ ?_
  · intro i o hi ho lo hi2 a Wd Gt
    match i, hi, ho, Gt with
    | 0, _, ho, Gt =>
      obtain rfl := Option.some.inj ho
      exact y_loadC (.tmp 2) rfl W.heap.size _ (eval_tmp ((Gt.o 2 (by kernel_rfl)).trans rfl)) (HK8.out.next Gt.b) rfl
    | 1, _, ho, Gt =>
      obtain rfl := Option.some.inj ho
      obtain ⟨v0, e0, h0⟩ := Gt.p 0 34 (by decide) rfl (by kernel_rfl)
      have h0 := PrB_c (.inl rfl) h0
      subst h0
      refine y_call1 16 (.tmp 34) _ rfl en_mach ?_
      rw [eval_tmp e0]
      refine (hM.out Wd (HB8.out.next Gt.b)).mono ?_
      rintro en w'' ⟨vm, vt, sv, rfl, ho, hb⟩
      exact ⟨_, rfl, ⟨vm, vt, sv, w'', rfl, rfl, ho, Below.refl _ _⟩, hb⟩
    | 2, _, ho, Gt =>
      obtain rfl := Option.some.inj ho
      exact y_loadC (.tmp 2) rfl W.heap.size _ (eval_tmp ((Gt.o 2 (by kernel_rfl)).trans rfl)) (HK8.out.next Gt.b) rfl
    | 3, _, ho, Gt =>
      obtain rfl := Option.some.inj ho
      obtain ⟨v0, e0, h0⟩ := Gt.p 2 36 (by decide) rfl (by kernel_rfl)
      have h0 := PrB_c (.inr rfl) h0
      subst h0
      refine y_call1 16 (.tmp 36) _ rfl en_mach ?_
      rw [eval_tmp e0]
      refine (hM.out Wd (HB8.out.next Gt.b)).mono ?_
      rintro en w'' ⟨vm, vt, sv, rfl, ho, hb⟩
      exact ⟨_, rfl, ⟨vm, vt, sv, w'', rfl, rfl, ho, Below.refl _ _⟩, hb⟩
    | 4, _, ho, Gt =>
      obtain rfl := Option.some.inj ho
      exact y_allocM rfl ⟨rfl, by simp, Blk.new _ _ _⟩
    | 5, _, ho, Gt =>
      obtain rfl := Option.some.inj ho
      exact y_allocM rfl ⟨rfl, by simp, Blk.new _ _ _⟩
  intro o o' ho ho' lo hi2 a Wd Gt
  obtain rfl := Option.some.inj ho
  obtain rfl := Option.some.inj ho'
  obtain ⟨v1, e1, h1⟩ := Gt.p 1 35 (by decide) rfl rfl
  obtain ⟨v3, e3, h3⟩ := Gt.p 3 37 (by decide) rfl rfl
  obtain ⟨v4, e4, h4⟩ := Gt.p 4 6 (by decide) rfl rfl
  obtain ⟨v5, e5, h5⟩ := Gt.p 5 7 (by decide) rfl rfl
  obtain ⟨vm1, vt1, sv1, wq1, s1, rfl, m1, b1⟩ := PrB_m (.inl rfl) h1
  obtain ⟨vm3, vt3, sv3, wq3, s3, rfl, m3, b3⟩ := PrB_m (.inr rfl) h3
  obtain ⟨rfl, q4, k4⟩ := PrB_b (.inl rfl) h4
  obtain ⟨rfl, q5, k5⟩ := PrB_b (.inr rfl) h5
  have i1 := Gt.iv 1 (by decide) rfl; have i3 := Gt.iv 3 (by decide) rfl; have i4 := Gt.iv 4 (by decide) rfl; have i5 := Gt.iv 5 (by decide) rfl
  have d13 := Gt.ap 1 3 (by decide) (by decide) rfl rfl (by decide); have d14 := Gt.ap 1 4 (by decide) (by decide) rfl rfl (by decide); have d15 := Gt.ap 1 5 (by decide) (by decide) rfl rfl (by decide)
  have d34 := Gt.ap 3 4 (by decide) (by decide) rfl rfl (by decide); have d35 := Gt.ap 3 5 (by decide) (by decide) rfl rfl (by decide); have d45 := Gt.ap 4 5 (by decide) (by decide) rfl rfl (by decide)
  have n1 := mc_len M0 vm1 vt1 (.slice none 0 0) (.slice none 0 0) (.slice none 0 0) m1.1
  have n3 := mc_len M0 vm3 vt3 (.slice none 0 0) (.slice none 0 0) (.slice none 0 0) m3.1
  refine wp_store_row 51 (.tmp 6) (.tmp 35) rfl (lo 4) _ (eval_tmp e4) (eval_tmp e1) 51 #[.int .i64 0, .int .i64 0, .int .i64 0, .int .i64 0, .int .i64 0, .int .i64 0, .int .i64 0, .int .i64 0, .int .i64 0, .int .i64 0, .int .i64 0, .int .i64 0, .int .i64 0, .int .i64 0, .int .i64 0, .int .i64 0, .int .i64 0, .int .i64 0, .slice none 0 0, .slice none 0 0, .slice none 0 0, .int .i64 0, .int .i64 0, .slice none 0 0, .slice none 0 0] k4 (by rw [info_mach25E]; simp [n1]) (by simp [n1]) (mown_one m1) ?_
  refine wp_store_row 51 (.tmp 7) (.tmp 37) rfl (lo 5) _ (eval_tmp e5) (eval_tmp e3) 51 #[.int .i64 0, .int .i64 0, .int .i64 0, .int .i64 0, .int .i64 0, .int .i64 0, .int .i64 0, .int .i64 0, .int .i64 0, .int .i64 0, .int .i64 0, .int .i64 0, .int .i64 0, .int .i64 0, .int .i64 0, .int .i64 0, .int .i64 0, .int .i64 0, .slice none 0 0, .slice none 0 0, .slice none 0 0, .int .i64 0, .int .i64 0, .slice none 0 0, .slice none 0 0] ((setRow_other _ _ _ _ (by omega)).trans k5) (by rw [info_mach25E]; simp [n3]) (by simp [n3]) (mown_one m3) ?_
  have hGb := Gt.b
  obtain ⟨w9, hw9⟩ : ∃ w', w' = (Wd.setRow (lo 4) (mcells M0 vm1 vt1 (.slice none 0 0) (.slice none 0 0) (.slice none 0 0)).toArray).setRow (lo 5) (mcells M0 vm3 vt3 (.slice none 0 0) (.slice none 0 0) (.slice none 0 0)).toArray := ⟨_, rfl⟩
  obtain ⟨gm9, gs9, gmo9, gso9, fx9, fxo9, htw9, hbt9⟩ := two_mach2 m1 b1 m3 b3 k4 k5 q4 q5 (B := w8.heap.size) (by omega) (by omega) i4.1 i5.1 (by omega) (by omega) (by omega) (by omega) (by omega) (by omega) w9 hw9
  have HPQ9 := Lib.hid (hGb.trans (hbt9 hGb.size))
  rw [← hw9]
  have HTW9 := Lib.hid htw9
  have hact := Gt.act.act [34, 35, 36, 37, 6, 7] (by kernel_rfl)
  have g4 : a.tmps.getD 6 undef = .pointer (some ⟨lo 4, 0, none⟩) := by simp [Array.getD_eq_getD_getElem?, e4]
  have g5 : a.tmps.getD 7 undef = .pointer (some ⟨lo 5, 0, none⟩) := by simp [Array.getD_eq_getD_getElem?, e5]
  change Exit.then _ _ .normal a _
  rw [hact]
  simp only [putAll, List.foldl_cons, List.foldl_nil, List.setIfInBounds_toArray, List.set_cons_succ, List.set_cons_zero]
  rw [g4, g5]
  clear hw9 htw9 hbt9 hact g4 g5 e1 e3 e4 e5 h1 h3 h4 h5 m1 m3 b1 b3 s1 s3 k4 k5 q4 q5 i1 i3 i4 i5 d13 d14 d15 d34 d35 d45 n1 n3 hGb ho ho' Gt
  generalize a.tmps.getD 34 undef = u34
  generalize a.tmps.getD 35 undef = u35
  generalize a.tmps.getD 36 undef = u36
  generalize a.tmps.getD 37 undef = u37
  generalize lo 4 = b9 at *
  generalize lo 5 = c9 at *
  generalize lo 1 = lo9 at *
  clear a lo hi2
  have tb := HTW9.out.b
  obtain ⟨rv1, rv2⟩ := rv
  obtain ⟨rw1, rw2⟩ := rw
  dsimp only at HVA HVB HBA HBB HGN
  have hfx : ∀ k, Pl.O ⟨b9, 51, [], [], 0, gm9, gs9, fx9⟩ k → fxo9 k := HTW9.out.f
  have hfo : ∀ k, Pl.O ⟨c9, 51, [], [], 0, gmo9, gso9, fxo9⟩ k → fx9 k := HTW9.out.f'
  have hna := HTW9.out.n1
  have hnb := HTW9.out.n2
  have HFX := Lib.hid hfx; have HFO := Lib.hid hfo
  have HB9 := Lib.hid (HB8.out.next HPQ9.out); have HK9 := Lib.hid (HK8.out.next HPQ9.out); have HN9 := Lib.hid (HN8.out.next HPQ9.out); have HY9 := Lib.hid (HY8.out.next HPQ9.out)
  have HM9 := Lib.hid HTW9.out.m; have HO9 := Lib.hid HTW9.out.m'
  have hz9 : w8.heap.size ≤ w9.heap.size := HPQ9.out.size
  have HGO : Hid (b9 < w9.heap.size ∧ gm9 < w9.heap.size ∧ gs9 < w9.heap.size ∧ c9 < w9.heap.size ∧ gmo9 < w9.heap.size ∧ gso9 < w9.heap.size) := Lib.hid (by
    obtain ⟨_, _, _, _, _, _, hh⟩ := HTW9.out.m; obtain ⟨_, _, _, _, _, _, h2⟩ := HTW9.out.m'
    exact ⟨hh.lt, hh.gm, hh.gs, h2.lt, h2.gm, h2.gs⟩)
  clear hfx hfo HTW9 HK8 HN8 HY8
  obtain ⟨z_1, T_1, F_1⟩ := HK9.out.open_
  go_wp2_with fail
  refine (HFR.out w9 HB9.out).mono ?_
  rintro en wf ⟨u, rfl, hown, hbf⟩
  obtain ⟨Au, cu2, rfl⟩ := own_form hown
  have HSLO := Lib.hid (SlotsAt.own hown)
  have HXF := Lib.hid hbf
  have HNf := Lib.hid (HN9.out.next hbf)
  clear T_1 z_1 F_1 hown hbf
  go_upto_region 10 with fail
  refine wp_nameE ?_
  intro wg hwg
  have KF : Blk wg wf.heap.size 35 #[.slice Au nv cu2, .int .i64 ct, .int .i64 st] := by rw [hwg]; exact Blk.new _ _ _
  have hbg : Below wf.heap.size wf wg := by rw [hwg]; exact (Below.refl _ _).alloc (Nat.le_refl _) _
  have HKF := Lib.hid KF; have HXG := Lib.hid hbg
  have HNg := Lib.hid (HNf.out.next hbg)
  have HXFG := Lib.hid (HXF.out.next hbg)
  clear hwg KF hbg HNf
  obtain ⟨z_1, T_1, F_1⟩ := HNg.out.open_
  obtain ⟨z_2, T_2, F_2⟩ := HKF.out.open_
  go_wp2_with fail
  refine (HCW2.out _ ((HB9.out.next HXFG.out).next ((Below.refl _ _).alloc (Nat.le_refl _) _)) Au cu2 (SlotsAt.upW (SlotsAt.next HSLO.out (HXG.out.next ((Below.refl _ _).alloc (Nat.le_refl _) _))) (HXG.out.next ((Below.refl _ _).alloc (Nat.le_refl _) _)).size) (some ⟨wg.heap.size, 0, none⟩) 1 1 useC (fun e => by cases e) (rd_blkW (ins := useC) (Blk.new _ _ _) rfl) (by omega)).mono ?_
  rintro en w10 ⟨v, rfl, hown, hbc⟩
  obtain ⟨n1, hn1⟩ : ∃ n1, (withL l2 useC).length = n1 := ⟨_, rfl⟩
  rw [hn1] at hown
  have hn1b : n1 ≤ 3300 := by rw [← hn1, withL_length]; have := HLN2.out; simp [useC]; omega
  obtain ⟨A1, c1, rfl⟩ := own_form hown
  have HS10 := Lib.hid (Sl.of_own hown)
  have hx10 : Below wg.heap.size wg w10 := Below.next ((Below.refl _ _).alloc (Nat.le_refl _) _) hbc
  have HX10 := Lib.hid hx10; have HN1 := Lib.hid hn1
  clear T_1 z_1 F_1 T_2 z_2 F_2 hown hbc hx10 hn1
  go_upto_region 12 with fail
  refine wp_nameE ?_
  intro w11 hw11
  have KI : Blk w11 w10.heap.size 42 #[.int .u8 7, .int .i64 4, .int .i64 5, .int .i64 0, .int .i64 0] := by rw [hw11]; exact Blk.new _ _ _
  have hb11 : Below w10.heap.size w10 w11 := by rw [hw11]; exact (Below.refl _ _).alloc (Nat.le_refl _) _
  have HI11 := Lib.hid KI
  have HS1 : Hid (Sl w11 (fun k => k < w11.heap.size) 5 (.slice A1 n1 c1) n1 (codeCells (withL l2 useC))) := Lib.hid (HS10.out.keep (fun b o hd => hb11.cell (p := ⟨b, o, none⟩) hd.2) (fun k hk => Nat.lt_of_lt_of_le hk.2 hb11.size))
  have HX11 := Lib.hid (HX10.out.next hb11)
  clear hw11 KI hb11 HS10 HX10 HNg
  obtain ⟨i2, li, lz, ls, lb⟩ := info_parts info_insE
  have HI := Lib.hid li; have HZ := Lib.hid lz; have HSI := Lib.hid ls; have HBY := Lib.hid lb
  clear li lz ls lb
  go_cut [12] (fun v12 wx => ∃ A12 c12, v12 = .slice A12 (1 + n1 + 1) c12 ∧ wx.ownsRow w11.heap.size 42 5 (.slice A12 (1 + n1 + 1) c12) (1 + n1 + 1) (codeCells (useN l2)) ∧ Below w11.heap.size w11 wx)
  case first =>
    refine wp_region_heldL (S := fun W => Below w11.heap.size w11 W) 7 (by kernel_rfl) ((Below.refl _ _).drew) (fun hH => ?_)
    refine wpAnyL_at ?_
    intro wa hwa
    have hX : Below w11.heap.size w11 wa := by rw [hwa]; exact (Below.refl _ _).drew
    replace hH := hX
    clear hwa
    refine tkL 0 (v := ?_) rfl (by kernel_rfl) (fun _ _ _ h => h) (by rfl) ?hy hH ?_
    case hy => (intro w9_ hS9; have t := (HI11.out.next hS9).cell; clear hS9; go_simp; try with_reducible rfl)
    (try simp only [Bk.PU, Act.put])
    refine tkL 2 (v := ?_) rfl (by kernel_rfl) (fun _ _ _ h => h) (by rfl) ?hy hH ?_
    case hy => (intro w9_ hS9; clear hS9; go_simp; try with_reducible rfl)
    (try simp only [Bk.PU, Act.put])
    refine tkL 4 (v := ?_) rfl (by kernel_rfl) (fun _ _ _ h => h) (by rfl) ?hy hH ?_
    case hy => (intro w9_ hS9; have t := (HI11.out.next hS9).cell; clear hS9; go_simp; try with_reducible rfl)
    (try simp only [Bk.PU, Act.put])
    refine wpAnyL_ready (rs := [1, 5]) (by kernel_rfl) (by simp) ?_
    refine AllReadyL.cons rfl (fun K hK => ?_) (AllReadyL.cons rfl (fun K hK => ?_) (AllReadyL.nil))
    · go_simp
      replace hH : Below w11.heap.size w11 _ := hX.alloc (by have := hX.size; omega) (.cells (codeCells [⟨7, 4, 5, 0, 0⟩]).toArray 42)
      refine hK.out _ _ hH (fun _ => ?_)
      clear hK
      (try simp only [Bk.PU, Act.put])
      refine wpAnyL_at ?_
      intro wb hwn
      have hbn : Below wa.heap.size wa wb := by rw [hwn]; exact (Below.refl _ _).alloc (Nat.le_refl _) _
      have K_1 : Blk wb wa.heap.size 42 (codeCells [⟨7, 4, 5, 0, 0⟩]).toArray := by rw [hwn]; exact Blk.new _ _ _
      have z_1 : wa.heap.size < wb.heap.size := K_1.lt
      have y_1 : w11.heap.size ≤ wa.heap.size := hX.size
      replace hX := hX.next hbn
      replace hH := hX
      clear hwn hbn
      refine wpAnyL_ready (rs := [3, 5]) (by kernel_rfl) (by simp) ?_
      refine AllReadyL.cons rfl (fun K hK => ?_) (AllReadyL.cons rfl (fun K hK => ?_) (AllReadyL.nil))
      · rw [if_pos (by rfl)]
        refine wp_appS (.tmp 51) (.tmp 52) 30 rfl w11.heap.size 42 i2 _ 5 40 Tryd.underlying30 HI.out HZ.out HSI.out HBY.out rfl (by decide) (.slice (some ⟨wa.heap.size, 0, none⟩) 1 1) 1 (codeCells [⟨7, 4, 5, 0, 0⟩]) (by simp [Act.eval]) (own_blk5 K_1 y_1) (by simp [Act.eval]) (HS1.out.keep (D' := fun k => k < w11.heap.size) (fun b o hd => hX.cell (p := ⟨b, o, none⟩) hd) (fun _ h => h)) (codeCells_oneE _) (by unfold maxLen; omega) (by omega) hX.size ?_
        intro v_1 wc hown hgr hat
        rw [← codeCells_append] at hown
        replace hX := hX.grown hgr hX.size (fun k hk => by simp [Value.ownBlock] at hk; omega)
        replace hH := hX
        have hsg := hgr.size
        obtain ⟨A_1, c_1, rfl⟩ := own_form hown
        have H_1 := hown
        clear hown hgr hat
        refine hK.out _ _ hH (fun _ => ?_)
        clear hK
        (try simp only [Bk.PU, Act.put])
        refine wpAnyL_next (i := 5) rfl (by kernel_rfl) (fun K hK => ?_)
        go_simp
        replace hH : Below w11.heap.size w11 _ := hX.alloc (by have := hX.size; omega) (.cells (codeCells [⟨7, 4, 5, 0, 0⟩]).toArray 42)
        refine hK.out _ _ hH (fun _ => ?_)
        clear hK
        (try simp only [Bk.PU, Act.put])
        refine wpAnyL_at ?_
        intro wd hwn
        have hbn : Below wc.heap.size wc wd := by rw [hwn]; exact (Below.refl _ _).alloc (Nat.le_refl _) _
        have K_5 : Blk wd wc.heap.size 42 (codeCells [⟨7, 4, 5, 0, 0⟩]).toArray := by rw [hwn]; exact Blk.new _ _ _
        have z_5 : wc.heap.size < wd.heap.size := K_5.lt
        have y_5 : w11.heap.size ≤ wc.heap.size := hX.size
        replace H_1 := own_below H_1 hbn (Nat.le_refl _)
        replace hX := hX.next hbn
        replace hH := hX
        clear hwn hbn
        refine wpAnyL_next (i := 6) rfl (by kernel_rfl) (fun K hK => ?_)
        rw [if_pos (by rfl)]
        refine wp_appS (.tmp 53) (.tmp 55) 30 rfl w11.heap.size 42 i2 _ 5 40 Tryd.underlying30 HI.out HZ.out HSI.out HBY.out rfl (by decide) (.slice A_1 (1 + n1) c_1) (1 + n1) (codeCells ([⟨7, 4, 5, 0, 0⟩] ++ withL l2 useC)) (by simp [Act.eval]) H_1 (by simp [Act.eval]) (sl_blk5 K_5) (codeCells_oneE _) (by unfold maxLen; omega) (by omega) hX.size ?_
        intro v_2 we hown hgr hat
        rw [← codeCells_append] at hown
        replace hX := hX.grown hgr hX.size (fun k hk => (own_gE H_1 hk).1)
        replace hH := hX
        obtain ⟨A_2, c_2, rfl⟩ := own_form hown
        have H_2 := Lib.hid hown
        clear hown hgr hat
        refine hK.out _ _ hH (fun _ => ?_)
        clear hK
        (try simp only [Bk.PU, Act.put])
        refine wpAnyL_last (l := 7) rfl (by kernel_rfl) (by kernel_rfl) (fun K hK => ?_)
        go_simp
        refine hK.out _ _ ?_
        clear hK
        (try simp only [Bk.PU, Act.put])
        have HZ2 := Lib.hid hX
        clear hX hH
        go_wp2_with fail
        go_meet
        exact ⟨_, _, rfl, H_2.out, HZ2.out⟩
      · go_simp
        replace hH : Below w11.heap.size w11 _ := hX.alloc (by have := hX.size; omega) (.cells (codeCells [⟨7, 4, 5, 0, 0⟩]).toArray 42)
        refine hK.out _ _ hH (fun _ => ?_)
        clear hK
        (try simp only [Bk.PU, Act.put])
        refine wpAnyL_at ?_
        intro wc hwn
        have hbn : Below wb.heap.size wb wc := by rw [hwn]; exact (Below.refl _ _).alloc (Nat.le_refl _) _
        have K_5 : Blk wc wb.heap.size 42 (codeCells [⟨7, 4, 5, 0, 0⟩]).toArray := by rw [hwn]; exact Blk.new _ _ _
        have z_5 : wb.heap.size < wc.heap.size := K_5.lt
        have y_5 : w11.heap.size ≤ wb.heap.size := hX.size
        replace K_1 := K_1.next hbn
        replace hX := hX.next hbn
        replace hH := hX
        clear hwn hbn
        refine wpAnyL_next (i := 3) rfl (by kernel_rfl) (fun K hK => ?_)
        rw [if_pos (by rfl)]
        refine wp_appS (.tmp 51) (.tmp 52) 30 rfl w11.heap.size 42 i2 _ 5 40 Tryd.underlying30 HI.out HZ.out HSI.out HBY.out rfl (by decide) (.slice (some ⟨wa.heap.size, 0, none⟩) 1 1) 1 (codeCells [⟨7, 4, 5, 0, 0⟩]) (by simp [Act.eval]) (own_blk5 K_1 y_1) (by simp [Act.eval]) (HS1.out.keep (D' := fun k => k < w11.heap.size) (fun b o hd => hX.cell (p := ⟨b, o, none⟩) hd) (fun _ h => h)) (codeCells_oneE _) (by unfold maxLen; omega) (by omega) hX.size ?_
        intro v_1 wd hown hgr hat
        rw [← codeCells_append] at hown
        replace hX := hX.grown hgr hX.size (fun k hk => by simp [Value.ownBlock] at hk; omega)
        replace hH := hX
        have hsg := hgr.size
        replace K_5 := K_5.grown hgr (by simp [Value.ownBlock]; omega)
        obtain ⟨A_1, c_1, rfl⟩ := own_form hown
        have H_1 := hown
        clear hown hgr hat
        refine hK.out _ _ hH (fun _ => ?_)
        clear hK
        (try simp only [Bk.PU, Act.put])
        refine wpAnyL_next (i := 6) rfl (by kernel_rfl) (fun K hK => ?_)
        rw [if_pos (by rfl)]
        refine wp_appS (.tmp 53) (.tmp 55) 30 rfl w11.heap.size 42 i2 _ 5 40 Tryd.underlying30 HI.out HZ.out HSI.out HBY.out rfl (by decide) (.slice A_1 (1 + n1) c_1) (1 + n1) (codeCells ([⟨7, 4, 5, 0, 0⟩] ++ withL l2 useC)) (by simp [Act.eval]) H_1 (by simp [Act.eval]) (sl_blk5 K_5) (codeCells_oneE _) (by unfold maxLen; omega) (by omega) hX.size ?_
        intro v_2 we hown hgr hat
        rw [← codeCells_append] at hown
        replace hX := hX.grown hgr hX.size (fun k hk => (own_gE H_1 hk).1)
        replace hH := hX
        obtain ⟨A_2, c_2, rfl⟩ := own_form hown
        have H_2 := Lib.hid hown
        clear hown hgr hat
        refine hK.out _ _ hH (fun _ => ?_)
        clear hK
        (try simp only [Bk.PU, Act.put])
        refine wpAnyL_last (l := 7) rfl (by kernel_rfl) (by kernel_rfl) (fun K hK => ?_)
        go_simp
        refine hK.out _ _ ?_
        clear hK
        (try simp only [Bk.PU, Act.put])
        have HZ2 := Lib.hid hX
        clear hX hH
        go_wp2_with fail
        go_meet
        exact ⟨_, _, rfl, H_2.out, HZ2.out⟩
    · go_simp
      replace hH : Below w11.heap.size w11 _ := hX.alloc (by have := hX.size; omega) (.cells (codeCells [⟨7, 4, 5, 0, 0⟩]).toArray 42)
      refine hK.out _ _ hH (fun _ => ?_)
      clear hK
      (try simp only [Bk.PU, Act.put])
      refine wpAnyL_at ?_
      intro wb hwn
      have hbn : Below wa.heap.size wa wb := by rw [hwn]; exact (Below.refl _ _).alloc (Nat.le_refl _) _
      have K_5 : Blk wb wa.heap.size 42 (codeCells [⟨7, 4, 5, 0, 0⟩]).toArray := by rw [hwn]; exact Blk.new _ _ _
      have z_5 : wa.heap.size < wb.heap.size := K_5.lt
      have y_5 : w11.heap.size ≤ wa.heap.size := hX.size
      replace hX := hX.next hbn
      replace hH := hX
      clear hwn hbn
      refine wpAnyL_next (i := 1) rfl (by kernel_rfl) (fun K hK => ?_)
      go_simp
      replace hH : Below w11.heap.size w11 _ := hX.alloc (by have := hX.size; omega) (.cells (codeCells [⟨7, 4, 5, 0, 0⟩]).toArray 42)
      refine hK.out _ _ hH (fun _ => ?_)
      clear hK
      (try simp only [Bk.PU, Act.put])
      refine wpAnyL_at ?_
      intro wc hwn
      have hbn : Below wb.heap.size wb wc := by rw [hwn]; exact (Below.refl _ _).alloc (Nat.le_refl _) _
      have K_1 : Blk wc wb.heap.size 42 (codeCells [⟨7, 4, 5, 0, 0⟩]).toArray := by rw [hwn]; exact Blk.new _ _ _
      have z_1 : wb.heap.size < wc.heap.size := K_1.lt
      have y_1 : w11.heap.size ≤ wb.heap.size := hX.size
      replace K_5 := K_5.next hbn
      replace hX := hX.next hbn
      replace hH := hX
      clear hwn hbn
      refine wpAnyL_next (i := 3) rfl (by kernel_rfl) (fun K hK => ?_)
      rw [if_pos (by rfl)]
      refine wp_appS (.tmp 51) (.tmp 52) 30 rfl w11.heap.size 42 i2 _ 5 40 Tryd.underlying30 HI.out HZ.out HSI.out HBY.out rfl (by decide) (.slice (some ⟨wb.heap.size, 0, none⟩) 1 1) 1 (codeCells [⟨7, 4, 5, 0, 0⟩]) (by simp [Act.eval]) (own_blk5 K_1 y_1) (by simp [Act.eval]) (HS1.out.keep (D' := fun k => k < w11.heap.size) (fun b o hd => hX.cell (p := ⟨b, o, none⟩) hd) (fun _ h => h)) (codeCells_oneE _) (by unfold maxLen; omega) (by omega) hX.size ?_
      intro v_1 wd hown hgr hat
      rw [← codeCells_append] at hown
      replace hX := hX.grown hgr hX.size (fun k hk => by simp [Value.ownBlock] at hk; omega)
      replace hH := hX
      have hsg := hgr.size
      replace K_5 := K_5.grown hgr (by simp [Value.ownBlock]; omega)
      obtain ⟨A_1, c_1, rfl⟩ := own_form hown
      have H_1 := hown
      clear hown hgr hat
      refine hK.out _ _ hH (fun _ => ?_)
      clear hK
      (try simp only [Bk.PU, Act.put])
      refine wpAnyL_next (i := 6) rfl (by kernel_rfl) (fun K hK => ?_)
      rw [if_pos (by rfl)]
      refine wp_appS (.tmp 53) (.tmp 55) 30 rfl w11.heap.size 42 i2 _ 5 40 Tryd.underlying30 HI.out HZ.out HSI.out HBY.out rfl (by decide) (.slice A_1 (1 + n1) c_1) (1 + n1) (codeCells ([⟨7, 4, 5, 0, 0⟩] ++ withL l2 useC)) (by simp [Act.eval]) H_1 (by simp [Act.eval]) (sl_blk5 K_5) (codeCells_oneE _) (by unfold maxLen; omega) (by omega) hX.size ?_
      intro v_2 we hown hgr hat
      rw [← codeCells_append] at hown
      replace hX := hX.grown hgr hX.size (fun k hk => (own_gE H_1 hk).1)
      replace hH := hX
      obtain ⟨A_2, c_2, rfl⟩ := own_form hown
      have H_2 := Lib.hid hown
      clear hown hgr hat
      refine hK.out _ _ hH (fun _ => ?_)
      clear hK
      (try simp only [Bk.PU, Act.put])
      refine wpAnyL_last (l := 7) rfl (by kernel_rfl) (by kernel_rfl) (fun K hK => ?_)
      go_simp
      refine hK.out _ _ ?_
      clear hK
      (try simp only [Bk.PU, Act.put])
      have HZ2 := Lib.hid hX
      clear hX hH
      go_wp2_with fail
      go_meet
      exact ⟨_, _, rfl, H_2.out, HZ2.out⟩
  case rest =>
  obtain ⟨A12, c12, rfl, ho12, hb12⟩ := hcut
  have HB12 := Lib.hid (HB9.out.next (((HXFG.out.next HX11.out)).next hb12))
  have HX12 := Lib.hid ((HXFG.out.next HX11.out).next hb12)
  have HXG12 := Lib.hid (HX11.out.next hb12)
  have HUN := Lib.hid (Rd.ofOwn ho12).1
  have HUR := Lib.hid (Rd.ofOwn ho12).2
  have HK12 := Lib.hid (HK9.out.next HX12.out)
  have HKF12 := Lib.hid (HKF.out.next HXG12.out)
  have HSL12 : Hid (SlotsAt wc wc.heap.size Au sl) := Lib.hid (SlotsAt.upW (SlotsAt.next HSLO.out (HXG.out.next HXG12.out)) (HXG.out.next HXG12.out).size)
  clear ho12 hb12 HI11 HS1 HX11 HI HZ HSI HBY HCW2 HXFG HXF
  generalize wc = w12 at *
  obtain ⟨z_1, T_1, F_1⟩ := HK12.out.open_
  obtain ⟨z_2, T_2, F_2⟩ := HKF12.out.open_
  go_wp2_with fail
  refine (HCW.out w12 HB12.out Au cu2 HSL12.out A12 (1 + n1 + 1) c12 (useN l2) HUN.out HUR.out (by omega)).mono ?_
  rintro en w13 ⟨v, rfl, hown, hbc⟩
  obtain ⟨L, hL⟩ : ∃ L, withL l (useN l2) = L := ⟨_, rfl⟩
  rw [hL] at hown HGN HBB
  have hbad := HBA.out (useN l2)
  rw [hL] at hbad
  obtain ⟨nL, hnL⟩ : ∃ nL, L.length = nL := ⟨_, rfl⟩
  rw [hnL] at hown
  obtain ⟨Ac, cl, rfl⟩ := own_form hown
  have hRC := Rd.ofOwnB hown
  have hLine : Line L := by rw [← hL]; exact line_with HLINE.out (line_useN HLINE2.out)
  have hLn : nL ≤ 65536 := by
    rw [← hnL, ← hL, withL_length, HNL.out]
    have h1 : (useN l2).length = n1 + 2 := by simp only [useN, List.length_append, List.length_singleton, HN1.out]; omega
    omega
  have hrq : Runs M0 nL := ⟨HRN.out.ok, HRN.out.cl, HRN.out.ml, HRN.out.sl, HRN.out.sb, hLn⟩
  have hgo := HGO.out
  have hz12 := HX12.out.size
  have HB13 := Lib.hid (HB12.out.next hbc); have HX13 := Lib.hid (HX12.out.next hbc)
  have hEnv : Env w13 ⟨b9, 51, [], [], 0, gm9, gs9, fx9⟩ Ac nL L :=
    ⟨hRC.mono fun k hk => ⟨hk.2, by rintro (e | e | e) <;> (dsimp only at e; have := hk.1; omega)⟩, hLine.wf, HT8.out.next HB13.out, by have := HT8.out.lt; rintro (e | e | e) <;> (dsimp only at e; omega), by rw [hnL]; exact hLn⟩
  have hrun := e_run (HM9.out.next HX13.out) cl hEnv hLine hrq
  have HNO : Hid (∀ k, k < w8.heap.size → ¬ Pl.O ⟨b9, 51, [], [], 0, gm9, gs9, fx9⟩ k) := Lib.hid fun k hk => by rintro (e | e | e) <;> (dsimp only at e; omega)
  have HNG : Hid (∀ k, Pl.O ⟨b9, 51, [], [], 0, gm9, gs9, fx9⟩ k → w8.heap.size ≤ k) := Lib.hid fun k hk => by rcases hk with e | e | e <;> (dsimp only at e; omega)
  have HRUN2 := Lib.hid hrun; have HBADL := Lib.hid hbad
  have HEND : Hid (∀ N, seqX L M0 = (0, N) → MBd N ∧ N.at_ 0 1 = N) := Lib.hid fun N hs => by
    have h := (Runs.fit (l := L) (by rw [hnL]; exact hrq) hLine (j := nL) (by omega) (N := N) (by rw [← hnL, List.take_length]; exact hs)).2
    refine ⟨h.un, ?_⟩
    have hk := seqX_keep L M0 (by rw [hs])
    rw [hs] at hk
    have hp0 : M0.pc = 0 ∧ M0.dir = 1 := by have h := HAT.out; rw [← h]; exact ⟨rfl, rfl⟩
    have h1 : N.pc = 0 := hk.1.trans hp0.1
    have h2 : N.dir = 1 := hk.2.1.trans hp0.2
    have h3 := at_self N
    rw [h1, h2] at h3; exact h3
  clear hrun hbad hrq hRC hEnv hLine hLn hown hbc T_1 z_1 F_1 T_2 z_2 F_2 hL hnL HKF12 HK12 HSL12 HUN HUR HKF HXG HXG12 HSLO HX12 HCW HB12 HBA
  go_wp2_with fail
  refine HRUN2.out.mono ?_
  rintro en w14 ⟨rfl, hm14, hf14⟩
  have HM14 := Lib.hid hm14
  have HB14 := Lib.hid (HB13.out.trans (hf14.below (B := w8.heap.size) (by have := HB13.out.size; omega) HNG.out))
  have HK14 := Lib.hid (hf14.blk (HK9.out.next HX13.out) (HNO.out _ (by omega)))
  have HY14 := Lib.hid (hf14.blk (HY9.out.next HX13.out) (HNO.out _ (by omega)))
  have hno1 : ¬ Pl.O ⟨b9, 51, [], [], 0, gm9, gs9, fx9⟩ c9 := by rintro (e | e | e) <;> (dsimp only at e; omega)
  have hno2 : ¬ Pl.O ⟨b9, 51, [], [], 0, gm9, gs9, fx9⟩ gmo9 := by rintro (e | e | e) <;> (dsimp only at e; omega)
  have hno3 : ¬ Pl.O ⟨b9, 51, [], [], 0, gm9, gs9, fx9⟩ gso9 := by rintro (e | e | e) <;> (dsimp only at e; omega)
  have HO14 := Lib.hid ((HO9.out.next HX13.out).other hf14 hno1 hno2 hno3 HFX.out)
  clear hm14 hf14 HRUN2 hno1 hno2 hno3 HM9 HO9 HK9 HY9 HN9 HX13 HB13
  obtain ⟨z_1, T_1, F_1⟩ := HK14.out.open_
  go_wp2_with fail
  refine (HVA.out w14 HB14.out).mono ?_
  rintro en w15 ⟨rfl, hb15⟩
  have HB15 := Lib.hid (HB14.out.next hb15); have HY15 := Lib.hid (HY14.out.next hb15); have HX15 := Lib.hid hb15
  clear T_1 z_1 F_1 hb15 HK14 HY14
  obtain ⟨z_1, T_1, F_1⟩ := HY15.out.open_
  go_wp2_with fail
  refine (HVB.out w15 HB15.out).mono ?_
  rintro en w17 ⟨rfl, hb17⟩
  have HB17 := Lib.hid (HB15.out.next hb17); have HX17 := Lib.hid (HX15.out.next hb17)
  obtain ⟨vmo, vso, vco, vio, voo, svo, hmo⟩ := HO14.out.next HX17.out
  have HMO := Lib.hid hmo
  have ho7 := HMO.out.cr 8 (by decide)
  have hofr := HMO.out.frozen 10
  have holt := HMO.out.lt
  dsimp only at ho7 hofr holt
  rw [show 0 + 2 + 8 = 10 from rfl, show M0.r.getD 8 0 = M0.reg 8 from rfl] at ho7
  clear T_1 z_1 F_1 hb17 hmo HO14 HY15 HX15 HB15 HB14
  have HSTO : Hid (∀ u, ∀ w18, w18 = w17.setCell ⟨c9, 10, none⟩ u → Fr (fun k => k = c9) w17 w18 ∧ Below w8.heap.size w8 w18) := Lib.hid fun u w18 hw => by
    have hf : Fr (fun k => k = c9) w17 w18 := by rw [hw]; exact Fr.set (O := fun k => k = c9) (Fr.refl _ _) (show c9 = c9 from rfl) _
    exact ⟨hf, HB17.out.trans (hf.below (by have := HB17.out.size; omega) (fun k hk => by omega))⟩
  by_cases h0 : rv2 = 0
  · subst h0
    by_cases h1 : rw2 = 0
    · have hs := HGN.out (by first | trivial | rfl) h1
      subst h1
      obtain ⟨N, hN⟩ : ∃ N, M0.setR 8 (xor64 (M0.reg 8) (wrap64 (rv1 - rw1))) = N := ⟨_, rfl⟩
      rw [hN] at hs
      obtain ⟨hbdN, hat⟩ := HEND.out N hs
      have hm14 := HM14.out (by rw [hs])
      rw [hs] at hm14
      dsimp only at hm14
      rw [hat] at hm14
      have HN17 := Lib.hid (hm14.next HX17.out)
      have HE16 : Hid ((seqX L M0).1 = 0) := Lib.hid (by rw [hs])
      have HBN := Lib.hid hbdN; have HND := Lib.hid hN
      rw [HE16.out]
      clear hs hm14 HM14 hbdN hat hN HGN HBB HBADL
      go_upto_region 20 with fail
      refine wp_nameE ?_
      intro w18 hw18
      have hm18 : MAt w18 ⟨c9, 51, [], [], 0, gmo9, gso9, fxo9⟩ N := by
        rw [hw18, ← HND.out]; exact (HMO.out.setReg 8 (by decide) (xor64 (M0.reg 8) (wrap64 (rv1 - rw1)))).mat
      obtain ⟨hf18, hb18⟩ := HSTO.out _ w18 hw18
      have hn18 := HN17.out.other hf18 (fun e => by dsimp only at e; omega) (fun e => by dsimp only at e; omega) (fun e => by dsimp only at e; omega) (fun k hk => HFO.out k (.inl hk))
      obtain ⟨_, _, _, _, _, _, hma⟩ := hn18
      obtain ⟨_, _, _, _, _, _, hmb⟩ := hm18
      have HEQ := Lib.hid (c_EqualT hma.rd hmb.rd HBN.out)
      have HB18 := Lib.hid hb18
      clear hma hmb hb18 hf18 hw18 ho7 hofr holt
      go_wp2_with fail
      refine HEQ.out.mono ?_
      rintro en w19 ⟨rfl, hb19⟩
      have HFIN := Lib.hid (HB8W.out.trans ((HB18.out.next hb19).mono (by omega)))
      clear hb19 HEQ
      go_wp2_with fail
      go_ret
      exact ⟨rfl, HFIN.out⟩
    · have HE16 : Hid ((seqX L M0).1 = rw2) := Lib.hid (HBB.out (by first | trivial | rfl) h1)
      rw [HE16.out]
      clear HM14 HGN HBB HBADL
      go_upto_region 20 with fail
      refine wp_nameE ?_
      intro w18 hw18
      have HFIN := Lib.hid (HB8W.out.trans ((HSTO.out _ w18 hw18).2.mono (by omega)))
      clear hw18 ho7 hofr holt
      go_wp2_with fail
      go_ret
      exact ⟨rfl, HFIN.out⟩
  · have HE16 : Hid ((seqX L M0).1 = rv2) := Lib.hid (HBADL.out h0)
    rw [HE16.out]
    clear HM14 HGN HBB HBADL
    go_upto_region 20 with fail
    refine wp_nameE ?_
    intro w18 hw18
    have HFIN := Lib.hid (HB8W.out.trans ((HSTO.out _ w18 hw18).2.mono (by omega)))
    clear hw18 ho7 hofr holt
    go_wp2_with fail
    go_ret
    exact ⟨rfl, HFIN.out⟩
end Go.Proofs.YtbijhlgdilkopaaDoor
