/- The walk of the law ExprgenWith. Printed by gen_egwith.py. -/
import Derived.Test.YtbijhlgdilkopaaDoorEwX
import Derived.Test.YtbijhlgdilkopaaDoorEvX
import Derived.Test.YtbijhlgdilkopaaDoorCpZ
import Derived.Test.YtbijhlgdilkopaaDoorEuX
import Derived.Test.YtbijhlgdilkopaaDoorZEgR6
import Derived.Test.YtbijhlgdilkopaaDoorZEgW2
import Derived.Deep.DeepCutAuto
set_option linter.unusedVariables false
set_option linter.unusedSimpArgs false
set_option maxRecDepth 100000
set_option maxHeartbeats 4000000
namespace Go.Proofs.YtbijhlgdilkopaaDoor
open Go.RowKit Bk
theorem c_lawWith {d : Nat} {x : Nd} {V : Option Addr} {nv cv : Nat} {vs : List Vr} {C : Option Addr} {nc cc : Nat} {cs : List (List Int)} {fp sb : Int} {G : Option Addr} {ng cg : Nat} {regs : List Int} {E : Option Addr} {ne ce : Nat} {scr : List Int} (W : World) (hc : CaseAt W W.heap.size d x V nv vs C nc cs G ng regs E ne ce scr) (hT : TableAt W) (hgs : Sl W (· < W.heap.size) 1 (.slice G ng cg) ng (intCells regs)) (hng : ng ≤ 17592186043904) (cell : Nat) (hcell : cell ≤ 255) :
    Calls Tryd.prog 6 #[.agg #[.int .u8 x.k, .int .i64 x.num, .string x.nm, .slice x.A x.n x.cap, .slice V nv cv, .slice C nc cc, .int .i64 fp, .int .i64 sb, .slice G ng cg, .slice E ne ce], .int .u8 (cell : Int)] W fun e w' => e = .returned (.bool true) ∧ Below W.heap.size W w' := by
  have HGS := Lib.hid hgs
  clear hgs
  have HC := Lib.hid hc; have HT := Lib.hid hT
  have HUS : Hid (∀ W1, Below W.heap.size W W1 → Calls Tryd.prog 9 #[.agg #[.int .u8 x.k, .int .i64 x.num, .string x.nm, .slice x.A x.n x.cap, .slice V nv cv, .slice C nc cc, .int .i64 fp, .int .i64 sb, .slice G ng cg, .slice E ne ce]] W1 fun en w'' => ∃ b, en = .returned (.bool b) ∧ (b = true → ∃ e, Usable W W.heap.size nameB x e vs cs fp sb ne) ∧ Below W1.heap.size W1 w'') := Lib.hid fun W1 h1 => e_usable (Nat.le_refl _) hc W1 h1
  obtain ⟨k, num, nm, A, n, cap⟩ := x
  dsimp only at *
  clear hc hT
  go_enter Tryd.func6, Tryd.ntmps6
  go_upto_region 1 with fail
  refine wp_nameE ?_
  intro w1 hw1
  have hb1 : Below W.heap.size W w1 := by rw [hw1]; exact (by go_grown)
  have K1 : Blk w1 W.heap.size 29 #[.int .u8 k, .int .i64 num, .string nm, .slice A n cap, .slice V nv cv, .slice C nc cc, .int .i64 fp, .int .i64 sb, .slice G ng cg, .slice E ne ce] := by rw [hw1]; exact (by repeat' (first | assumption | exact Blk.new' (by simp) _ _ | apply Blk.alloc | apply Blk.drew))
  have HK1 := Lib.hid K1; have HB1 := Lib.hid hb1
  clear hw1 hb1 K1
  go_wp2_with fail
  refine (e_awake w1 (HT.out.next HB1.out)).mono ?_
  rintro en w2 ⟨rfl, hb2⟩
  have HB2 := Lib.hid (HB1.out.next hb2); have HK2 := Lib.hid (HK1.out.next hb2)
  clear hb2
  obtain ⟨z_1, T_1, F_1⟩ := HK2.out.open_
  go_wp2_with fail
  refine (HUS.out w2 HB2.out).mono ?_
  rintro en w3 ⟨b3, rfl, hus, hb3⟩
  have HB3 := Lib.hid (HB2.out.next hb3); have HK3 := Lib.hid (HK2.out.next hb3); have HUSE := Lib.hid hus
  clear T_1 z_1 F_1 hb3 hus
  obtain ⟨z_1, T_1, F_1⟩ := HK3.out.open_
  cases b3 with
  | false =>
    go_wp2_with fail
    go_ret
    exact ⟨rfl, HB3.out⟩
  | true =>
  obtain ⟨e, hu⟩ := HUSE.out (by first | rfl | trivial)
  clear HUSE HUS
  obtain ⟨fpn, rfl⟩ : ∃ q : Nat, fp = (q : Int) := ⟨fp.toNat, by have := hu.fp; omega⟩
  obtain ⟨sbn, rfl⟩ : ∃ q : Nat, sb = (q : Int) := ⟨sb.toNat, by have := hu.sb; omega⟩
  have hfp : fpn ≤ 20 := by have := hu.fp; omega
  have hsb : sbn ≤ 5 := by have := hu.sb; omega
  clear T_1 z_1 F_1
  obtain ⟨i1, li, lz, ls, lb⟩ := info_parts info_int8E
  have HI := Lib.hid li; have HZ := Lib.hid lz; have HSZ := Lib.hid ls; have HBY := Lib.hid lb
  have HU := Lib.hid hu
  clear li lz ls lb hu HK1 HK2
  obtain ⟨z_1, T_1, F_1⟩ := HK3.out.open_
  go_upto_region 5 with fail
  go_wp2_with (at_builtin; refine wpList_appS rfl (.tmp 19) (.tmp 21) 27 rfl w3.heap.size 3 i1 _ 1 8 Tryd.underlying27 HI.out HZ.out HSZ.out HBY.out rfl (by decide) (.slice (some ⟨w3.heap.size, 0, none⟩) 0 0) 0 [] rfl (own_blk0 (Blk.new _ _ _) (Nat.le_refl _)) rfl (HGS.out.keep (fun b o hd => (HB3.out.next ((Below.refl _ _).alloc (Nat.le_refl _) _)).cell (p := ⟨b, o, none⟩) hd) (fun _ h => h)) (oneInt _) (by unfold maxLen; omega) (by omega) (by simp) ?_)
  intro v5 w5 hown hgr hat
  replace hown : w5.ownsRow w3.heap.size 3 1 v5 ng (intCells regs) := by simpa using hown
  have hx5 : Below w3.heap.size w3 w5 := ((Below.refl _ _).alloc (Nat.le_refl _) _).grown hgr (by simp) (fun k hk => by simp [Value.ownBlock] at hk; omega)
  obtain ⟨A5, c5, rfl⟩ := own_form hown
  have HO5 := Lib.hid hown; have HK5 := Lib.hid (HK3.out.next hx5); have HB5 := Lib.hid (HB3.out.next hx5)
  have hlt3 : W.heap.size < w3.heap.size := HK3.out.lt
  have HX5 := Lib.hid hx5
  clear T_1 z_1 F_1 hown hgr hat hx5
  obtain ⟨z_1, T_1, F_1⟩ := HK5.out.open_
  go_upto_region 6 with fail
  refine wp_nameE ?_
  intro w6 hw6
  have K6 : Blk w6 W.heap.size 29 #[.int .u8 k, .int .i64 num, .string nm, .slice A n cap, .slice V nv cv, .slice C nc cc, .int .i64 (fpn : Int), .int .i64 (sbn : Int), .slice A5 ng c5, .slice E ne ce] := by rw [hw6]; simpa using HK5.out.set_ 8 (.slice A5 ng c5)
  have hb6 : Below W.heap.size W w6 := by rw [hw6]; have h5 := HB5.out; go_grown
  have ho6 : w6.ownsRow w3.heap.size 3 1 (.slice A5 ng c5) ng (intCells (regs ++ List.replicate (ng - ng) 0)) := by
    rw [hw6, Nat.sub_self, List.replicate_zero, List.append_nil]; exact own_setCell HO5.out hlt3
  have hs6 : w3.heap.size ≤ w6.heap.size := by rw [hw6]; have := HX5.out.size; simpa [World.setCell] using this
  have HK6 := Lib.hid K6; have HB6 := Lib.hid hb6; have HO6 := Lib.hid ho6
  clear T_1 z_1 F_1 hw6 K6 hb6 ho6 HK5 HB5 HO5 HX5
  go_loopw [] (fun wr => ∃ (G2 : Option Addr) (n2 c2 : Nat), ng ≤ n2 ∧ n2 ≤ ng + 16 ∧ w3.heap.size ≤ wr.heap.size ∧ Blk wr W.heap.size 29 #[.int .u8 k, .int .i64 num, .string nm, .slice A n cap, .slice V nv cv, .slice C nc cc, .int .i64 (fpn : Int), .int .i64 (sbn : Int), .slice G2 n2 c2, .slice E ne ce] ∧ wr.ownsRow w3.heap.size 3 1 (.slice G2 n2 c2) n2 (intCells (regs ++ List.replicate (n2 - ng) 0)) ∧ Below W.heap.size W wr) (fun wr => 16 - slLen wr ⟨W.heap.size, 8, none⟩)
  case atStart => exact ⟨A5, ng, c5, Nat.le_refl _, by omega, hs6, HK6.out, HO6.out, HB6.out⟩
  case round =>
    obtain ⟨G2, n2, c2, hn2, hn2b, hs7, hk7, ho7, hb7⟩ := hrel
    have HO7 := Lib.hid ho7; have HB7 := Lib.hid hb7; have HK7 := Lib.hid hk7
    have hlen7 : slLen wr ⟨W.heap.size, 8, none⟩ = n2 := slLen_of (HK7.out.cell 8)
    have HLEN := Lib.hid hlen7
    obtain ⟨z_1, T_1, F_1⟩ := hk7.open_
    clear hk7 ho7 hb7 hlen7 HK6 HB6 HO6
    by_cases h16 : n2 < 16
    · have j1 : (n2 : Int) < 16 := by omega
      go_wp2_with (at_builtin; refine wpList_appS rfl (.tmp 29) (.tmp 30) 27 rfl w3.heap.size 3 i1 _ 1 8 Tryd.underlying27 HI.out HZ.out HSZ.out HBY.out rfl (by decide) (.slice G2 n2 c2) n2 (intCells (regs ++ List.replicate (n2 - ng) 0)) rfl (HO7.out.alloc _) rfl (sl_blk1 (Blk.new _ _ _)) (by intro u hu; simp at hu; subst hu; rfl) (by unfold maxLen; omega) (by omega) (by simp; omega) ?_)
      intro v9 w9 hown hgr hat
      have e9 := pad_succ regs hn2
      replace hown : w9.ownsRow w3.heap.size 3 1 v9 (n2 + 1) (intCells (regs ++ List.replicate (n2 + 1 - ng) 0)) := by rw [← e9]; exact hown
      have hge : ∀ k, (Value.slice G2 n2 c2).ownBlock = some k → w3.heap.size ≤ k := fun k hk => (own_gE HO7.out hk).1
      have hbX : Below W.heap.size W w9 := (HB7.out.alloc (by omega) _).grown hgr (by simp; omega) (fun k hk => by have := hge k hk; omega)
      have KX : Blk w9 W.heap.size 29 #[.int .u8 k, .int .i64 num, .string nm, .slice A n cap, .slice V nv cv, .slice C nc cc, .int .i64 (fpn : Int), .int .i64 (sbn : Int), .slice G2 n2 c2, .slice E ne ce] := (HK7.out.next ((Below.refl _ _).alloc (Nat.le_refl _) _)).grown hgr (fun e => by have := hge _ (by first | exact e | exact e.symm); omega)
      have hs9 : w3.heap.size ≤ w9.heap.size := by have := hgr.size; simp at this; omega
      obtain ⟨A9, c9, rfl⟩ := own_form hown
      have HK9 := Lib.hid KX; have HB9 := Lib.hid hbX; have HO9 := Lib.hid hown
      clear T_1 z_1 F_1 hown hgr hat e9 hbX hge
      obtain ⟨z_1, T_1, F_1⟩ := KX.open_
      clear KX
      go_wp2_with fail
      have KY := HK9.out.set_ 8 (.slice A9 (n2 + 1) c9)
      refine ⟨⟨A9, n2 + 1, c9, by omega, by omega, by simpa [World.setCell] using hs9, by simpa using KY, own_setCell HO9.out hlt3, (by have h9 := HB9.out; go_grown)⟩, ?_⟩
      rw [HLEN.out, slLen_of (KY.cell 8)]
      omega
    · have j1 : ¬ (n2 : Int) < 16 := by omega
      have hn16 : 4 < n2 := by omega
      have hi4 : (4 : Int) < (n2 : Int) := by omega
      obtain ⟨g2, cp2, ev, _, _, _, _, q5⟩ := own_some HO7.out (by omega)
      injection ev with ev1 _ ev3
      subst ev1; subst ev3
      have hfr := own_frozen HO7.out 4
      have HPL : Hid ((regs ++ List.replicate (n2 - ng) 0).length = n2) := Lib.hid (by rw [List.length_append, List.length_replicate, HC.out.gn]; omega)
      obtain ⟨u4, hu4⟩ : ∃ u, wr.cell? ⟨g2, 4, none⟩ = some u := ⟨_, q5 4 _ (by rw [intCells_get _ _ (by rw [HPL.out]; omega)])⟩
      have hg2 : w3.heap.size ≤ g2 := (own_gE HO7.out rfl).1
      have hgW : W.heap.size ≠ g2 := by omega
      clear q5
      go_upto_region 9 with fail
      refine wp_nameE ?_
      intro w8 hw8
      obtain ⟨hia, _, hgl⟩ := ints_own_set HO7.out HPL.out 4 hn16 0 w8 hw8
      have HB8W : Hid (Below W.heap.size W w8) := Lib.hid (by rw [hw8]; have h7 := HB7.out; go_grown)
      have HK8 : Hid (Blk w8 W.heap.size 29 #[.int .u8 k, .int .i64 num, .string nm, .slice A n cap, .slice V nv cv, .slice C nc cc, .int .i64 (fpn : Int), .int .i64 (sbn : Int), .slice (some ⟨g2, 0, none⟩) n2 c2, .slice E ne ce]) := Lib.hid (by rw [hw8]; exact HK7.out.far hgW _)
      obtain ⟨regs2, hregs2⟩ : ∃ r, (regs ++ List.replicate (n2 - ng) 0).set 4 0 = r := ⟨_, rfl⟩
      have HR2 := Lib.hid hregs2
      rw [hregs2] at hia
      have hc8 := HC.out.regs (ng' := n2) HB8W.out hia (by rw [← hregs2, List.length_set]; exact HPL.out) (by rw [← hregs2]; exact pad_i64 HC.out.gi _)
      have HC8 := Lib.hid hc8
      have hu := HU.out.up HB8W.out
      have HT8 := Lib.hid (HT.out.next HB8W.out)
      have HB8 := Lib.hid (Below.refl w8.heap.size w8)
      have hz8 : W.heap.size < w8.heap.size := HK8.out.lt
      obtain ⟨G2, hG2⟩ : ∃ G2 : Option Addr, some ⟨g2, 0, none⟩ = G2 := ⟨_, rfl⟩
      rw [hG2] at HK8 hc8 HC8
      clear T_1 z_1 F_1 hw8 hia hgl hregs2 hc8 hu4 hfr HK7 HO7 HB7 HU HC HT HGS hG2 hgW hg2 HLEN
      have hsum := sums_le vs hu.fits.ok
      have hcl : 0 ≤ cellsOf vs ∧ cellsOf vs ≤ 96 := by have := hu.v6; omega
      have hnv6 : nv ≤ 6 := by have := hu.v6; have := HC8.out.vn; omega
      have hne50 : ne ≤ 50 := hu.n50
      have HFR : Hid (∀ W1, Below w8.heap.size w8 W1 → Calls Tryd.prog 10 #[.slice V nv cv] W1 fun en w'' => ∃ u, en = .returned (.agg #[u, .int .i64 (cellsOf vs), .int .i64 (stksOf vs)]) ∧ w''.ownsRow W1.heap.size 75 4 u nv (slotCells (slotsL vs 0 0)) ∧ Below W1.heap.size W1 w'') := Lib.hid fun W1 h1 => e_frame (Nat.le_refl _) V nv cv vs HC8.out.v HC8.out.vn (by omega) hu.fits.ok W1 h1
      have hok : e.ok := Ex.ok_of e d _ hu.ev HC8.out.kv
      have hheld := known_held hu.kn
      have hline : Line (comp (slotsL vs 0 0) (cellsOf vs) e 0) := comp_line (slots_ok hu.fits) hcl.1 e 0 hheld hok (by omega) (by have := hu.dp; omega)
      have hlen := comp_length (slotsL vs 0 0) (cellsOf vs) e 0
      have hsl := slotsL_length vs 0 0
      have hM : Hid (∀ W1, Below w8.heap.size w8 W1 → Calls Tryd.prog 16 #[.agg #[.int .u8 k, .int .i64 num, .string nm, .slice A n cap, .slice V nv cv, .slice C nc cc, .int .i64 (fpn : Int), .int .i64 (sbn : Int), .slice G2 n2 c2, .slice E ne ce]] W1 fun e w'' => ∃ vm vt sv, e = .returned (.agg (mcells (caseM vs cs fpn sbn regs2 scr) vm vt (.slice none 0 0) (.slice none 0 0) (.slice none 0 0)).toArray) ∧ MOwn w'' W1.heap.size (caseM vs cs fpn sbn regs2 scr) vm vt (.slice none 0 0) (.slice none 0 0) (.slice none 0 0) sv ∧ Below W1.heap.size W1 w'') :=
        Lib.hid fun W1 h1 => e_machine (Nat.le_refl _) HC8.out hu.fits hnv6 hfp hsb hne50 W1 h1
      have hg := case_good hu.fits hu.dist HC8.out.ci fpn sbn hfp hsb hu.v6 regs2 scr HC8.out.gi HC8.out.ei
      have hrn : Runs (caseM vs cs fpn sbn regs2 scr) (comp (slotsL vs 0 0) (cellsOf vs) e 0).length := case_runs hu.fits HC8.out.ci fpn sbn hfp hsb hu.v6 regs2 scr HC8.out.gi HC8.out.ei (by have := HC8.out.en; omega) (by have := hu.sz; omega)
      have HVA : Hid (∀ W1, Below w8.heap.size w8 W1 → Calls Tryd.prog 18 #[.agg #[.int .u8 k, .int .i64 num, .string nm, .slice A n cap, .slice V nv cv, .slice C nc cc, .int .i64 (fpn : Int), .int .i64 (sbn : Int), .slice G2 n2 c2, .slice E ne ce]] W1 fun en w'' => en = .returned (.tuple #[.int .i64 (evalE (lookV vs cs) e).1, .int .i64 (evalE (lookV vs cs) e).2]) ∧ Below W1.heap.size W1 w'') := Lib.hid fun W1 h1 => e_valueF (Nat.le_refl _) HC8.out hu W1 h1
      have hrun := hg.run hheld hok.nums (by have := hu.dp; omega)
      have hs0 : (caseM vs cs fpn sbn regs2 scr).stk 0 = scr := rfl
      rw [hs0] at hrun
      have hsc0 : (caseM vs cs fpn sbn regs2 scr).setS 0 scr = caseM vs cs fpn sbn regs2 scr := rfl
      have hat0 : (caseM vs cs fpn sbn regs2 scr).at_ 0 1 = caseM vs cs fpn sbn regs2 scr := rfl
      have hmss : 1 ≤ (caseM vs cs fpn sbn regs2 scr).s.length := by simp [caseM]
      have hrev := evalE_range hg.lk e hok.nums
      have hr40 : (caseM vs cs fpn sbn regs2 scr).reg 4 = 0 := by
        show (regsL regs2).getD 4 0 = 0
        rw [← HR2.out]; exact regs4 (n := n2) hn16 HPL.out
      have hmfp : (caseM vs cs fpn sbn regs2 scr).fp = fpn := rfl
      have hml : fpn ≤ (caseM vs cs fpn sbn regs2 scr).m.length := by simp only [caseM, List.length_append, List.length_map, List.length_range]; omega
      have hsb3 := case_sbW hu.fits fpn sbn regs2 scr (by have := HC8.out.en; omega)
      obtain ⟨M0, hM0⟩ : ∃ M0, caseM vs cs fpn sbn regs2 scr = M0 := ⟨_, rfl⟩
      obtain ⟨rv, hrv⟩ : ∃ rv, evalE (lookV vs cs) e = rv := ⟨_, rfl⟩
      obtain ⟨l, hl⟩ : ∃ l, comp (slotsL vs 0 0) (cellsOf vs) e 0 = l := ⟨_, rfl⟩
      obtain ⟨sl, hsl0⟩ : ∃ sl, slotsL vs 0 0 = sl := ⟨_, rfl⟩
      obtain ⟨ct, hct⟩ : ∃ ct, cellsOf vs = ct := ⟨_, rfl⟩
      obtain ⟨st, hst⟩ : ∃ st, stksOf vs = st := ⟨_, rfl⟩
      rw [hM0] at hM hg hrn hrun hsc0 hat0 hmss
      rw [hM0] at hr40 hmfp hml hsb3
      have HSB := Lib.hid hsb3
      have HBAD : Hid (∀ u : Prg, rv.2 ≠ 0 → (seqX (withL l u) M0).1 = rv.2) := Lib.hid fun u h0 => by
        have h := nested_bad1 hg hheld hok.nums (by have := hu.dp; omega) (u := u) (by rw [hrv]; exact h0)
        rw [hl, hrv] at h; exact h
      have HG0 : Hid (rv.2 = 0 → seqX (withL l use0) M0 = (0, M0.setR 7 (wrap64 (M0.reg 7 + rv.1)))) := Lib.hid fun h0 => by
        have h := with_use0 hg hr40 hheld hok.nums (by have := hu.dp; omega) hline (by rw [hrv]; exact h0)
        rw [hl, hrv] at h; exact h
      have HGF : Hid (rv.2 = 0 → ∀ q : Nat, q < fpn → seqX (withL l (useF fpn q)) M0 = (0, (M0.setM q (wrap64 (M0.m.getD q 0 + 3))).setR 7 (wrap64 (M0.reg 7 + rv.1)))) := Lib.hid fun h0 q hq => by
        have h := with_useF hg hr40 hheld hok.nums (by have := hu.dp; omega) hline (by rw [hrv]; exact h0) (k := q) (by rw [hmfp]; omega)
        rw [hl, hrv, hmfp] at h; exact h
      have HMFP := Lib.hid hmfp; have HMLE := Lib.hid hml
      have hfp20 : fpn ≤ 20 := hfp
      rw [hrv] at hrun HVA hrev
      rw [hl] at hline hlen hrn hrun
      have hlp := pushE_length (lookV vs cs) e
      obtain ⟨pu, hpu⟩ : ∃ pu, pushE (lookV vs cs) e = pu := ⟨_, rfl⟩
      rw [hpu] at hrun hlp
      have hbd : MBd M0 := by
        have h := (Runs.fit (l := l) hrn hline (j := 0) (Nat.zero_le _) (N := M0) rfl).2
        rw [show M0.at_ ((0 : Nat) : Int) 1 = M0 from hat0] at h
        exact h
      rw [hsl0] at hl hsl hheld HFR
      rw [hct] at hl hcl HFR
      rw [hst] at HFR
      have HL := Lib.hid hl; have HLINE := Lib.hid hline; have HRUN := Lib.hid hrun; have HAT := Lib.hid hat0; have HSC := Lib.hid hsc0; have HMSS := Lib.hid hmss; have HMBD := Lib.hid hbd
      obtain ⟨nl, hnl⟩ : ∃ nl, l.length = nl := ⟨_, rfl⟩
      rw [hnl] at hrn hlen
      have HNL := Lib.hid hnl; have HRN := Lib.hid hrn; have HLP := Lib.hid hlp
      have hnl2 : nl ≤ 1600 := by have := hu.sz; omega
      have hsz200 : e.sz ≤ 200 := hu.sz
      have HCW : Hid (∀ wf, Below w8.heap.size w8 wf → ∀ Au cu, SlotsAt wf wf.heap.size Au sl → ∀ U nu cu' lu, (U = none → nu = 0 ∧ cu' = 0) → Rd wf (· < wf.heap.size) 5 U nu (codeCells lu) → nu ≤ 100000 → Calls Tryd.prog 12 #[.agg #[.int .u8 k, .int .i64 num, .string nm, .slice A n cap], .agg #[.slice Au nv cu, .int .i64 ct, .int .i64 st], .slice U nu cu'] wf fun en w'' => ∃ v, en = .returned (.tuple #[v, .int .i64 0]) ∧ w''.ownsRow wf.heap.size 42 5 v (withL l lu).length (codeCells (withL l lu)) ∧ Below wf.heap.size wf w'') := Lib.hid fun wf hwf Au cu hs U nu cu' lu hU hRU hnu => by
        have h := e_With (w := wf) (B := wf.heap.size) (d := d) (Nat.le_refl _) (F := Au) (nf := nv) (cf := cu) (cc := ct) (ss := st) hcl.1 (by omega) sl hs (by rw [hsl]; exact HC8.out.vn) (by omega) e hheld (by have := hu.sz; omega) ⟨k, num, nm, A, n, cap⟩ (EV.up hwf.size _ _ (hu.ev.next hwf)) (KV.up hwf.size _ _ (HC8.out.kv.next hwf)) (by have := hu.dp; omega) wf (Below.refl _ _) (by rw [HL.out]; exact HLINE.out.wf) U nu cu' lu hU hRU hnu
        rw [HL.out] at h
        exact h
      have hsn : scr.length = ne := HC8.out.en
      have HSN := Lib.hid hsn
      clear hu hsum hok hheld hline hlen hsl hl hsl0 hct hst hnl hcl hfp hsb hr40 hmfp hml hsb3 hg hrn hrun hs0 hsc0 hat0 hmss hM0 hrv hlp hpu hbd hsn hrev
      refine wp_region_pred3 (n := 6) (by kernel_rfl) (by kernel_rfl) (by kernel_rfl) (by kernel_rfl) (PrB (.agg #[.int .u8 k, .int .i64 num, .string nm, .slice A n cap, .slice V nv cv, .slice C nc cc, .int .i64 (fpn : Int), .int .i64 (sbn : Int), .slice G2 n2 c2, .slice E ne ce]) M0) (PrB_next _ _) ?_ ?_
      · intro i o hi ho lo hi2 a Wd Gt
        match i, hi, ho, Gt with
        | 0, _, ho, Gt =>
          obtain rfl := Option.some.inj ho
          exact y_loadC (.tmp 2) rfl W.heap.size _ (eval_tmp ((Gt.o 2 (by kernel_rfl)).trans rfl)) (HK8.out.next Gt.b) rfl
        | 1, _, ho, Gt =>
          obtain rfl := Option.some.inj ho
          obtain ⟨v0, e0, h0⟩ := Gt.p 0 36 (by decide) rfl (by kernel_rfl)
          have h0 := PrB_c (.inl rfl) h0
          subst h0
          refine y_call1 16 (.tmp 36) _ rfl en_mach ?_
          rw [eval_tmp e0]
          refine (hM.out Wd (HB8.out.next Gt.b)).mono ?_
          rintro en w'' ⟨vm, vt, sv, rfl, ho, hb⟩
          exact ⟨_, rfl, ⟨vm, vt, sv, w'', rfl, rfl, ho, Below.refl _ _⟩, hb⟩
        | 2, _, ho, Gt =>
          obtain rfl := Option.some.inj ho
          exact y_loadC (.tmp 2) rfl W.heap.size _ (eval_tmp ((Gt.o 2 (by kernel_rfl)).trans rfl)) (HK8.out.next Gt.b) rfl
        | 3, _, ho, Gt =>
          obtain rfl := Option.some.inj ho
          obtain ⟨v0, e0, h0⟩ := Gt.p 2 38 (by decide) rfl (by kernel_rfl)
          have h0 := PrB_c (.inr rfl) h0
          subst h0
          refine y_call1 16 (.tmp 38) _ rfl en_mach ?_
          rw [eval_tmp e0]
          refine (hM.out Wd (HB8.out.next Gt.b)).mono ?_
          rintro en w'' ⟨vm, vt, sv, rfl, ho, hb⟩
          exact ⟨_, rfl, ⟨vm, vt, sv, w'', rfl, rfl, ho, Below.refl _ _⟩, hb⟩
        | 4, _, ho, Gt =>
          obtain rfl := Option.some.inj ho
          exact y_allocM rfl ⟨rfl, by simp, Blk.new _ _ _⟩
        | 5, _, ho, Gt =>
          obtain rfl := Option.some.inj ho
          exact y_allocM rfl ⟨rfl, by simp, Blk.new _ _ _⟩
      intro o o' ho ho' lo hi2 a Wd Gt
      obtain rfl := Option.some.inj ho
      obtain rfl := Option.some.inj ho'
      obtain ⟨v1, e1, h1⟩ := Gt.p 1 37 (by decide) rfl rfl
      obtain ⟨v3, e3, h3⟩ := Gt.p 3 39 (by decide) rfl rfl
      obtain ⟨v4, e4, h4⟩ := Gt.p 4 5 (by decide) rfl rfl
      obtain ⟨v5, e5, h5⟩ := Gt.p 5 6 (by decide) rfl rfl
      obtain ⟨vm1, vt1, sv1, wq1, s1, rfl, m1, b1⟩ := PrB_m (.inl rfl) h1
      obtain ⟨vm3, vt3, sv3, wq3, s3, rfl, m3, b3⟩ := PrB_m (.inr rfl) h3
      obtain ⟨rfl, q4, k4⟩ := PrB_b (.inl rfl) h4
      obtain ⟨rfl, q5, k5⟩ := PrB_b (.inr rfl) h5
      have i1 := Gt.iv 1 (by decide) rfl; have i3 := Gt.iv 3 (by decide) rfl; have i4 := Gt.iv 4 (by decide) rfl; have i5 := Gt.iv 5 (by decide) rfl
      have d13 := Gt.ap 1 3 (by decide) (by decide) rfl rfl (by decide); have d14 := Gt.ap 1 4 (by decide) (by decide) rfl rfl (by decide); have d15 := Gt.ap 1 5 (by decide) (by decide) rfl rfl (by decide)
      have d34 := Gt.ap 3 4 (by decide) (by decide) rfl rfl (by decide); have d35 := Gt.ap 3 5 (by decide) (by decide) rfl rfl (by decide); have d45 := Gt.ap 4 5 (by decide) (by decide) rfl rfl (by decide)
      have n1 := mc_len M0 vm1 vt1 (.slice none 0 0) (.slice none 0 0) (.slice none 0 0) m1.1
      have n3 := mc_len M0 vm3 vt3 (.slice none 0 0) (.slice none 0 0) (.slice none 0 0) m3.1
      refine wp_store_row 51 (.tmp 5) (.tmp 37) rfl (lo 4) _ (eval_tmp e4) (eval_tmp e1) 51 #[.int .i64 0, .int .i64 0, .int .i64 0, .int .i64 0, .int .i64 0, .int .i64 0, .int .i64 0, .int .i64 0, .int .i64 0, .int .i64 0, .int .i64 0, .int .i64 0, .int .i64 0, .int .i64 0, .int .i64 0, .int .i64 0, .int .i64 0, .int .i64 0, .slice none 0 0, .slice none 0 0, .slice none 0 0, .int .i64 0, .int .i64 0, .slice none 0 0, .slice none 0 0] k4 (by rw [info_mach25E]; simp [n1]) (by simp [n1]) (mown_one m1) ?_
      refine wp_store_row 51 (.tmp 6) (.tmp 39) rfl (lo 5) _ (eval_tmp e5) (eval_tmp e3) 51 #[.int .i64 0, .int .i64 0, .int .i64 0, .int .i64 0, .int .i64 0, .int .i64 0, .int .i64 0, .int .i64 0, .int .i64 0, .int .i64 0, .int .i64 0, .int .i64 0, .int .i64 0, .int .i64 0, .int .i64 0, .int .i64 0, .int .i64 0, .int .i64 0, .slice none 0 0, .slice none 0 0, .slice none 0 0, .int .i64 0, .int .i64 0, .slice none 0 0, .slice none 0 0] ((setRow_other _ _ _ _ (by omega)).trans k5) (by rw [info_mach25E]; simp [n3]) (by simp [n3]) (mown_one m3) ?_
      have hGb := Gt.b
      obtain ⟨w9, hw9⟩ : ∃ w', w' = (Wd.setRow (lo 4) (mcells M0 vm1 vt1 (.slice none 0 0) (.slice none 0 0) (.slice none 0 0)).toArray).setRow (lo 5) (mcells M0 vm3 vt3 (.slice none 0 0) (.slice none 0 0) (.slice none 0 0)).toArray := ⟨_, rfl⟩
      obtain ⟨gm9, gs9, gmo9, gso9, fx9, fxo9, htw9, hbt9⟩ := two_mach2 m1 b1 m3 b3 k4 k5 q4 q5 (B := w8.heap.size) (by omega) (by omega) i4.1 i5.1 (by omega) (by omega) (by omega) (by omega) (by omega) (by omega) w9 hw9
      have HPQ9 := Lib.hid (hGb.trans (hbt9 hGb.size))
      rw [← hw9]
      have HTW9 := Lib.hid htw9
      have hact := Gt.act.act [36, 37, 38, 39, 5, 6] (by kernel_rfl)
      have g4 : a.tmps.getD 5 undef = .pointer (some ⟨lo 4, 0, none⟩) := by simp [Array.getD_eq_getD_getElem?, e4]
      have g5 : a.tmps.getD 6 undef = .pointer (some ⟨lo 5, 0, none⟩) := by simp [Array.getD_eq_getD_getElem?, e5]
      change Exit.then _ _ .normal a _
      rw [hact]
      simp only [putAll, List.foldl_cons, List.foldl_nil, List.setIfInBounds_toArray, List.set_cons_succ, List.set_cons_zero]
      rw [g4, g5]
      clear hw9 htw9 hbt9 hact g4 g5 e1 e3 e4 e5 h1 h3 h4 h5 m1 m3 b1 b3 s1 s3 k4 k5 q4 q5 i1 i3 i4 i5 d13 d14 d15 d34 d35 d45 n1 n3 hGb ho ho' Gt
      generalize a.tmps.getD 36 undef = u36
      generalize a.tmps.getD 37 undef = u37
      generalize a.tmps.getD 38 undef = u38
      generalize a.tmps.getD 39 undef = u39
      generalize lo 4 = b9 at *
      generalize lo 5 = c9 at *
      generalize lo 1 = lo9 at *
      clear a lo hi2
      have tb := HTW9.out.b
      obtain ⟨rv1, rv2⟩ := rv
      dsimp only at HVA HBAD HG0 HGF
      have hfx : ∀ k, Pl.O ⟨b9, 51, [], [], 0, gm9, gs9, fx9⟩ k → fxo9 k := HTW9.out.f
      have hfo : ∀ k, Pl.O ⟨c9, 51, [], [], 0, gmo9, gso9, fxo9⟩ k → fx9 k := HTW9.out.f'
      have hna := HTW9.out.n1
      have hnb := HTW9.out.n2
      have HB9 := Lib.hid (HB8.out.next HPQ9.out); have HK9 := Lib.hid (HK8.out.next HPQ9.out)
      have HN9 := Lib.hid HTW9.out.m; have HO9 := Lib.hid HTW9.out.m'
      go_upto_region 11 with fail
      refine wp_nameE ?_
      intro w10 hw10
      have K10 : Blk w10 w9.heap.size 42 #[.int .u8 1, .int .i64 7, .int .i64 4, .int .i64 0, .int .i64 0] := by rw [hw10]; exact Blk.new _ _ _
      have hb10 : Below w9.heap.size w9 w10 := by rw [hw10]; exact (by go_grown)
      have HK10 := Lib.hid (HK9.out.next hb10); have HB10 := Lib.hid (HB9.out.next hb10)
      obtain ⟨fa, hfa⟩ : ∃ fa : Nat → Prop, fa = fun k => fx9 k ∨ k = w9.heap.size := ⟨_, rfl⟩
      obtain ⟨fb, hfb⟩ : ∃ fb : Nat → Prop, fb = fun k => fxo9 k ∨ k = w9.heap.size := ⟨_, rfl⟩
      have hz10 : w9.heap.size < w10.heap.size := K10.lt
      have HN10 : Hid (MAt w10 ⟨b9, 51, [], [], 0, gm9, gs9, fa⟩ M0) := Lib.hid (by
        have h := HN9.out.foreign hb10 (fx := fa) (fun k hk => by rw [hfa] at hk; exact hk.imp id (fun e => by omega)) (fun k hk => by rw [hfa] at hk; rcases hk with hk | hk; (obtain ⟨_, _, _, _, _, _, hh⟩ := HN9.out; have := hh.fx k hk; omega); omega)
        exact h)
      have HO10 : Hid (MAt w10 ⟨c9, 51, [], [], 0, gmo9, gso9, fb⟩ M0) := Lib.hid (by
        have h := HO9.out.foreign hb10 (fx := fb) (fun k hk => by rw [hfb] at hk; exact hk.imp id (fun e => by omega)) (fun k hk => by rw [hfb] at hk; rcases hk with hk | hk; (obtain ⟨_, _, _, _, _, _, hh⟩ := HO9.out; have := hh.fx k hk; omega); omega)
        exact h)
      have HGX : Hid (fa w9.heap.size) := Lib.hid (by rw [hfa]; exact .inr rfl)
      have HGY : Hid (fb w9.heap.size) := Lib.hid (by rw [hfb]; exact .inr rfl)
      have HFX : Hid (∀ k, Pl.O ⟨b9, 51, [], [], 0, gm9, gs9, fa⟩ k → fb k) := Lib.hid fun k hk => by rw [hfb]; exact .inl (hfx k hk)
      have HFO : Hid (∀ k, Pl.O ⟨c9, 51, [], [], 0, gmo9, gso9, fb⟩ k → fa k) := Lib.hid fun k hk => by rw [hfa]; exact .inl (hfo k hk)
      have HGO : Hid (b9 < w9.heap.size ∧ gm9 < w9.heap.size ∧ gs9 < w9.heap.size ∧ c9 < w9.heap.size ∧ gmo9 < w9.heap.size ∧ gso9 < w9.heap.size) := Lib.hid (by
        obtain ⟨_, _, _, _, _, _, hh⟩ := HN9.out; obtain ⟨_, _, _, _, _, _, h2⟩ := HO9.out
        exact ⟨hh.lt, hh.gm, hh.gs, h2.lt, h2.gm, h2.gs⟩)
      have HU10 := Lib.hid K10
      have hz9 : w8.heap.size ≤ w9.heap.size := HB9.out.size
      clear hw10 K10 hb10 hfx hfo hfa hfb HN9 HO9 HK9 HTW9
      obtain ⟨z_1, T_1, F_1⟩ := HK10.out.open_
      rcases Nat.eq_zero_or_pos fpn with hf0 | hf0
      focus
        obtain rfl : fpn = 0 := by omega
        have HUR : Hid (Rd w10 (· < w10.heap.size) 5 (some ⟨w9.heap.size, 0, none⟩) 1 (codeCells use0)) := Lib.hid (rd_blkW (ins := use0) HU10.out rfl)
        have HUN : Hid ((some ⟨w9.heap.size, 0, none⟩ : Option Addr) = none → 1 = 0 ∧ 1 = 0) := Lib.hid (fun e => by cases e)
        obtain ⟨N, hN⟩ : ∃ N, M0.setR 7 (wrap64 (M0.reg 7 + rv1)) = N := ⟨_, rfl⟩
        have HSEQ : Hid (rv2 = 0 → seqX (withL l use0) M0 = (0, N)) := Lib.hid (by have h := HG0.out; rw [hN] at h; exact h)
        have HNDEF := Lib.hid hN
        have HLU := Lib.hid line_use0
        have HLUN : Hid (use0.length ≤ 6) := Lib.hid (by decide)
        have HREG : Hid (M0.r.getD 7 0 = M0.reg 7) := Lib.hid rfl
        generalize w10 = wa at *
        have HA := HB10; have HKA := HK10; have HN := HN10
        obtain ⟨M1, hM1⟩ : ∃ M1, M0 = M1 := ⟨_, rfl⟩
        have HO : Hid (MAt wa ⟨c9, 51, [], [], 0, gmo9, gso9, fb⟩ M1) := Lib.hid (by rw [← hM1]; exact HO10.out)
        have HND : Hid (M1.setR 7 (wrap64 (M0.reg 7 + rv1)) = N) := Lib.hid (by rw [← hM1]; exact hN)
        have HRG : Hid (M1.r.getD 7 0 = M0.reg 7) := Lib.hid (by rw [← hM1]; exact HREG.out)
        generalize use0 = lu at *
        clear hN hM1 HG0 HGF HU10 HB10 HK10 HN10 HO10 HREG HNDEF
      rotate_left
      focus
        obtain ⟨q, hq⟩ : ∃ q, cell % fpn = q := ⟨_, rfl⟩
        have hq1 : q < fpn := by rw [← hq]; exact Nat.mod_lt _ hf0
        have hrm : Int.tmod (cell : Int) (fpn : Int) = (q : Int) := by rw [← hq]; exact (Int.ofNat_tmod _ _).symm
        have hn0 : ¬ (fpn : Int) = 0 := by omega
        have hw2 : IntKind.i64.wrap (q : Int) = (q : Int) := wrap_small _ (by omega) (by omega)
        have hw3 : IntKind.i64.wrap (cell : Int) = (cell : Int) := wrap_small _ (by omega) (by omega)
        have hfi : (0 : Int) < (fpn : Int) := by omega
        go_upto_region 13 with fail
        obtain ⟨vmo, vso, vco, vio, voo, svo, hmo⟩ := HO10.out
        have hqm : q < M0.m.length := by have := HMLE.out; omega
        obtain ⟨cmo, evm, hcmo, hcells, hfz⟩ := hmo.m.form (by rw [intCells_length]; omega)
        rw [intCells_length] at evm hcmo
        subst evm
        have c18 := hmo.c18
        have cq := hcells q (.int .i64 (M0.m.getD q 0)) (intCells_get _ _ hqm)
        have fq := hfz q
        dsimp only at c18
        rw [Nat.zero_add] at c18
        have q0 : (0 : Int) ≤ (q : Int) := by omega
        obtain ⟨ml, hml⟩ : ∃ ml, M0.m.length = ml := ⟨_, rfl⟩
        rw [hml] at c18 hqm hcmo
        have q2 : (q : Int) < (ml : Int) := by omega
        have HML := Lib.hid hml
        have HMO10 := Lib.hid hmo
        have zgm := hmo.gm; have zlt := hmo.lt
        dsimp only at zgm zlt
        clear hcells hfz hmo hml HO10
        go_region
        go_upto_region 14 with fail
        refine wp_nameE ?_
        intro w13 hw13
        have hf13 : Fr (fun k => k = gmo9) w10 w13 := by rw [hw13]; exact (Fr.set (O := fun k => k = gmo9) (Fr.refl _ _) (show gmo9 = gmo9 from rfl) _).drew
        have hm13 : MAt w13 ⟨c9, 51, [], [], 0, gmo9, gso9, fb⟩ (M0.setM q (wrap64 (M0.m.getD q 0 + 3))) := by
          rw [hw13]
          exact (HMO10.out.setMem q (by have := HML.out; omega) (wrap64 (M0.m.getD q 0 + 3))).matE rfl
        have hn13 := HN10.out.other hf13 (fun e => by dsimp only at e; omega) (fun e => by dsimp only at e; omega) (fun e => by dsimp only at e; omega) (fun k hk => HFO.out k (.inr (.inl hk)))
        have hb13 : Below w8.heap.size w8 w13 := HB10.out.trans (hf13.below (by have := HB10.out.size; omega) (fun k hk => by omega))
        have HN13 := Lib.hid hn13; have HO13 := Lib.hid hm13; have HB13 := Lib.hid hb13
        have HK13 := Lib.hid (hf13.blk HK10.out (by show ¬ W.heap.size = gmo9; omega))
        have HU13 := Lib.hid (hf13.blk HU10.out (by show ¬ w9.heap.size = gmo9; have := HGO.out; omega))
        have hs13 := hf13.size
        clear hf13 hm13 hn13 hb13 hw13 T_1 z_1 F_1 c18 cq fq HMO10 HN10 HB10 HK10 HU10
        obtain ⟨z_1, T_1, F_1⟩ := HK13.out.open_
        go_wp2_with (at_builtin; refine wpList_append_codeE rfl (.tmp 60) (.tmp 72) rfl w9.heap.size _ 1 use0 rfl ((own_blk5 HU13.out (Nat.le_refl _)).alloc _) (some ⟨w13.heap.size, 0, none⟩) 5 5 [⟨29, fpn, 0, 0, 0⟩, ⟨10, 6, q, 0, 0⟩, ⟨4, 6, 3, 0, 0⟩, ⟨10, 6, q, 0, 0⟩, ⟨28, fpn, 0, 0, 0⟩] rfl (fun e => by cases e) (rd_blkW (Blk.new _ _ _) rfl) (by omega) (by simp; omega) ?_)
        intro v14 w14 hown hgr hat
        have ho14 : w14.ownsRow w9.heap.size 42 5 v14 6 (codeCells (useF fpn q)) := hown
        have hbX : Below w8.heap.size w8 w14 := (HB13.out.alloc (by omega) _).grown hgr (by simp; omega) (fun k hk => by simp [Value.ownBlock] at hk; omega)
        have hfX : Fr (fun k => k = w9.heap.size) w13 w14 := ((Fr.refl _ _).alloc _).trans ((Fr.ofGrownW hgr).mono (fun k hk => by simp [Value.ownBlock] at hk; exact hk))
        have HB14 := Lib.hid hbX
        have HK14 := Lib.hid (hfX.blk HK13.out (by show ¬ W.heap.size = w9.heap.size; omega))
        have hg9 := HGO.out
        have HN14 := Lib.hid (HN13.out.other hfX (fun e => by dsimp only at e; omega) (fun e => by dsimp only at e; omega) (fun e => by dsimp only at e; omega) (fun k hk => hk ▸ HGX.out))
        have HO14 := Lib.hid (HO13.out.other hfX (fun e => by dsimp only at e; omega) (fun e => by dsimp only at e; omega) (fun e => by dsimp only at e; omega) (fun k hk => hk ▸ HGY.out))
        obtain ⟨A6, c6, rfl⟩ := own_form ho14
        have HUN := Lib.hid (Rd.ofOwn ho14).1
        have HUR := Lib.hid (Rd.ofOwn ho14).2
        obtain ⟨N, hN⟩ : ∃ N, (M0.setM q (wrap64 (M0.m.getD q 0 + 3))).setR 7 (wrap64 (M0.reg 7 + rv1)) = N := ⟨_, rfl⟩
        have HSEQ : Hid (rv2 = 0 → seqX (withL l (useF fpn q)) M0 = (0, N)) := Lib.hid (fun h0 => by have h := HGF.out h0 q hq1; rw [hN] at h; exact h)
        have HNDEF := Lib.hid hN
        have HLU := Lib.hid (line_useF (fp := fpn) (k := q) (by omega) (by omega))
        have HLUN : Hid ((useF fpn q).length ≤ 6) := Lib.hid (by simp [useF])
        have HREG : Hid ((M0.setM q (wrap64 (M0.m.getD q 0 + 3))).r.getD 7 0 = M0.reg 7) := Lib.hid rfl
        clear hN HG0 HGF hown hgr hat ho14 hbX hfX T_1 z_1 F_1 HN13 HO13 HB13 HK13 HU13 hrm hn0 hw2 hw3
        generalize w14 = wa at *
        have HA := HB14; have HKA := HK14; have HN := HN14
        obtain ⟨M1, hM1⟩ : ∃ M1, M0.setM q (wrap64 (M0.m.getD q 0 + 3)) = M1 := ⟨_, rfl⟩
        have HO : Hid (MAt wa ⟨c9, 51, [], [], 0, gmo9, gso9, fb⟩ M1) := Lib.hid (by rw [← hM1]; exact HO14.out)
        have HND : Hid (M1.setR 7 (wrap64 (M0.reg 7 + rv1)) = N) := Lib.hid (by rw [← hM1]; exact HNDEF.out)
        have HRG : Hid (M1.r.getD 7 0 = M0.reg 7) := Lib.hid (by rw [← hM1]; exact HREG.out)
        generalize useF (fpn : Int) (q : Int) = lu at *
        clear hM1 HB14 HK14 HN14 HO14 HREG HNDEF
        obtain ⟨z_1, T_1, F_1⟩ := HKA.out.open_
      all_goals
        go_upto_region 15 with fail
        clear T_1 z_1 F_1
        refine wp_region_held_drew (S := fun W => Below wa.heap.size wa W) (by kernel_rfl) ((Below.refl _ _).drew) (fun hH => ?_)
        refine wpAnyH_take (i := 0) (v := ?_) rfl (by kernel_rfl) (by kernel_rfl) (by kernel_rfl) (fun _ _ _ h => h) (Or.inl ⟨by rfl, ?hy⟩) hH ?_
        case hy => (intro w9_ hS9; clear hS9; go_simp; try with_reducible rfl)
        (try simp only [Bk.PU, Act.put])
        refine wpAnyH_take (i := 1) (v := ?_) rfl (by kernel_rfl) (by kernel_rfl) (by kernel_rfl) (fun _ _ _ h => h) (Or.inl ⟨by rfl, ?hy⟩) hH ?_
        case hy => (intro w9_ hS9; have t := (HKA.out.next hS9).cell; clear hS9; go_simp; try with_reducible rfl)
        (try simp only [Bk.PU, Act.put])
        refine wpAnyH_take (i := 2) (v := ?_) rfl (by kernel_rfl) (by kernel_rfl) (by kernel_rfl) (fun _ _ _ h => h) (Or.inl ⟨by rfl, ?hy⟩) hH ?_
        case hy => (intro w9_ hS9; clear hS9; go_simp; try with_reducible rfl)
        (try simp only [Bk.PU, Act.put])
        refine wpAnyH_take (i := 3) (v := ?_) rfl (by kernel_rfl) (by kernel_rfl) (by kernel_rfl) (fun _ _ _ h => h) (Or.inl ⟨by rfl, ?hy⟩) hH ?_
        case hy => (intro w9_ hS9; have t := (HKA.out.next hS9).cell; clear hS9; go_simp; try with_reducible rfl)
        (try simp only [Bk.PU, Act.put])
        refine wpAnyH_take (i := 5) (v := ?_) rfl (by kernel_rfl) (by kernel_rfl) (by kernel_rfl) (fun _ _ _ h => h) (Or.inl ⟨by rfl, ?hy⟩) hH ?_
        case hy => (intro w9_ hS9; clear hS9; go_simp; try with_reducible rfl)
        (try simp only [Bk.PU, Act.put])
        refine wpAnyH_ready (rs := [4]) (by kernel_rfl) (by simp) ?_
        refine AllReadyH.cons rfl (fun K hK => ?_) (AllReadyH.nil)
        go_simp
        refine (HFR.out _ (HA.out.next hH)).mono ?_
        rintro en wf ⟨u, rfl, hown, hbf⟩
        have hXf := hH.next hbf
        obtain ⟨Au, cu2, rfl⟩ := own_form hown
        have HSLO := Lib.hid (SlotsAt.own hown)
        have HXF := Lib.hid hXf
        clear hown hbf
        refine hK.out _ _ hXf (fun hH => ?_)
        clear hH
        have hH := HXF.out
        clear hXf
        clear hK
        (try simp only [Bk.PU, Act.put])
        refine wpAnyH_ready (rs := [6]) (by kernel_rfl) (by simp) ?_
        refine AllReadyH.cons rfl (fun K hK => ?_) (AllReadyH.nil)
        go_simp
        refine (HCW.out wf (HA.out.next HXF.out) Au cu2 HSLO.out _ _ _ lu HUN.out (Rd.out HUR.out HXF.out (Nat.le_refl _)) (by omega)).mono ?_
        rintro en w15 ⟨v, rfl, hown, hbc⟩
        obtain ⟨nL, hnL0⟩ : ∃ nL, (withL l lu).length = nL := ⟨_, rfl⟩
        rw [hnL0] at hown
        have HNL0 := Lib.hid hnL0
        clear hnL0
        have hX4 := HXF.out.next hbc
        obtain ⟨Ac, cl, rfl⟩ := own_form hown
        have HOW := Lib.hid hown
        have HX4 := Lib.hid hX4
        clear hown hbc
        refine hK.out _ _ hX4 (fun hH => ?_)
        clear hH
        have hH := HX4.out
        clear hX4
        clear hK
        (try simp only [Bk.PU, Act.put])
        refine wpAnyH_take (i := 7) (v := ?_) rfl (by kernel_rfl) (by kernel_rfl) (by kernel_rfl) (fun _ _ _ h => h) (Or.inl ⟨by rfl, ?hy⟩) hH ?_
        case hy => (intro w9_ hS9; clear hS9; go_simp; try with_reducible rfl)
        (try simp only [Bk.PU, Act.put])
        refine wpAnyH_take (i := 8) (v := ?_) rfl (by kernel_rfl) (by kernel_rfl) (by kernel_rfl) (fun _ _ _ h => h) (Or.inl ⟨by rfl, ?hy⟩) hH ?_
        case hy => (intro w9_ hS9; clear hS9; go_simp; try with_reducible rfl)
        (try simp only [Bk.PU, Act.put])
        refine wpAnyH_take (i := 9) (v := ?_) rfl (by kernel_rfl) (by kernel_rfl) (by kernel_rfl) (fun _ _ _ h => h) (Or.inl ⟨by rfl, ?hy⟩) hH ?_
        case hy => (intro w9_ hS9; clear hS9; go_simp; try with_reducible rfl)
        (try simp only [Bk.PU, Act.put])
        refine wpAnyH_take (i := 10) (v := ?_) rfl (by kernel_rfl) (by kernel_rfl) (by kernel_rfl) (fun _ _ _ h => h) (Or.inl ⟨by rfl, ?hy⟩) hH ?_
        case hy => (intro w9_ hS9; clear hS9; go_simp; try with_reducible rfl)
        (try simp only [Bk.PU, Act.put])
        refine wpAnyH_take (i := 11) (v := ?_) rfl (by kernel_rfl) (by kernel_rfl) (by kernel_rfl) (fun _ _ _ h => h) (Or.inl ⟨by rfl, ?hy⟩) hH ?_
        case hy => (intro w9_ hS9; clear hS9; go_simp; try with_reducible rfl)
        (try simp only [Bk.PU, Act.put])
        refine wpAnyH_done (by kernel_rfl) ?_ _
        generalize w15 = w15 at *
        have HB15 := Lib.hid (HA.out.next HX4.out); have HK15 := Lib.hid (HKA.out.next HX4.out)
        have HN15 := Lib.hid (HN.out.next HX4.out); have HO15 := Lib.hid (HO.out.next HX4.out)
        have hRC := Rd.ofOwnB HOW.out
        obtain ⟨L, hL⟩ : ∃ L, withL l lu = L := ⟨_, rfl⟩
        have hLine : Line L := by rw [← hL]; exact line_with HLINE.out HLU.out
        have hnL : L.length = nL := by rw [← hL]; exact HNL0.out
        have hLn : nL ≤ 65536 := by rw [← HNL0.out, withL_length, HNL.out]; have := HLUN.out; omega
        have hseq := HSEQ.out; have hbad := HBAD.out lu
        rw [hL] at hRC hseq hbad
        have hzx := HX4.out.size
        have hrq : Runs M0 nL := ⟨HRN.out.ok, HRN.out.cl, HRN.out.ml, HRN.out.sl, HRN.out.sb, hLn⟩
        have hzb : b9 < wa.heap.size ∧ gm9 < wa.heap.size ∧ gs9 < wa.heap.size := by
          obtain ⟨_, _, _, _, _, _, hh⟩ := HN.out
          exact ⟨hh.lt, hh.gm, hh.gs⟩
        have hEnv : Env w15 ⟨b9, 51, [], [], 0, gm9, gs9, fa⟩ Ac nL L :=
          ⟨hRC.mono fun k hk => ⟨hk.2, by rintro (e | e | e) <;> (dsimp only at e; have := hk.1; have := HXF.out.size; omega)⟩, hLine.wf, HT8.out.next HB15.out, by have := HT8.out.lt; rintro (e | e | e) <;> (dsimp only at e; omega), by rw [hnL]; exact hLn⟩
        have hrun := e_run HN15.out cl hEnv hLine hrq
        have hbd : rv2 = 0 → MBd (N.at_ nL 1) := fun h0 => by
          have h := (Runs.fit (l := L) (by rw [hnL]; exact hrq) hLine (j := nL) (by omega) (N := N) (by rw [← hnL, List.take_length]; exact hseq h0)).2
          exact h
        have hNat : rv2 = 0 → N.at_ 0 1 = N := fun h0 => by
          have hk := seqX_keep L M0 (by rw [hseq h0])
          rw [hseq h0] at hk
          have hp0 : M0.pc = 0 ∧ M0.dir = 1 := by have h := HAT.out; rw [← h]; exact ⟨rfl, rfl⟩
          have h1 : N.pc = 0 := hk.1.trans hp0.1
          have h2 : N.dir = 1 := hk.2.1.trans hp0.2
          have h3 := at_self N
          rw [h1, h2] at h3; exact h3
        have HNO : Hid (¬ Pl.O ⟨b9, 51, [], [], 0, gm9, gs9, fa⟩ W.heap.size) := Lib.hid (by rintro (e | e | e) <;> (dsimp only at e; omega))
        have HNG : Hid (∀ k, Pl.O ⟨b9, 51, [], [], 0, gm9, gs9, fa⟩ k → w8.heap.size ≤ k) := Lib.hid fun k hk => by rcases hk with e | e | e <;> (dsimp only at e; omega)
        have HRUN2 := Lib.hid hrun; have HSQ := Lib.hid hseq; have HBD2 := Lib.hid hbd; have HNAT := Lib.hid hNat; have HBADL := Lib.hid hbad
        clear hrun hseq hbd hNat hbad hrq hRC hEnv hLine hLn hzb hzx
        go_wp2_with fail
        refine HRUN2.out.mono ?_
        rintro en w16 ⟨rfl, hm16, hf16⟩
        have HM16 := Lib.hid hm16
        have HB16 := Lib.hid (HB15.out.trans (hf16.below (B := w8.heap.size) (by have := HB15.out.size; omega) HNG.out)); have HK16 := Lib.hid (hf16.blk HK15.out HNO.out)
        have hno1 : ¬ Pl.O ⟨b9, 51, [], [], 0, gm9, gs9, fa⟩ c9 := by rintro (e | e | e) <;> (dsimp only at e; omega)
        have hno2 : ¬ Pl.O ⟨b9, 51, [], [], 0, gm9, gs9, fa⟩ gmo9 := by rintro (e | e | e) <;> (dsimp only at e; omega)
        have hno3 : ¬ Pl.O ⟨b9, 51, [], [], 0, gm9, gs9, fa⟩ gso9 := by rintro (e | e | e) <;> (dsimp only at e; omega)
        have HO16 := Lib.hid (HO15.out.other hf16 hno1 hno2 hno3 HFX.out)
        clear hm16 hf16 HRUN2 hno1 hno2 hno3
        obtain ⟨z_1, T_1, F_1⟩ := HK16.out.open_
        go_wp2_with fail
        refine (HVA.out w16 HB16.out).mono ?_
        rintro en w17 ⟨rfl, hb17⟩
        have HB17 := Lib.hid (HB16.out.next hb17)
        obtain ⟨vmo, vso, vco, vio, voo, svo, hmo⟩ := HO16.out.next hb17
        have HMO := Lib.hid hmo
        have ho7 := HMO.out.cr 7 (by decide)
        have hofr := HMO.out.frozen 9
        have holt := HMO.out.lt
        dsimp only at ho7 hofr holt
        rw [show 0 + 2 + 7 = 9 from rfl] at ho7
        have hrg : M1.r.getD 7 0 = M0.reg 7 := HRG.out
        rw [hrg] at ho7
        have HX17 := Lib.hid hb17
        clear T_1 z_1 F_1 hb17 hmo hrg HO16
        by_cases h0 : rv2 = 0
        · have hs := HSQ.out h0
          have hm16 := HM16.out (by rw [hs])
          rw [hs] at hm16
          dsimp only at hm16
          rw [HNAT.out h0] at hm16
          have hm17 := hm16.next HX17.out
          have HN17 := Lib.hid hm17
          have HE16 : Hid ((seqX L M0).1 = 0) := Lib.hid (by rw [hs])
          rw [HE16.out]
          subst h0
          clear hs hm16 hm17 HM16
          go_upto_region 19 with fail
          refine wp_nameE ?_
          intro w18 hw18
          have hm18 : MAt w18 ⟨c9, 51, [], [], 0, gmo9, gso9, fb⟩ N := by
            rw [hw18, ← HND.out]; exact (HMO.out.setReg 7 (by decide) (wrap64 (M0.reg 7 + rv1))).mat
          have hf18 : Fr (fun k => k = c9) w17 w18 := by rw [hw18]; exact Fr.set (O := fun k => k = c9) (Fr.refl _ _) (show c9 = c9 from rfl) _
          have hn18 := HN17.out.other hf18 (fun e => by dsimp only at e; omega) (fun e => by dsimp only at e; omega) (fun e => by dsimp only at e; omega) (fun k hk => HFO.out k (.inl hk))
          have hb18 : Below w8.heap.size w8 w18 := HB17.out.trans (hf18.below (by have := HB17.out.size; omega) (fun k hk => by omega))
          obtain ⟨_, _, _, _, _, _, hma⟩ := hn18
          obtain ⟨_, _, _, _, _, _, hmb⟩ := hm18
          have hbdN : MBd N := (HBD2.out (by first | trivial | rfl)).un
          have HEQ := Lib.hid (c_EqualT hma.rd hmb.rd hbdN)
          have HB18 := Lib.hid hb18
          clear hma hmb hbdN hb18 hf18 hw18 ho7 hofr holt
          go_wp2_with fail
          refine HEQ.out.mono ?_
          rintro en w19 ⟨rfl, hb19⟩
          have HFIN := Lib.hid (HB8W.out.trans ((HB18.out.next hb19).mono (by omega)))
          clear hb19 HEQ
          go_wp2_with fail
          go_ret
          exact ⟨rfl, HFIN.out⟩
        · have hs := HBADL.out h0
          have HE16 : Hid ((seqX L M0).1 = rv2) := Lib.hid hs
          rw [HE16.out]
          clear hs HM16
          go_upto_region 19 with fail
          refine wp_nameE ?_
          intro w18 hw18
          have hf18 : Fr (fun k => k = c9) w17 w18 := by rw [hw18]; exact Fr.set (O := fun k => k = c9) (Fr.refl _ _) (show c9 = c9 from rfl) _
          have hb18 : Below w8.heap.size w8 w18 := HB17.out.trans (hf18.below (by have := HB17.out.size; omega) (fun k hk => by omega))
          have HFIN := Lib.hid (HB8W.out.trans (hb18.mono (by omega)))
          clear hb18 hf18 hw18 ho7 hofr holt
          go_wp2_with fail
          go_ret
          exact ⟨rfl, HFIN.out⟩
end Go.Proofs.YtbijhlgdilkopaaDoor
