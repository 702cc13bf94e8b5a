/- The law's usable: what a case that is within the limits has. -/
import Derived.Test.YtbijhlgdilkopaaDoorEcX
import Derived.Test.YtbijhlgdilkopaaDoorEsX
import Derived.BigRegion
set_option linter.unusedVariables false
set_option linter.unusedSimpArgs false
set_option maxRecDepth 100000
set_option maxHeartbeats 4000000
namespace Bk
open Go Go.RowKit
/-- A case: a node, variables, their contents, registers, a stack, all of it read in blocks below B. -/
structure CaseAt (w : World) (B d : Nat) (x : Nd) (V : Option Addr) (nv : Nat) (vs : List Vr) (C : Option Addr) (nc : Nat) (cs : List (List Int)) (G : Option Addr) (ng : Nat) (regs : List Int) (E : Option Addr) (ne ce : Nat) (scr : List Int) : Prop where
  kv : KV w B d x
  v : VsAt w B V vs
  vn : vs.length = nv
  c : CsAt w B C cs
  cn : cs.length = nc
  ci : ∀ c ∈ cs, ∀ y ∈ c, I64 y
  g : IntsAt w B G regs
  gn : regs.length = ng
  gi : ∀ y ∈ regs, I64 y
  e : Sl w (· < B) 1 (.slice E ne ce) ne (intCells scr)
  en : scr.length = ne
  ei : ∀ y ∈ scr, I64 y
/-- A case within the limits. -/
structure Usable (w : World) (B : Nat) (nb : ByteArray → Bool) (x : Nd) (e : Ex) (vs : List Vr) (cs : List (List Int)) (fp sb : Int) (ne : Nat) : Prop where
  ev : EV w B nb e x
  sz : e.sz ≤ 200
  dp : e.dp ≤ 20
  kn : e.known vs
  v6 : vs.length ≤ 6
  fp : 0 ≤ fp ∧ fp ≤ 20
  sb : 0 ≤ sb ∧ sb ≤ 5
  n50 : ne ≤ 50
  dist : Dist vs
  fits : FitS vs cs
end Bk
namespace Go.Proofs.YtbijhlgdilkopaaDoor
open Go.RowKit Bk
theorem e_usable {w : World} {B d : Nat} (hBw : B ≤ w.heap.size) {x : Nd} {V : Option Addr} {nv cv : Nat} {vs : List Vr} {C : Option Addr} {nc cc : Nat} {cs : List (List Int)} {fp sb : Int} {G : Option Addr} {ng cg : Nat} {regs : List Int} {E : Option Addr} {ne ce : Nat} {scr : List Int} (hc : CaseAt w B d x V nv vs C nc cs G ng regs E ne ce scr) (w' : World) (hb : Below B w w') : Calls Tryd.prog 9 #[.agg #[.int .u8 x.k, .int .i64 x.num, .string x.nm, .slice x.A x.n x.cap, .slice V nv cv, .slice C nc cc, .int .i64 fp, .int .i64 sb, .slice G ng cg, .slice E ne ce]] w' fun en w'' => ∃ b, en = .returned (.bool b) ∧ (b = true → ∃ e, Usable w B nameB x e vs cs fp sb ne) ∧ Below w'.heap.size w' w'' := by
  have HC := Lib.hid hc; have HB := Lib.hid hb
  obtain ⟨rE, hrE⟩ : ∃ r : Bool, (r = true ↔ IsE w B nameB x) := by
    by_cases h : IsE w B nameB x
    · exact ⟨true, by simp [h]⟩
    · exact ⟨false, by simp [h]⟩
  have HBIG : Hid (∀ W, Below B w W → Calls Tryd.prog 21 #[.agg #[.int .u8 x.k, .int .i64 x.num, .string x.nm, .slice x.A x.n x.cap]] W fun en w'' => ∃ b, en = .returned (.bool b) ∧ (b = false → ∀ e, EV w B nameB e x → e.sz ≤ 400) ∧ Below W.heap.size W w'') := Lib.hid fun W hW => e_Big hBw hc.kv W hW
  have HIS : Hid (∀ W, Below B w W → Calls Tryd.prog 22 #[.agg #[.int .u8 x.k, .int .i64 x.num, .string x.nm, .slice x.A x.n x.cap]] W fun en w'' => en = .returned (.bool rE) ∧ Below W.heap.size W w'') := Lib.hid fun W hW => e_IsExpr hBw d x hc.kv W hW rE hrE
  have HSI : Hid (∀ e, EV w B nameB e x → e.sz ≤ 400 → ∀ W, Below B w W → Calls Tryd.prog 19 #[.agg #[.int .u8 x.k, .int .i64 x.num, .string x.nm, .slice x.A x.n x.cap]] W fun en w'' => en = .returned (.int .i64 (e.sz : Int)) ∧ Below W.heap.size W w'') := Lib.hid fun e he hs W hW => e_Size hBw e (by omega) x he W hW
  have HDE : Hid (∀ e, EV w B nameB e x → e.sz ≤ 400 → ∀ W, Below B w W → Calls Tryd.prog 23 #[.agg #[.int .u8 x.k, .int .i64 x.num, .string x.nm, .slice x.A x.n x.cap]] W fun en w'' => en = .returned (.int .i64 (e.dp : Int)) ∧ Below W.heap.size W w'') := Lib.hid fun e he hs W hW => e_Depth hBw e (by omega) x he W hW
  have HFI : Hid (∀ W, Below B w W → Calls Tryd.prog 24 #[.slice V nv cv, .agg #[.slice C nc cc, .slice none 0 0, .slice none 0 0]] W fun en w'' => ∃ b, en = .returned (.bool b) ∧ (b = true → FitS vs cs) ∧ Below W.heap.size W w'') := Lib.hid fun W hW => e_Fits hBw V nv cv vs hc.v hc.vn C nc cc cs hc.c hc.cn W hW
  have HKN : Hid (nv ≤ 6 → ∀ e, EV w B nameB e x → ∀ W, Below B w W → Calls Tryd.prog 25 #[.agg #[.int .u8 x.k, .int .i64 x.num, .string x.nm, .slice x.A x.n x.cap], .slice V nv cv] W fun en w'' => ∃ b, en = .returned (.bool b) ∧ (b = true → e.known vs) ∧ Below W.heap.size W w'') := Lib.hid fun h6 e he W hW => e_Known hBw V nv cv vs hc.v hc.vn (by omega) e x he W hW
  have HRE := Lib.hid hrE
  have HXW : Hid (∀ e, EV w B nameB e x → EV w B nameB e x) := Lib.hid fun e h => h
  have HU : Hid (∀ e, EV w B nameB e x → e.sz ≤ 200 → e.dp ≤ 20 → e.known vs → nv ≤ 6 → 0 ≤ fp ∧ fp ≤ 20 → 0 ≤ sb ∧ sb ≤ 5 → ne ≤ 50 → Dist vs → FitS vs cs → ∃ e, Usable w B nameB x e vs cs fp sb ne) := Lib.hid fun e a b c d e' f g h i j => ⟨e, a, b, c, d, by rw [hc.vn]; exact e', f, g, h, i, j⟩
  have HEV : Hid (rE = true → ∃ e, EV w B nameB e x) := Lib.hid fun h => hrE.1 h
  obtain ⟨Pv, hPv⟩ : ∃ P : Ex → Prop, (fun e => EV w B nameB e x) = P := ⟨_, rfl⟩
  have hPe : ∀ e, EV w B nameB e x = Pv e := fun e => congrFun hPv e
  simp only [hPe] at HBIG HSI HDE HKN HU HEV
  clear hc hb hrE HRE HXW hPe hPv
  obtain ⟨k, num, nm, A, n, cap⟩ := x
  dsimp only at *
  go_enter Tryd.func9, Tryd.ntmps9
  go_upto_region 1 with fail
  refine wp_nameE ?_
  intro w1 hw1
  have hb1 : Below w'.heap.size w' w1 := by rw [hw1]; exact (by go_grown)
  have K1 : Blk w1 w'.heap.size 29 #[.int .u8 k, .int .i64 num, .string nm, .slice A n cap, .slice V nv cv, .slice C nc cc, .int .i64 fp, .int .i64 sb, .slice G ng cg, .slice E ne ce] := by rw [hw1]; exact (by repeat' (first | assumption | exact Blk.new' (by simp) _ _ | apply Blk.alloc | apply Blk.drew))
  have HK1 := Lib.hid K1; have HB1 := Lib.hid hb1
  clear hw1 hb1
  obtain ⟨z_1, T_1, F_1⟩ := K1.open_
  clear K1
  go_wp2_with fail
  refine (HBIG.out w1 (HB.out.trans (HB1.out.mono (by have := HB.out.size; omega)))).mono ?_
  rintro en w2 ⟨b2, rfl, hbig, hb2⟩
  have HB2 := Lib.hid (HB1.out.next hb2); have HK2 := Lib.hid (HK1.out.next hb2); have HW2 := Lib.hid (HB.out.trans (HB2.out.mono (by have := HB.out.size; omega))); clear T_1 z_1 F_1 hb2; obtain ⟨z_1, T_1, F_1⟩ := HK2.out.open_
  have HBG := Lib.hid hbig
  clear hbig
  cases b2 with
  | true => (go_wp2_with fail; go_ret; exact ⟨false, rfl, (fun h => by cases h), HB2.out⟩)
  | false =>
  go_wp2_with fail
  refine (HIS.out w2 HW2.out).mono ?_
  rintro en w3 ⟨rfl, hb3⟩
  have HB3 := Lib.hid (HB2.out.next hb3); have HK3 := Lib.hid (HK2.out.next hb3); have HW3 := Lib.hid (HB.out.trans (HB3.out.mono (by have := HB.out.size; omega))); clear T_1 z_1 F_1 hb3; obtain ⟨z_1, T_1, F_1⟩ := HK3.out.open_
  cases rE with
  | false => (go_wp2_with fail; go_ret; exact ⟨false, rfl, (fun h => by cases h), HB3.out⟩)
  | true =>
  obtain ⟨e, he⟩ := HEV.out rfl
  have hs4 := HBG.out (by first | rfl | trivial) e he
  have HE := Lib.hid he; have HS4 := Lib.hid hs4
  clear he HEV HBG HIS HBIG
  go_wp2_with fail
  refine (HSI.out e HE.out HS4.out w3 HW3.out).mono ?_
  rintro en w4 ⟨rfl, hb4⟩
  have HB4 := Lib.hid (HB3.out.next hb4); have HK4 := Lib.hid (HK3.out.next hb4); have HW4 := Lib.hid (HB.out.trans (HB4.out.mono (by have := HB.out.size; omega))); clear T_1 z_1 F_1 hb4; obtain ⟨z_1, T_1, F_1⟩ := HK4.out.open_
  by_cases h1 : (e.sz : Int) > 200
  · (go_wp2_with fail; go_ret; exact ⟨false, rfl, (fun h => by cases h), HB4.out⟩)
  go_wp2_with fail
  refine (HDE.out e HE.out HS4.out w4 HW4.out).mono ?_
  rintro en w5 ⟨rfl, hb5⟩
  have HB5 := Lib.hid (HB4.out.next hb5); have HK5 := Lib.hid (HK4.out.next hb5); have HW5 := Lib.hid (HB.out.trans (HB5.out.mono (by have := HB.out.size; omega))); clear T_1 z_1 F_1 hb5; obtain ⟨z_1, T_1, F_1⟩ := HK5.out.open_
  by_cases h2 : (e.dp : Int) > 20
  · (go_wp2_with fail; go_ret; exact ⟨false, rfl, (fun h => by cases h), HB5.out⟩)
  by_cases h3 : (nv : Int) > 6
  · (go_wp2_with fail; go_ret; exact ⟨false, rfl, (fun h => by cases h), HB5.out⟩)
  by_cases h4 : fp < 0
  · (go_wp2_with fail; go_ret; exact ⟨false, rfl, (fun h => by cases h), HB5.out⟩)
  by_cases h5 : fp > 20
  · (go_wp2_with fail; go_ret; exact ⟨false, rfl, (fun h => by cases h), HB5.out⟩)
  by_cases h6 : sb < 0
  · (go_wp2_with fail; go_ret; exact ⟨false, rfl, (fun h => by cases h), HB5.out⟩)
  by_cases h7 : sb > 5
  · (go_wp2_with fail; go_ret; exact ⟨false, rfl, (fun h => by cases h), HB5.out⟩)
  by_cases h8 : (ne : Int) > 50
  · (go_wp2_with fail; go_ret; exact ⟨false, rfl, (fun h => by cases h), HB5.out⟩)
  clear HSI HDE
  go_wp2_with fail
  have HH := Lib.hid (show e.sz ≤ 200 ∧ e.dp ≤ 20 ∧ nv ≤ 6 ∧ (0 ≤ fp ∧ fp ≤ 20) ∧ (0 ≤ sb ∧ sb ≤ 5) ∧ ne ≤ 50 from ⟨by omega, by omega, by omega, ⟨by omega, by omega⟩, ⟨by omega, by omega⟩, by omega⟩)
  have hnv6 : nv ≤ 6 := by omega
  clear h1 h2 h3 h4 h5 h6 h7 h8 hs4
  clear T_1 z_1 F_1
  go_loopw [61] (fun v61 wr => ∃ i : Nat, i ≤ nv ∧ v61 = .int .i64 i ∧ (∀ (p q : Nat) (v u : Vr), vs[p]? = some v → vs[q]? = some u → q < p → p < i → (v.nm.toList == u.nm.toList) = false) ∧ Below w5.heap.size w5 wr) (fun v _ => nv - (intOf v).toNat)
  case atStart => exact ⟨0, Nat.zero_le _, rfl, fun _ _ _ _ _ _ _ h => absurd h (Nat.not_lt_zero _), Below.refl _ _⟩
  case round =>
    obtain ⟨i, hi, rfl, hpre, hbr⟩ := hrel
    have HP := Lib.hid hpre; have HBR := Lib.hid hbr
    clear hpre
    by_cases hin : i < nv
    · have i0 : (0 : Int) ≤ (i : Int) := by omega
      have i1 : (i : Int) < (nv : Int) := by omega
      go_upto_region 7 with fail
      go_loopw [65] (fun v65 wx => ∃ j : Nat, j ≤ i ∧ v65 = .int .i64 j ∧ (∀ (q : Nat) (v u : Vr), vs[i]? = some v → vs[q]? = some u → q < j → (v.nm.toList == u.nm.toList) = false) ∧ Below w5.heap.size w5 wx) (fun v _ => i - (intOf v).toNat)
      case atStart => exact ⟨0, Nat.zero_le _, rfl, fun _ _ _ _ _ h => absurd h (Nat.not_lt_zero _), HBR.out⟩
      case round =>
        obtain ⟨j, hj, rfl, hpre2, hbr2⟩ := hrel
        have HP2 := Lib.hid hpre2; have HBR2 := Lib.hid hbr2
        clear hpre2
        by_cases hjn : j < i
        · have j0 : (0 : Int) ≤ (j : Int) := by omega
          have j1 : (j : Int) < (i : Int) := by omega
          have j2 : (j : Int) < (nv : Int) := by omega
          obtain ⟨v, hvi⟩ : ∃ v, vs[i]? = some v := ⟨_, List.getElem?_eq_getElem (by have := HC.out.vn; omega)⟩
          obtain ⟨u, huj⟩ : ∃ u, vs[j]? = some u := ⟨_, List.getElem?_eq_getElem (by have := HC.out.vn; omega)⟩
          obtain ⟨g, o, hA2, hgB, c0, c1, c2⟩ := (HC.out.v.next (HW5.out)) i v hvi
          obtain ⟨g', o', hA3, hgB', d0, d1, d2⟩ := (HC.out.v.next (HW5.out)) j u huj
          rw [hA2] at hA3
          injection hA3 with hA3
          injection hA3 with hg ho
          subst hg; subst ho
          subst hA2
          have hBw5 : B ≤ w5.heap.size := by have := HW5.out.size; omega
          have e0 := (hbr2.cell (p := ⟨g, o + i * 3, none⟩) (by show g < _; omega)).trans c0
          have e1 := (hbr2.cell (p := ⟨g, o + j * 3, none⟩) (by show g < _; omega)).trans d0
          have t1 := ((HK5.out.next hbr2).cell 4)
          have HVI := Lib.hid hvi; have HUJ := Lib.hid huj
          obtain ⟨vn, vk, vl⟩ := v
          obtain ⟨un, uk, ul⟩ := u
          dsimp only at e0 e1
          clear hvi huj c0 c1 c2 d0 d1 d2 hbr2 hbr
          have hzk : w'.heap.size < wr.heap.size := (HK5.out.next HBR2.out).lt
          go_upto_region 9 with fail
          go_region
          generalize hr : (vn.toList == un.toList) = r
          have HR := Lib.hid hr
          clear hr
          cases r with
          | true =>
            go_wp2_with fail
            go_ret
            first | exact ⟨false, rfl, (fun h => by cases h), (HB5.out.next HBR2.out).drew⟩ | exact .inl ⟨rfl, (HB5.out.next HBR2.out).drew⟩
          | false =>
            go_wp2_with fail
            exact ⟨⟨j + 1, by omega, by go_num, fun q v u hv hu hq => (Nat.lt_succ_iff_lt_or_eq.1 hq).elim (fun h => HP2.out q v u hv hu h) (fun h => by subst h; rw [HVI.out] at hv; rw [HUJ.out] at hu; injection hv with hv; injection hu with hu; subst hv; subst hu; exact HR.out), HBR2.out.drew⟩, by simp [intOf]; omega⟩
        · obtain rfl : j = i := by omega
          clear hbr2 hbr
          go_wp2_with fail
          refine ⟨?_, by simp [intOf]; omega⟩
          first
            | exact ⟨j + 1, by omega, by go_num, fun p q v u hv hu h1 h2 => (Nat.lt_succ_iff_lt_or_eq.1 h2).elim (fun h => HP.out p q v u hv hu h1 h) (fun h => by subst h; exact HP2.out q v u hv hu h1), HBR2.out⟩
            | (repeat apply Exists.intro
               refine ⟨?_, rfl⟩
               exact ⟨j + 1, by omega, by go_num, fun p q v u hv hu h1 h2 => (Nat.lt_succ_iff_lt_or_eq.1 h2).elim (fun h => HP.out p q v u hv hu h1 h) (fun h => by subst h; exact HP2.out q v u hv hu h1), HBR2.out⟩)
    · obtain rfl : i = nv := by omega
      have hdist : Dist vs := fun p q v u hp hq hlt => HP.out p q v u hp hq hlt (by have := (List.getElem?_eq_some_iff.1 hp).1; have := HC.out.vn; omega)
      have HD := Lib.hid hdist
      have HK6 := Lib.hid (HK5.out.next hbr)
      have HB6 := Lib.hid (HB5.out.next hbr)
      have HW6 := Lib.hid (HB.out.trans ((HB5.out.next hbr).mono (by have := HB.out.size; omega)))
      generalize wr = w6 at *
      clear hbr hdist HBR HP
      obtain ⟨z_1, T_1, F_1⟩ := HK6.out.open_
      go_wp2_with fail
      refine (HFI.out w6 HW6.out).mono ?_
      rintro en w7 ⟨b7, rfl, hfit, hb7⟩
      have HFT := Lib.hid hfit
      have HB7 := Lib.hid (HB6.out.next hb7); have HK7 := Lib.hid (HK6.out.next hb7); have HW7 := Lib.hid (HB.out.trans (HB7.out.mono (by have := HB.out.size; omega)))
      clear T_1 z_1 F_1 hb7 hfit
      obtain ⟨z_1, T_1, F_1⟩ := HK7.out.open_
      cases b7 with
      | false => (go_wp2_with fail; go_ret; exact ⟨false, rfl, (fun h => by cases h), HB7.out⟩)
      | true =>
        go_wp2_with fail
        refine (HKN.out hnv6 e HE.out w7 HW7.out).mono ?_
        rintro en w8 ⟨b8, rfl, hkn, hb8⟩
        have HKO := Lib.hid hkn
        have HB8 := Lib.hid (HB7.out.next hb8)
        clear T_1 z_1 F_1 hb8 hkn
        cases b8 with
        | false => (go_wp2_with fail; go_ret; exact ⟨false, rfl, (fun h => by cases h), HB8.out⟩)
        | true =>
          go_wp2_with fail
          go_ret
          exact ⟨true, rfl, (fun _ => HU.out e HE.out HH.out.1 HH.out.2.1 (HKO.out (by first | rfl | trivial)) HH.out.2.2.1 HH.out.2.2.2.1 HH.out.2.2.2.2.1 HH.out.2.2.2.2.2 HD.out (HFT.out (by first | rfl | trivial))), HB8.out⟩
end Go.Proofs.YtbijhlgdilkopaaDoor
