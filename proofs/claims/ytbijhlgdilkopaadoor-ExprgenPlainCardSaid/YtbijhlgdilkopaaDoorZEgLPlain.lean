/- The walk of the law ExprgenPlain. -/
import Derived.Test.YtbijhlgdilkopaaDoorEwX
set_option linter.unusedVariables false
set_option linter.unusedSimpArgs false
set_option maxRecDepth 100000
set_option maxHeartbeats 4000000
namespace Go.Proofs.YtbijhlgdilkopaaDoor
open Go.RowKit Bk
theorem rd_blk {w : World} {g m : Nat} {t : TypeId} {ins : Prg} (h : Blk w g t (codeCells ins).toArray) (hm : ins.length = m) : Rd w (fun _ => True) 5 (some ⟨g, 0, none⟩) m (codeCells ins) :=
  ⟨by rw [codeCells_length, hm], fun _ => ⟨g, 0, rfl, trivial, fun j u hu => by rw [Nat.zero_add]; exact (h.cell j).trans (by rw [List.getElem?_toArray]; exact hu)⟩⟩
theorem c_lawPlain {d : Nat} {x : Nd} {V : Option Addr} {nv cv : Nat} {vs : List Vr} {C : Option Addr} {nc cc : Nat} {cs : List (List Int)} {fp sb : Int} {G : Option Addr} {ng cg : Nat} {regs : List Int} {E : Option Addr} {ne ce : Nat} {scr : List Int} (W : World) (hc : CaseAt W W.heap.size d x V nv vs C nc cs G ng regs E ne ce scr) (hT : TableAt W) {U : Option Addr} {nu cu : Nat} {lu : Prg} (hU : U = none → nu = 0 ∧ cu = 0) (hRU : Rd W (· < W.heap.size) 5 U nu (codeCells lu)) (hwu : CodeWf lu) :
    Calls Tryd.prog 3 #[.agg #[.int .u8 x.k, .int .i64 x.num, .string x.nm, .slice x.A x.n x.cap, .slice V nv cv, .slice C nc cc, .int .i64 fp, .int .i64 sb, .slice G ng cg, .slice E ne ce], .slice U nu cu] W fun e w' => e = .returned (.bool true) ∧ Below W.heap.size W w' := by
  have hul : lu.length = nu := by have := hRU.1; rw [codeCells_length] at this; omega
  have HC := Lib.hid hc; have HT := Lib.hid hT; have HU := Lib.hid hU; have HRU := Lib.hid hRU; have HUL := Lib.hid hul
  have HUS : Hid (∀ W1, Below W.heap.size W W1 → Calls Tryd.prog 9 #[.agg #[.int .u8 x.k, .int .i64 x.num, .string x.nm, .slice x.A x.n x.cap, .slice V nv cv, .slice C nc cc, .int .i64 fp, .int .i64 sb, .slice G ng cg, .slice E ne ce]] W1 fun en w'' => ∃ b, en = .returned (.bool b) ∧ (b = true → ∃ e, Usable W W.heap.size nameB x e vs cs fp sb ne) ∧ Below W1.heap.size W1 w'') := Lib.hid fun W1 h1 => e_usable (Nat.le_refl _) hc W1 h1
  obtain ⟨k, num, nm, A, n, cap⟩ := x
  dsimp only at *
  clear hc hT hU hRU hwu hul
  go_enter Tryd.func3, Tryd.ntmps3
  go_upto_region 1 with fail
  refine wp_nameE ?_
  intro w1 hw1
  have hb1 : Below W.heap.size W w1 := by rw [hw1]; exact (by go_grown)
  have K1 : Blk w1 W.heap.size 29 #[.int .u8 k, .int .i64 num, .string nm, .slice A n cap, .slice V nv cv, .slice C nc cc, .int .i64 fp, .int .i64 sb, .slice G ng cg, .slice E ne ce] := by rw [hw1]; exact (by repeat' (first | assumption | exact Blk.new' (by simp) _ _ | apply Blk.alloc | apply Blk.drew))
  have HK1 := Lib.hid K1; have HB1 := Lib.hid hb1
  clear hw1 hb1 K1
  go_wp2_with fail
  refine (e_awake w1 (HT.out.next HB1.out)).mono ?_
  rintro en w2 ⟨rfl, hb2⟩
  have HB2 := Lib.hid (HB1.out.next hb2); have HK2 := Lib.hid (HK1.out.next hb2)
  clear hb2
  obtain ⟨z_1, T_1, F_1⟩ := HK2.out.open_
  go_wp2_with fail
  refine (HUS.out w2 HB2.out).mono ?_
  rintro en w3 ⟨b3, rfl, hus, hb3⟩
  have HB3 := Lib.hid (HB2.out.next hb3); have HK3 := Lib.hid (HK2.out.next hb3); have HUSE := Lib.hid hus
  clear T_1 z_1 F_1 hb3 hus
  obtain ⟨z_1, T_1, F_1⟩ := HK3.out.open_
  cases b3 with
  | false =>
    go_wp2_with fail
    go_ret
    exact ⟨rfl, HB3.out⟩
  | true =>
  by_cases h20 : (nu : Int) > 20
  · go_wp2_with fail
    go_ret
    exact ⟨rfl, HB3.out⟩
  obtain ⟨e, hu⟩ := HUSE.out (by first | rfl | trivial)
  have HE := Lib.hid hu
  have hnu : nu ≤ 20 := by omega
  have hsum := sums_le vs hu.fits.ok
  have hcl : 0 ≤ cellsOf vs ∧ cellsOf vs ≤ 96 := by have := hu.v6; omega
  have hnv6 : nv ≤ 6 := by have := hu.v6; have := HC.out.vn; omega
  have HFR : Hid (∀ W1, Below W.heap.size W W1 → Calls Tryd.prog 10 #[.slice V nv cv] W1 fun en w'' => ∃ u, en = .returned (.agg #[u, .int .i64 (cellsOf vs), .int .i64 (stksOf vs)]) ∧ w''.ownsRow W1.heap.size 75 4 u nv (slotCells (slotsL vs 0 0)) ∧ Below W1.heap.size W1 w'') := Lib.hid fun W1 h1 => e_frame (Nat.le_refl _) V nv cv vs HC.out.v HC.out.vn (by omega) hu.fits.ok W1 h1
  have hok : e.ok := Ex.ok_of e d _ hu.ev HC.out.kv
  have hheld := known_held hu.kn
  have hline : Line (comp (slotsL vs 0 0) (cellsOf vs) e 0) := comp_line (slots_ok hu.fits) hcl.1 e 0 hheld hok (by omega) (by have := hu.dp; omega)
  have hlen := comp_length (slotsL vs 0 0) (cellsOf vs) e 0
  have hsl := slotsL_length vs 0 0
  obtain ⟨l, hl⟩ : ∃ l, comp (slotsL vs 0 0) (cellsOf vs) e 0 = l := ⟨_, rfl⟩
  obtain ⟨sl, hsl0⟩ : ∃ sl, slotsL vs 0 0 = sl := ⟨_, rfl⟩
  obtain ⟨ct, hct⟩ : ∃ ct, cellsOf vs = ct := ⟨_, rfl⟩
  obtain ⟨st, hst⟩ : ∃ st, stksOf vs = st := ⟨_, rfl⟩
  rw [hl] at hline hlen
  rw [hsl0] at hl hsl hheld HFR
  rw [hct] at hl hcl HFR
  rw [hst] at HFR
  have HL := Lib.hid hl; have HLINE := Lib.hid hline
  obtain ⟨nl, hnl⟩ : ∃ nl, l.length = nl := ⟨_, rfl⟩
  have HNL := Lib.hid hnl
  have hnl2 : nl ≤ 1600 := by have := hu.sz; omega
  have HCW : Hid (∀ wf, Below W.heap.size W wf → ∀ Au cu, SlotsAt wf wf.heap.size Au sl → ∀ W1, Below wf.heap.size wf W1 → Calls Tryd.prog 11 #[.agg #[.int .u8 k, .int .i64 num, .string nm, .slice A n cap], .agg #[.slice Au nv cu, .int .i64 ct, .int .i64 st]] W1 fun en w'' => ∃ v, en = .returned (.tuple #[v, .int .i64 0]) ∧ w''.ownsRow W1.heap.size 42 5 v nl (codeCells l) ∧ Below W1.heap.size W1 w'') := Lib.hid fun wf hwf Au cu hs W1 hW1 => by
    have h := e_Compute (w := wf) (B := wf.heap.size) (d := d) (Nat.le_refl _) (F := Au) (nf := nv) (cf := cu) (cc := ct) (ss := st) hcl.1 (by omega) sl hs (by rw [hsl]; exact HC.out.vn) (by omega) e hheld (by have := hu.sz; omega) ⟨k, num, nm, A, n, cap⟩ (EV.up hwf.size _ _ (hu.ev.next hwf)) (KV.up hwf.size _ _ (HC.out.kv.next hwf)) (by have := hu.dp; omega) W1 hW1
    rw [HL.out, HNL.out] at h
    exact h
  have HWI : Hid (∀ wf, Below W.heap.size W wf → ∀ Au cf, SlotsAt wf wf.heap.size Au sl → ∀ W1, Below wf.heap.size wf W1 → Calls Tryd.prog 12 #[.agg #[.int .u8 k, .int .i64 num, .string nm, .slice A n cap], .agg #[.slice Au nv cf, .int .i64 ct, .int .i64 st], .slice U nu cu] W1 fun en w'' => ∃ v, en = .returned (.tuple #[v, .int .i64 0]) ∧ w''.ownsRow W1.heap.size 42 5 v (withL l lu).length (codeCells (withL l lu)) ∧ Below W1.heap.size W1 w'') := Lib.hid fun wf hwf Au cf hs W1 hW1 => by
    have h := e_With (w := wf) (B := wf.heap.size) (d := d) (Nat.le_refl _) (F := Au) (nf := nv) (cf := cf) (cc := ct) (ss := st) hcl.1 (by omega) sl hs (by rw [hsl]; exact HC.out.vn) (by omega) e hheld (by have := hu.sz; omega) ⟨k, num, nm, A, n, cap⟩ (EV.up hwf.size _ _ (hu.ev.next hwf)) (KV.up hwf.size _ _ (HC.out.kv.next hwf)) (by have := hu.dp; omega) W1 hW1 (by rw [HL.out]; exact HLINE.out.wf) U nu cu lu HU.out (HRU.out.next (hwf.trans (hW1.mono hwf.size))) (by omega)
    rw [HL.out] at h
    exact h
  clear hu hsum hok hheld hline hlen hsl hl hsl0 hct hst hnl HE HUSE HUS hcl HL
  go_wp2_with fail
  refine (HFR.out w3 HB3.out).mono ?_
  rintro en w4 ⟨u4, rfl, how4, hb4⟩
  obtain ⟨Au, cf, rfl⟩ := own_form how4
  have HSL4 := Lib.hid (SlotsAt.own how4)
  have HB4 := Lib.hid (HB3.out.next hb4); have HK4 := Lib.hid (HK3.out.next hb4)
  clear T_1 z_1 F_1 hb4 how4 HFR HK1 HK2 HK3
  go_upto_region 6 with fail
  refine wp_nameE ?_
  intro w5 hw5
  have hb5 : Below w4.heap.size w4 w5 := by rw [hw5]; exact (by go_grown)
  have K5 : Blk w5 w4.heap.size 35 #[.slice Au nv cf, .int .i64 ct, .int .i64 st] := by rw [hw5]; exact (by repeat' (first | assumption | exact Blk.new' (by simp) _ _ | apply Blk.alloc | apply Blk.drew))
  have HK5 := Lib.hid K5; have HB45 := Lib.hid hb5; have HK5c := Lib.hid (HK4.out.next hb5)
  clear hw5 hb5 K5
  obtain ⟨z_1, T_1, F_1⟩ := HK5c.out.open_
  obtain ⟨z_5, T_5, F_5⟩ := HK5.out.open_
  go_wp2_with fail
  refine (HCW.out w4 HB4.out Au cf HSL4.out w5 HB45.out).mono ?_
  rintro en w6 ⟨v6, rfl, how6, hb6⟩
  obtain ⟨Ac, cl, rfl⟩ := own_form how6
  have HR6 := Lib.hid (Rd.ofOwn how6)
  have HB46 := Lib.hid (HB45.out.next hb6); have HK6 := Lib.hid (HK5.out.next hb6); have HK6c := Lib.hid (HK5c.out.next hb6)
  clear T_1 z_1 F_1 T_5 z_5 F_5 hb6 how6 HK5 HK5c
  obtain ⟨z_1, T_1, F_1⟩ := HK6c.out.open_
  obtain ⟨z_5, T_5, F_5⟩ := HK6.out.open_
  go_wp2_with fail
  refine (HWI.out w4 HB4.out Au cf HSL4.out w6 HB46.out).mono ?_
  rintro en w7 ⟨v7, rfl, how7, hb7⟩
  obtain ⟨nw, hnw⟩ : ∃ nw, (withL l lu).length = nw := ⟨_, rfl⟩
  have hnw2 : nw ≤ 4000 := by rw [← hnw, withL_length, HNL.out, HUL.out]; omega
  rw [hnw] at how7
  obtain ⟨Aw, cw, rfl⟩ := own_form how7
  have HR7 := Lib.hid (Rd.ofOwn how7).2
  have HR67 := Lib.hid (HR6.out.2.next hb7)
  have HB7 := Lib.hid ((HB4.out.next HB46.out).next hb7)
  have HNW := Lib.hid hnw
  clear T_1 z_1 F_1 T_5 z_5 F_5 hb7 how7 HK6 HK6c hnw
  go_wp2_with fail
  -- every instruction is valid and has no target
  go_loopw [52] (fun v52 wr => ∃ i : Nat, i ≤ nl ∧ v52 = .int .i64 i ∧ Below w7.heap.size w7 wr) (fun v _ => nl - (intOf v).toNat)
  case atStart => exact ⟨0, Nat.zero_le _, rfl, Below.refl _ _⟩
  case round =>
    obtain ⟨i, hi, rfl, hbr⟩ := hrel
    have HBR := Lib.hid hbr
    by_cases hlt : i < nl
    · have i0 : (0 : Int) ≤ (i : Int) := by omega
      have i1 : (i : Int) < (nl : Int) := by omega
      have hR := HR67.out.next hbr
      obtain ⟨bc, oc, rfl, _, _⟩ := hR.2 (by omega)
      have hx := hR.insAt (k := i) (by rw [HNL.out]; exact hlt)
      have hlx := HLINE.out.get (k := i) (by rw [HNL.out]; exact hlt)
      generalize l.getD i default = y at *
      obtain ⟨d0, d1, d2, d3, d4⟩ := hx
      have HLX := Lib.hid hlx
      clear hR hlx hbr
      go_upto_region 13 with fail
      refine wp_nameE ?_
      intro w8 hw8
      have hb8 : Below wr.heap.size wr w8 := by rw [hw8]; exact (by go_grown)
      have K8 : Blk w8 wr.heap.size 42 #[.int .u8 (y.op), .int .i64 (y.a), .int .i64 (y.b), .int .i64 (y.c), .int .i64 (y.d)] := by rw [hw8]; exact (by repeat' (first | assumption | exact Blk.new' (by simp) _ _ | apply Blk.alloc | apply Blk.drew))
      have HK8 := Lib.hid K8; have HB8 := Lib.hid (HBR.out.next hb8)
      clear hw8 hb8 K8 d0 d1 d2 d3 d4
      obtain ⟨z_8, T_8, F_8⟩ := HK8.out.open_
      go_wp2_with fail
      refine (c_Target' y.op y.a y.b y.c y.d (t := 0) (ok := false) HLX.out.noTarget w8).mono ?_
      rintro en w9 ⟨rfl, hb9⟩
      have HK9 := Lib.hid (HK8.out.next hb9); have HB9 := Lib.hid (HB8.out.next hb9)
      clear T_8 z_8 F_8 hb9
      obtain ⟨z_8, T_8, F_8⟩ := HK9.out.open_
      go_wp2_with fail
      refine (c_Valid' y.op y.a y.b y.c y.d (v := true) HLX.out.2.1 HLX.out.2.2.op0 w9 (HT.out.next (HB7.out.next HB9.out))).mono ?_
      rintro en w10 ⟨rfl, hb10⟩
      have HB10 := Lib.hid (HB9.out.next hb10)
      clear T_8 z_8 F_8 hb10
      go_wp2_with fail
      exact ⟨⟨i + 1, by omega, by go_num, HB10.out⟩, by simp [intOf]; omega⟩
    · obtain rfl : i = nl := by omega
      generalize wr = w8 at *
      have HB8 := Lib.hid (HB7.out.next hbr)
      have HRL := Lib.hid (HR67.out.next hbr); have HRW := Lib.hid (HR7.out.next hbr)
      have HLX := Lib.hid hbr
      clear hbr
      have HRU8 := Lib.hid (HRU.out.next HB8.out)
      have HSZ := Lib.hid (show i ≤ 1600 from hnl2)
      go_wp2_with (at_builtin; refine wpList_append_codeE rfl (.tmp 68) (.tmp 69) rfl w8.heap.size _ 0 [] rfl (own_blk0 (Blk.new _ _ _) (Nat.le_refl _)) Ac i cl l rfl HR6.out.1 (HRL.out.next ((Below.refl _ _).alloc (Nat.le_refl _) _)) (by omega) (by simp) ?_)
      intro v1 a1 ho1 hg1 hat1
      have hx1 : Below w8.heap.size w8 a1 := ((Below.refl _ _).alloc (Nat.le_refl _) _).grown hg1 (by simp) (fun k hk => by simp [Value.ownBlock] at hk; omega)
      have HO1 : Hid (a1.ownsRow w8.heap.size 42 5 v1 i (codeCells l)) := Lib.hid (by simpa [List.append_assoc, Nat.add_assoc] using ho1); have HX1 := Lib.hid hx1
      clear ho1 hg1 hat1 hx1
      go_wp2_with (at_builtin; refine wpList_append_codeE rfl (.tmp 70) (.tmp 72) rfl w8.heap.size v1 i l rfl (HO1.out.alloc _) (some ⟨a1.heap.size, 0, none⟩) 1 1 [⟨13, 4, 0, 0, 0⟩] rfl (fun e => by cases e) (rd_blk (Blk.new _ _ _) rfl) (by omega) (by have := HX1.out.size; simp; omega) ?_)
      intro v2 a2 ho2 hg2 hat2
      have hx2 : Below w8.heap.size w8 a2 := (HX1.out.next ((Below.refl _ _).alloc (Nat.le_refl _) _)).grown hg2 (by have := HX1.out.size; simp; omega) (fun k hk => (own_gE HO1.out hk).1)
      have HO2 : Hid (a2.ownsRow w8.heap.size 42 5 v2 (i + 1) (codeCells (l ++ [⟨13, 4, 0, 0, 0⟩]))) := Lib.hid (by simpa [List.append_assoc, Nat.add_assoc] using ho2); have HX2 := Lib.hid hx2
      clear ho2 hg2 hat2 hx2
      go_wp2_with (at_builtin; refine wpList_append_codeE rfl (.tmp 73) (.tmp 74) rfl w8.heap.size v2 (i + 1) (l ++ [⟨13, 4, 0, 0, 0⟩]) rfl HO2.out U nu cu lu rfl HU.out (HRU8.out.next HX2.out) (by omega) (by have := HX2.out.size; omega) ?_)
      intro v3 a3 ho3 hg3 hat3
      have hx3 : Below w8.heap.size w8 a3 := HX2.out.grown hg3 (by have := HX2.out.size; omega) (fun k hk => (own_gE HO2.out hk).1)
      have HO3 : Hid (a3.ownsRow w8.heap.size 42 5 v3 (i + 1 + nu) (codeCells (l ++ [⟨13, 4, 0, 0, 0⟩] ++ lu))) := Lib.hid (by simpa [List.append_assoc, Nat.add_assoc] using ho3); have HX3 := Lib.hid hx3
      clear ho3 hg3 hat3 hx3
      go_wp2_with (at_builtin; refine wpList_append_codeE rfl (.tmp 76) (.tmp 78) rfl w8.heap.size v3 (i + 1 + nu) (l ++ [⟨13, 4, 0, 0, 0⟩] ++ lu) rfl (HO3.out.alloc _) (some ⟨a3.heap.size, 0, none⟩) 1 1 [⟨12, 4, 0, 0, 0⟩] rfl (fun e => by cases e) (rd_blk (Blk.new _ _ _) rfl) (by omega) (by have := HX3.out.size; simp; omega) ?_)
      intro v4 a4 ho4 hg4 hat4
      have hx4 : Below w8.heap.size w8 a4 := (HX3.out.next ((Below.refl _ _).alloc (Nat.le_refl _) _)).grown hg4 (by have := HX3.out.size; simp; omega) (fun k hk => (own_gE HO3.out hk).1)
      have HO4 : Hid (a4.ownsRow w8.heap.size 42 5 v4 (i + 1 + nu + 1) (codeCells (l ++ [⟨13, 4, 0, 0, 0⟩] ++ lu ++ [⟨12, 4, 0, 0, 0⟩]))) := Lib.hid (by simpa [List.append_assoc, Nat.add_assoc] using ho4); have HX4 := Lib.hid hx4
      clear ho4 hg4 hat4 hx4
      go_wp2_with fail
      refine (e_Uncompute Ac i cl l (HRL.out.next HX4.out) HLINE.out.wf (by omega)).mono ?_
      rintro en a5 ⟨vu, rfl, hou, hbu⟩
      obtain ⟨Au2, cu2, rfl⟩ := own_form hou
      have HRV := Lib.hid (Rd.ofOwn hou)
      have HO5 : Hid (a5.ownsRow w8.heap.size 42 5 v4 (i + 1 + nu + 1) (codeCells (l ++ [⟨13, 4, 0, 0, 0⟩] ++ lu ++ [⟨12, 4, 0, 0, 0⟩]))) := Lib.hid (own_below HO4.out hbu (Nat.le_refl _))
      have HX5 := Lib.hid (HX4.out.next hbu)
      clear hou hbu
      go_wp2_with (at_builtin; refine wpList_append_codeE rfl (.tmp 79) (.tmp 81) rfl w8.heap.size v4 (i + 1 + nu + 1) (l ++ [⟨13, 4, 0, 0, 0⟩] ++ lu ++ [⟨12, 4, 0, 0, 0⟩]) rfl HO5.out Au2 i cu2 (unl l) rfl HRV.out.1 HRV.out.2 (by omega) (by have := HX5.out.size; omega) ?_)
      intro v6 a6 ho6 hg6 hat6
      have hx6 : Below w8.heap.size w8 a6 := HX5.out.grown hg6 (by have := HX5.out.size; omega) (fun k hk => (own_gE HO5.out hk).1)
      have e6 : i + 1 + nu + 1 + i = nw := by rw [← HNW.out, withL_length, HNL.out, HUL.out]; omega
      replace ho6 : a6.ownsRow w8.heap.size 42 5 v6 (i + 1 + nu + 1 + i) (codeCells (withL l lu)) := by simpa [withL, List.append_assoc, Nat.add_assoc] using ho6
      rw [e6] at ho6
      obtain ⟨A6, c6, rfl⟩ := own_form ho6
      have HRT : Hid (Rd a6 (· < a6.heap.size) 5 A6 nw (codeCells (withL l lu))) := Lib.hid (Rd.ofOwn ho6).2
      have HRS := Lib.hid (HRW.out.next hx6)
      have HX6 := Lib.hid (HB8.out.next hx6)
      have hwl : (withL l lu).length = nw := HNW.out
      obtain ⟨L9, hL9⟩ : ∃ L9, withL l lu = L9 := ⟨_, rfl⟩
      rw [hL9] at HRT HRS hwl
      have HWL := Lib.hid hwl
      clear ho6 hg6 hat6 hx6 e6 hL9 hwl
      go_wp2_with fail
      go_loopw [90] (fun v90 wr => ∃ t : Nat, t ≤ nw ∧ v90 = .int .i64 t ∧ Below a6.heap.size a6 wr) (fun v _ => nw - (intOf v).toNat)
      case atStart => exact ⟨0, Nat.zero_le _, rfl, Below.refl _ _⟩
      case round =>
        obtain ⟨t, ht, rfl, hbt⟩ := hrel
        have HBT := Lib.hid hbt
        by_cases htl : t < nw
        · have t0 : (0 : Int) ≤ (t : Int) := by omega
          have t1 : (t : Int) < (nw : Int) := by omega
          have hRa := HRT.out.next hbt; have hRb := HRS.out.next hbt
          obtain ⟨ba, oa, rfl, hba, _⟩ := hRa.2 (by omega)
          obtain ⟨bb, ob, rfl, hbb, _⟩ := hRb.2 (by omega)
          obtain ⟨d0, d1, d2, d3, d4⟩ := hRa.insAt (k := t) (by rw [HWL.out]; exact htl)
          obtain ⟨f0, f1, f2, f3, f4⟩ := hRb.insAt (k := t) (by rw [HWL.out]; exact htl)
          generalize L9.getD t default = y at *
          clear hRa hRb hbt
          go_upto_region 24 with fail
          go_region
          go_wp2_with fail
          exact ⟨⟨t + 1, by omega, by go_num, HBT.out.drew⟩, by simp [intOf]; omega⟩
        · obtain rfl : t = nw := by omega
          go_wp2_with fail
          go_ret
          exact ⟨rfl, HX6.out.next HBT.out⟩
end Go.Proofs.YtbijhlgdilkopaaDoor
