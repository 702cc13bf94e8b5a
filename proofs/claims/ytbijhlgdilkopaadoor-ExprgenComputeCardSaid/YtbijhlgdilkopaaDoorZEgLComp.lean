/- The walk of the law ExprgenCompute. Printed by gen_eglaw.py. -/
import Derived.Test.YtbijhlgdilkopaaDoorEwX
import Derived.Test.YtbijhlgdilkopaaDoorEvX
import Derived.Test.YtbijhlgdilkopaaDoorCpZ
set_option linter.unusedVariables false
set_option linter.unusedSimpArgs false
set_option maxRecDepth 100000
set_option maxHeartbeats 4000000
namespace Go.Proofs.YtbijhlgdilkopaaDoor
open Go.RowKit Bk
theorem c_lawComp {d : Nat} {x : Nd} {V : Option Addr} {nv cv : Nat} {vs : List Vr} {C : Option Addr} {nc cc : Nat} {cs : List (List Int)} {fp sb : Int} {G : Option Addr} {ng cg : Nat} {regs : List Int} {E : Option Addr} {ne ce : Nat} {scr : List Int} (W : World) (hc : CaseAt W W.heap.size d x V nv vs C nc cs G ng regs E ne ce scr) (hT : TableAt W) :
    Calls Tryd.prog 4 #[.agg #[.int .u8 x.k, .int .i64 x.num, .string x.nm, .slice x.A x.n x.cap, .slice V nv cv, .slice C nc cc, .int .i64 fp, .int .i64 sb, .slice G ng cg, .slice E ne ce]] W fun e w' => e = .returned (.bool true) ∧ Below W.heap.size W w' := by
  have HC := Lib.hid hc; have HT := Lib.hid hT
  have HUS : Hid (∀ W1, Below W.heap.size W W1 → Calls Tryd.prog 9 #[.agg #[.int .u8 x.k, .int .i64 x.num, .string x.nm, .slice x.A x.n x.cap, .slice V nv cv, .slice C nc cc, .int .i64 fp, .int .i64 sb, .slice G ng cg, .slice E ne ce]] W1 fun en w'' => ∃ b, en = .returned (.bool b) ∧ (b = true → ∃ e, Usable W W.heap.size nameB x e vs cs fp sb ne) ∧ Below W1.heap.size W1 w'') := Lib.hid fun W1 h1 => e_usable (Nat.le_refl _) hc W1 h1
  obtain ⟨k, num, nm, A, n, cap⟩ := x
  dsimp only at *
  clear hc hT
  go_enter Tryd.func4, Tryd.ntmps4
  go_upto_region 1 with fail
  refine wp_nameE ?_
  intro w1 hw1
  have hb1 : Below W.heap.size W w1 := by rw [hw1]; exact (by go_grown)
  have K1 : Blk w1 W.heap.size 29 #[.int .u8 k, .int .i64 num, .string nm, .slice A n cap, .slice V nv cv, .slice C nc cc, .int .i64 fp, .int .i64 sb, .slice G ng cg, .slice E ne ce] := by rw [hw1]; exact (by repeat' (first | assumption | exact Blk.new' (by simp) _ _ | apply Blk.alloc | apply Blk.drew))
  have HK1 := Lib.hid K1; have HB1 := Lib.hid hb1
  clear hw1 hb1 K1
  go_wp2_with fail
  refine (e_awake w1 (HT.out.next HB1.out)).mono ?_
  rintro en w2 ⟨rfl, hb2⟩
  have HB2 := Lib.hid (HB1.out.next hb2); have HK2 := Lib.hid (HK1.out.next hb2)
  clear hb2
  obtain ⟨z_1, T_1, F_1⟩ := HK2.out.open_
  go_wp2_with fail
  refine (HUS.out w2 HB2.out).mono ?_
  rintro en w3 ⟨b3, rfl, hus, hb3⟩
  have HB3 := Lib.hid (HB2.out.next hb3); have HK3 := Lib.hid (HK2.out.next hb3); have HUSE := Lib.hid hus
  clear T_1 z_1 F_1 hb3 hus
  obtain ⟨z_1, T_1, F_1⟩ := HK3.out.open_
  cases b3 with
  | false =>
    go_wp2_with fail
    go_ret
    exact ⟨rfl, HB3.out⟩
  | true =>
  obtain ⟨e, hu⟩ := HUSE.out (by first | rfl | trivial)
  clear HUSE HUS
  obtain ⟨fpn, rfl⟩ : ∃ q : Nat, fp = (q : Int) := ⟨fp.toNat, by have := hu.fp; omega⟩
  obtain ⟨sbn, rfl⟩ : ∃ q : Nat, sb = (q : Int) := ⟨sb.toNat, by have := hu.sb; omega⟩
  have hfp : fpn ≤ 20 := by have := hu.fp; omega
  have hsb : sbn ≤ 5 := by have := hu.sb; omega
  have hsum := sums_le vs hu.fits.ok
  have hcl : 0 ≤ cellsOf vs ∧ cellsOf vs ≤ 96 := by have := hu.v6; omega
  have hnv6 : nv ≤ 6 := by have := hu.v6; have := HC.out.vn; omega
  have hne50 : ne ≤ 50 := hu.n50
  have HFR : Hid (∀ W1, Below W.heap.size W W1 → Calls Tryd.prog 10 #[.slice V nv cv] W1 fun en w'' => ∃ u, en = .returned (.agg #[u, .int .i64 (cellsOf vs), .int .i64 (stksOf vs)]) ∧ w''.ownsRow W1.heap.size 75 4 u nv (slotCells (slotsL vs 0 0)) ∧ Below W1.heap.size W1 w'') := Lib.hid fun W1 h1 => e_frame (Nat.le_refl _) V nv cv vs HC.out.v HC.out.vn (by omega) hu.fits.ok W1 h1
  have hok : e.ok := Ex.ok_of e d _ hu.ev HC.out.kv
  have hheld := known_held hu.kn
  have hline : Line (comp (slotsL vs 0 0) (cellsOf vs) e 0) := comp_line (slots_ok hu.fits) hcl.1 e 0 hheld hok (by omega) (by have := hu.dp; omega)
  have hlen := comp_length (slotsL vs 0 0) (cellsOf vs) e 0
  have hsl := slotsL_length vs 0 0
  have hM : Hid (∀ W1, Below W.heap.size W W1 → Calls Tryd.prog 16 #[.agg #[.int .u8 k, .int .i64 num, .string nm, .slice A n cap, .slice V nv cv, .slice C nc cc, .int .i64 (fpn : Int), .int .i64 (sbn : Int), .slice G ng cg, .slice E ne ce]] W1 fun e w'' => ∃ vm vt sv, e = .returned (.agg (mcells (caseM vs cs fpn sbn regs scr) vm vt (.slice none 0 0) (.slice none 0 0) (.slice none 0 0)).toArray) ∧ MOwn w'' W1.heap.size (caseM vs cs fpn sbn regs scr) vm vt (.slice none 0 0) (.slice none 0 0) (.slice none 0 0) sv ∧ Below W1.heap.size W1 w'') :=
    Lib.hid fun W1 h1 => e_machine (Nat.le_refl _) HC.out hu.fits hnv6 hfp hsb hne50 W1 h1
  have hg := case_good hu.fits hu.dist HC.out.ci fpn sbn hfp hsb hu.v6 regs scr HC.out.gi HC.out.ei
  have hrn : Runs (caseM vs cs fpn sbn regs scr) (comp (slotsL vs 0 0) (cellsOf vs) e 0).length := case_runs hu.fits HC.out.ci fpn sbn hfp hsb hu.v6 regs scr HC.out.gi HC.out.ei (by have := HC.out.en; omega) (by have := hu.sz; omega)
  have HVA : Hid (∀ W1, Below W.heap.size W W1 → Calls Tryd.prog 18 #[.agg #[.int .u8 k, .int .i64 num, .string nm, .slice A n cap, .slice V nv cv, .slice C nc cc, .int .i64 (fpn : Int), .int .i64 (sbn : Int), .slice G ng cg, .slice E ne ce]] W1 fun en w'' => en = .returned (.tuple #[.int .i64 (evalE (lookV vs cs) e).1, .int .i64 (evalE (lookV vs cs) e).2]) ∧ Below W1.heap.size W1 w'') := Lib.hid fun W1 h1 => e_valueF (Nat.le_refl _) HC.out hu W1 h1
  have hrun := hg.run hheld hok.nums (by have := hu.dp; omega)
  have hs0 : (caseM vs cs fpn sbn regs scr).stk 0 = scr := rfl
  rw [hs0] at hrun
  have hsc0 : (caseM vs cs fpn sbn regs scr).setS 0 scr = caseM vs cs fpn sbn regs scr := rfl
  have hat0 : (caseM vs cs fpn sbn regs scr).at_ 0 1 = caseM vs cs fpn sbn regs scr := rfl
  have hmss : 1 ≤ (caseM vs cs fpn sbn regs scr).s.length := by simp [caseM]
  have hrev := evalE_range hg.lk e hok.nums
  obtain ⟨M0, hM0⟩ : ∃ M0, caseM vs cs fpn sbn regs scr = M0 := ⟨_, rfl⟩
  obtain ⟨rv, hrv⟩ : ∃ rv, evalE (lookV vs cs) e = rv := ⟨_, rfl⟩
  obtain ⟨l, hl⟩ : ∃ l, comp (slotsL vs 0 0) (cellsOf vs) e 0 = l := ⟨_, rfl⟩
  obtain ⟨sl, hsl0⟩ : ∃ sl, slotsL vs 0 0 = sl := ⟨_, rfl⟩
  obtain ⟨ct, hct⟩ : ∃ ct, cellsOf vs = ct := ⟨_, rfl⟩
  obtain ⟨st, hst⟩ : ∃ st, stksOf vs = st := ⟨_, rfl⟩
  rw [hM0] at hM hg hrn hrun hsc0 hat0 hmss
  rw [hrv] at hrun HVA hrev
  rw [hl] at hline hlen hrn hrun
  have hlp := pushE_length (lookV vs cs) e
  obtain ⟨pu, hpu⟩ : ∃ pu, pushE (lookV vs cs) e = pu := ⟨_, rfl⟩
  rw [hpu] at hrun hlp
  have hbd : MBd M0 := by
    have h := (Runs.fit (l := l) hrn hline (j := 0) (Nat.zero_le _) (N := M0) rfl).2
    rw [show M0.at_ ((0 : Nat) : Int) 1 = M0 from hat0] at h
    exact h
  rw [hsl0] at hl hsl hheld HFR
  rw [hct] at hl hcl HFR
  rw [hst] at HFR
  have HL := Lib.hid hl; have HLINE := Lib.hid hline; have HRUN := Lib.hid hrun; have HAT := Lib.hid hat0; have HSC := Lib.hid hsc0; have HMSS := Lib.hid hmss; have HMBD := Lib.hid hbd
  obtain ⟨nl, hnl⟩ : ∃ nl, l.length = nl := ⟨_, rfl⟩
  rw [hnl] at hrn hlen
  have HNL := Lib.hid hnl; have HRN := Lib.hid hrn; have HLP := Lib.hid hlp
  have hnl2 : nl ≤ 1600 := by have := hu.sz; omega
  have HSZ : Hid (∀ W1, Below W.heap.size W W1 → Calls Tryd.prog 19 #[.agg #[.int .u8 k, .int .i64 num, .string nm, .slice A n cap]] W1 fun en w'' => en = .returned (.int .i64 (e.sz : Int)) ∧ Below W1.heap.size W1 w'') := Lib.hid fun W1 h1 => e_Size (Nat.le_refl _) e (by have := hu.sz; omega) ⟨k, num, nm, A, n, cap⟩ hu.ev W1 h1
  have hsz200 : e.sz ≤ 200 := hu.sz
  have HCW : Hid (∀ wf, Below W.heap.size W wf → ∀ Au cu, SlotsAt wf wf.heap.size Au sl → Calls Tryd.prog 11 #[.agg #[.int .u8 k, .int .i64 num, .string nm, .slice A n cap], .agg #[.slice Au nv cu, .int .i64 ct, .int .i64 st]] wf fun en w'' => ∃ v, en = .returned (.tuple #[v, .int .i64 0]) ∧ w''.ownsRow wf.heap.size 42 5 v nl (codeCells l) ∧ Below wf.heap.size wf w'') := Lib.hid fun wf hwf Au cu hs => by
    have h := e_Compute (w := wf) (B := wf.heap.size) (d := d) (Nat.le_refl _) (F := Au) (nf := nv) (cf := cu) (cc := ct) (ss := st) hcl.1 (by omega) sl hs (by rw [hsl]; exact HC.out.vn) (by omega) e hheld (by have := hu.sz; omega) ⟨k, num, nm, A, n, cap⟩ (EV.up hwf.size _ _ (hu.ev.next hwf)) (KV.up hwf.size _ _ (HC.out.kv.next hwf)) (by have := hu.dp; omega) wf (Below.refl _ _)
    rw [HL.out, HNL.out] at h
    exact h
  have hsn : scr.length = ne := HC.out.en
  have HSN := Lib.hid hsn
  clear hu hsum hok hheld hline hlen hsl hl hsl0 hct hst hnl hcl hfp hsb hg hrn hrun hs0 hsc0 hat0 hmss hM0 hrv hlp hpu hbd hsn hrev
  clear T_1 z_1 F_1 HK1 HK2
  obtain ⟨z_1, T_1, F_1⟩ := HK3.out.open_
  go_upto_region 5 with fail
  clear T_1 z_1 F_1
  refine wp_region_held_drew (S := fun W => Below w3.heap.size w3 W) (by kernel_rfl) ((Below.refl _ _).drew) (fun hH => ?_)
  refine wpAnyH_take (i := 0) (v := ?_) rfl (by kernel_rfl) (by kernel_rfl) (by kernel_rfl) (fun _ _ _ h => h) (Or.inl ⟨by rfl, ?hy⟩) hH ?_
  case hy => (intro w9_ hS9; clear hS9; go_simp; try with_reducible rfl)
  (try simp only [Bk.PU, Act.put])
  refine wpAnyH_take (i := 1) (v := ?_) rfl (by kernel_rfl) (by kernel_rfl) (by kernel_rfl) (fun _ _ _ h => h) (Or.inl ⟨by rfl, ?hy⟩) hH ?_
  case hy => (intro w9_ hS9; have t := (HK3.out.next hS9).cell; clear hS9; go_simp; try with_reducible rfl)
  (try simp only [Bk.PU, Act.put])
  refine wpAnyH_take (i := 2) (v := ?_) rfl (by kernel_rfl) (by kernel_rfl) (by kernel_rfl) (fun _ _ _ h => h) (Or.inl ⟨by rfl, ?hy⟩) hH ?_
  case hy => (intro w9_ hS9; clear hS9; go_simp; try with_reducible rfl)
  (try simp only [Bk.PU, Act.put])
  refine wpAnyH_take (i := 3) (v := ?_) rfl (by kernel_rfl) (by kernel_rfl) (by kernel_rfl) (fun _ _ _ h => h) (Or.inl ⟨by rfl, ?hy⟩) hH ?_
  case hy => (intro w9_ hS9; have t := (HK3.out.next hS9).cell; clear hS9; go_simp; try with_reducible rfl)
  (try simp only [Bk.PU, Act.put])
  refine wpAnyH_ready (rs := [4]) (by kernel_rfl) (by simp) ?_
  refine AllReadyH.cons rfl (fun K hK => ?_) (AllReadyH.nil)
  go_simp
  refine (HFR.out _ (HB3.out.next hH)).mono ?_
  rintro en wf ⟨u, rfl, hown, hbf⟩
  have hXf := hH.next hbf
  obtain ⟨Au, cu, rfl⟩ := own_form hown
  have HSLO := Lib.hid (SlotsAt.own hown)
  have HXF := Lib.hid hXf
  clear hown hbf
  refine hK.out _ _ hXf (fun hH => ?_)
  clear hH
  have hH := HXF.out
  clear hXf
  clear hK
  (try simp only [Bk.PU, Act.put])
  refine wpAnyH_ready (rs := [5]) (by kernel_rfl) (by simp) ?_
  refine AllReadyH.cons rfl (fun K hK => ?_) (AllReadyH.nil)
  go_simp
  refine (HCW.out wf (HB3.out.next HXF.out) Au cu HSLO.out).mono ?_
  rintro en w4 ⟨v, rfl, hown, hbc⟩
  have hX4 := HXF.out.next hbc
  obtain ⟨Ac, cl, rfl⟩ := own_form hown
  have HOW := Lib.hid hown
  have HX4 := Lib.hid hX4
  clear hown hbc
  refine hK.out _ _ hX4 (fun hH => ?_)
  clear hH
  have hH := HX4.out
  clear hX4
  clear hK
  (try simp only [Bk.PU, Act.put])
  refine wpAnyH_take (i := 6) (v := ?_) rfl (by kernel_rfl) (by kernel_rfl) (by kernel_rfl) (fun _ _ _ h => h) (Or.inl ⟨by rfl, ?hy⟩) hH ?_
  case hy => (intro w9_ hS9; clear hS9; go_simp; try with_reducible rfl)
  (try simp only [Bk.PU, Act.put])
  refine wpAnyH_take (i := 7) (v := ?_) rfl (by kernel_rfl) (by kernel_rfl) (by kernel_rfl) (fun _ _ _ h => h) (Or.inl ⟨by rfl, ?hy⟩) hH ?_
  case hy => (intro w9_ hS9; clear hS9; go_simp; try with_reducible rfl)
  (try simp only [Bk.PU, Act.put])
  refine wpAnyH_take (i := 8) (v := ?_) rfl (by kernel_rfl) (by kernel_rfl) (by kernel_rfl) (fun _ _ _ h => h) (Or.inl ⟨by rfl, ?hy⟩) hH ?_
  case hy => (intro w9_ hS9; clear hS9; go_simp; try with_reducible rfl)
  (try simp only [Bk.PU, Act.put])
  refine wpAnyH_take (i := 9) (v := ?_) rfl (by kernel_rfl) (by kernel_rfl) (by kernel_rfl) (fun _ _ _ h => h) (Or.inl ⟨by rfl, ?hy⟩) hH ?_
  case hy => (intro w9_ hS9; clear hS9; go_simp; try with_reducible rfl)
  (try simp only [Bk.PU, Act.put])
  refine wpAnyH_take (i := 10) (v := ?_) rfl (by kernel_rfl) (by kernel_rfl) (by kernel_rfl) (fun _ _ _ h => h) (Or.inl ⟨by rfl, ?hy⟩) hH ?_
  case hy => (intro w9_ hS9; clear hS9; go_simp; try with_reducible rfl)
  (try simp only [Bk.PU, Act.put])
  refine wpAnyH_done (by kernel_rfl) ?_ _
  generalize w4 = w4 at *
  have HB4 := Lib.hid (HB3.out.next HX4.out); have HK4 := Lib.hid (HK3.out.next HX4.out)
  have hRC := Rd.ofOwnB HOW.out
  have HRC := Lib.hid hRC
  clear hRC hH
  obtain ⟨z_1, T_1, F_1⟩ := HK4.out.open_
  go_wp2_with fail
  refine (hM.out w4 HB4.out).mono ?_
  rintro en wm7 ⟨vm7, vt7, sv7, rfl, ho7, hb7⟩
  have HO7 := Lib.hid ho7
  have HL257 := Lib.hid (mc_len M0 vm7 vt7 (.slice none 0 0) (.slice none 0 0) (.slice none 0 0) ho7.1)
  have HOV7 := Lib.hid (show vm7.oneCell' = true ∧ vt7.oneCell' = true from ⟨by obtain ⟨_, _, e, _⟩ := ho7.mls.m; subst e; rfl, by obtain ⟨_, _, e, _⟩ := ho7.mls.s; subst e; rfl⟩)
  have HBm7 := Lib.hid hb7
  clear T_1 z_1 F_1 ho7 hb7
  go_upto_region 7 with (refine wpList_store_row rfl 51 (.tmp 5) (.tmp 26) rfl wm7.heap.size _ rfl rfl 51 #[.int .i64 0, .int .i64 0, .int .i64 0, .int .i64 0, .int .i64 0, .int .i64 0, .int .i64 0, .int .i64 0, .int .i64 0, .int .i64 0, .int .i64 0, .int .i64 0, .int .i64 0, .int .i64 0, .int .i64 0, .int .i64 0, .int .i64 0, .int .i64 0, .slice none 0 0, .slice none 0 0, .slice none 0 0, .int .i64 0, .int .i64 0, .slice none 0 0, .slice none 0 0] (heap_alloc_new wm7 _) (by rw [info_mach25E]; simp [HL257.out]) (by simp [HL257.out]) (all_oneCell_toArray (mc_one HOV7.out.1 HOV7.out.2 rfl rfl rfl)) ?_; (try simp only [Act.put, Bk.PU]))
  refine wp_nameE ?_
  intro w7 hw7
  rw [World.setRow_alloc_new] at hw7
  have hbw7 : Below wm7.heap.size wm7 w7 := by rw [hw7]; exact (by go_grown)
  have KM7 : Blk w7 wm7.heap.size 51 (mcells M0 vm7 vt7 (.slice none 0 0) (.slice none 0 0) (.slice none 0 0)).toArray := by rw [hw7]; exact Blk.new _ _ _
  obtain ⟨gm7, gs7, q17, q27, q37, q47, hm7⟩ := HO7.out.on w7 hbw7 KM7 (.inr (Nat.le_refl _))
  have HM7 := Lib.hid hm7
  have HPQ7 := Lib.hid (HBm7.out.next hbw7)
  have HB7 := Lib.hid (HB4.out.next HPQ7.out); have HK7 := Lib.hid (HK4.out.next HPQ7.out)
  have hz7 : wm7.heap.size < w7.heap.size := KM7.lt
  have hy7 : w4.heap.size ≤ wm7.heap.size := HBm7.out.size
  clear hw7 hbw7 KM7 hm7 HO7 HL257 HOV7
  obtain ⟨rv1, rv2⟩ := rv
  dsimp only at HRUN HVA
  have hEnv7 : Env w7 ⟨wm7.heap.size, 51, [], [], 0, gm7, gs7, (· < w4.heap.size)⟩ Ac nl l :=
    Env.next (w := w4) ⟨HRC.out.mono fun k hk => ⟨hk.2, by rintro (e | e | e) <;> (dsimp only at e; have := hk.2; omega)⟩, HLINE.out.wf, HT.out.next HB4.out, by have := HT.out.lt; have := HB4.out.size; rintro (e | e | e) <;> (dsimp only at e; omega), by have := HNL.out; omega⟩ HPQ7.out
  have hrun := e_run HM7.out.mat cl hEnv7 HLINE.out HRN.out
  have hnoW : ¬ Pl.O ⟨wm7.heap.size, 51, [], [], 0, gm7, gs7, (· < w4.heap.size)⟩ W.heap.size := by
    have := HB4.out.size; have := HK4.out.lt
    rintro (e | e | e) <;> (dsimp only at e; omega)
  have HNOW := Lib.hid hnoW
  have HBELOW : Hid (∀ w8, Fr (Pl.O ⟨wm7.heap.size, 51, [], [], 0, gm7, gs7, (· < w4.heap.size)⟩) w7 w8 → Below W.heap.size W w8) := Lib.hid fun w8 hf => HB7.out.trans (hf.below (by have := HB7.out.size; omega) (fun k hk => by have := HB4.out.size; rcases hk with e | e | e <;> (dsimp only at e; omega)))
  clear hEnv7 hnoW
  by_cases h0 : rv2 = 0
  · have hs := HRUN.out.2 h0
    rw [hs] at hrun
    subst h0
    have hrun' : Calls Tryd.prog 17 #[.slice Ac nl cl, .pointer (some ⟨wm7.heap.size, 0, none⟩)] w7 fun e w' => e = .returned (.int .i64 0) ∧ MAt w' ⟨wm7.heap.size, 51, [], [], 0, gm7, gs7, (· < w4.heap.size)⟩ (M0.setS 0 (scr ++ pu ++ [rv1])) ∧ Fr (Pl.O ⟨wm7.heap.size, 51, [], [], 0, gm7, gs7, (· < w4.heap.size)⟩) w7 w' := by
      refine hrun.mono ?_
      rintro en w' ⟨h1, h2, h3⟩
      refine ⟨h1, ?_, h3⟩
      have h4 : (M0.setS 0 (scr ++ pu ++ [rv1])).at_ 0 1 = (M0.at_ 0 1).setS 0 (scr ++ pu ++ [rv1]) := rfl
      have h2 := h2 rfl
      rw [h4, HAT.out] at h2
      exact h2
    have HRUN2 := Lib.hid hrun'
    clear hrun hrun' hs HRUN
    go_wp2_with fail
    refine HRUN2.out.mono ?_
    rintro en w8 ⟨rfl, hm8, hf8⟩
    have HB8 := Lib.hid (HBELOW.out w8 hf8); have HK8 := Lib.hid (hf8.blk HK7.out HNOW.out)
    have HM8 := Lib.hid hm8
    clear hm8 hf8 HRUN2
    obtain ⟨z_1, T_1, F_1⟩ := HK8.out.open_
    go_wp2_with fail
    refine (HVA.out w8 HB8.out).mono ?_
    rintro en w9 ⟨rfl, hb9⟩
    have HB9 := Lib.hid (HB8.out.next hb9); have HK9 := Lib.hid (HK8.out.next hb9)
    have hm9 := HM8.out.next hb9
    clear T_1 z_1 F_1 hb9 HM8
    obtain ⟨vm9, vs9, vc9, vi9, vo9, sv9, hm9⟩ := hm9
    have HM9 := Lib.hid hm9
    clear hm9
    obtain ⟨sn9, sc9, evs, hsn9, As, cs9, hS0, hcs9, hAs, hRs, _⟩ := HM9.out.sv 0 (by rw [show (M0.setS 0 (scr ++ pu ++ [rv1])).s.length = M0.s.length by simp [Mach.setS]]; exact HMSS.out)
    have hstk : (M0.setS 0 (scr ++ pu ++ [rv1])).stk ((0 : Nat) : Int) = scr ++ pu ++ [rv1] := stk_setS _ _ _ (by have := HMSS.out; show 0 < M0.s.length; omega)
    rw [hstk] at hS0 hcs9 hRs
    have hLn : (scr ++ pu ++ [rv1]).length = ne + e.sz := by have h1 := HSN.out; have h2 := HLP.out; simp only [List.length_append, List.length_cons, List.length_nil]; omega
    have hlast : ∃ bs os, As = some ⟨bs, os, none⟩ ∧ w9.cell? ⟨bs, os + (ne + e.sz - 1), none⟩ = some (.int .i64 rv1) := by
      have hp : 0 < (scr ++ pu ++ [rv1]).length := by rw [hLn]; have := HLP.out; omega
      obtain ⟨bs, os, rfl, _, hc⟩ := hRs.2 hp
      refine ⟨bs, os, rfl, hc _ _ ?_⟩
      rw [intCells_get _ _ (by rw [hLn]; omega)]
      rw [show ne + e.sz - 1 = (scr ++ pu).length by have := hLn; simp only [List.length_append, List.length_cons, List.length_nil] at this ⊢; omega]
      simp [List.getD_eq_getElem?_getD]
    have HLAST := Lib.hid hlast; have HLN := Lib.hid hLn
    have hB9 := HB9.out.size
    have c19 := HM9.out.c19
    dsimp only at c19 hS0
    obtain ⟨bs, os, hAse, hlc⟩ := hlast
    subst hAse
    subst evs
    have hsn1 : 1 ≤ sn9 := by have := HMSS.out; rw [hsn9, show (M0.setS 0 (scr ++ pu ++ [rv1])).s.length = M0.s.length by simp [Mach.setS]]; exact this
    have hsn2 : sn9 ≤ 16384 := by have := HMBD.out.sl; rw [hsn9, show (M0.setS 0 (scr ++ pu ++ [rv1])).s.length = M0.s.length by simp [Mach.setS]]; exact this
    obtain ⟨nL, hnL⟩ : ∃ nL, ne + e.sz = nL := ⟨_, rfl⟩
    obtain ⟨es, hes⟩ : ∃ es : Nat, e.sz = es := ⟨_, rfl⟩
    have hes1 : 1 ≤ es := by have := HLP.out; omega
    rw [hLn, hnL] at hS0 hcs9 hRs
    rw [hnL] at hlc hLn
    rw [hes] at HSZ hnL
    obtain ⟨nq, hnq⟩ : ∃ nq : Nat, nL = nq + 1 := ⟨nL - 1, by omega⟩
    rw [show nL - 1 = nq by omega] at hlc
    have hw1 : IntKind.i64.wrap ((ne : Int) + (es : Int)) = (nL : Int) := by rw [wrap_small _ (by omega) (by omega)]; omega
    have hw2 : IntKind.i64.wrap ((nL : Int) - 1) = (nq : Int) := by rw [wrap_small _ (by omega) (by omega)]; omega
    have hnq1 : nq < nL := by omega
    have hnc : nL ≤ cs9 := hcs9
    have hne1 : ne ≤ nL := by omega
    have HRS := Lib.hid hRs; have HAS := Lib.hid hAs; have HLN := Lib.hid hLn; have HNQ := Lib.hid hnq; have HEV := Lib.hid hnL
    have HLC := Lib.hid hlc; have HS0 := Lib.hid hS0
    clear hRs hAs hLn hnq hnL hcs9 hsn9 hstk hes HLAST hlc
    obtain ⟨z_1, T_1, F_1⟩ := HK9.out.open_
    go_upto_region 14 with fail
    clear T_1 z_1 F_1 c19 hS0
    refine wp_region_grow (by kernel_rfl) (by kernel_rfl) ?_
    intro WZ hV
    have hneW : Nonempty (Grw WZ) := ⟨⟨WZ, Below.refl _ _⟩⟩
    have HBq : Hid (∀ z, Below w9.heap.size w9 (grow WZ z)) := Lib.hid fun z => by rw [← hV]; exact grow_below _ z
    have HBz : Hid (∀ z, Below W.heap.size W (grow WZ z)) := Lib.hid fun z => HB9.out.next (HBq.out z)
    have t1 := fun z => (HK9.out.next (HBq.out z)).cell
    have t2 : ∀ z, (grow WZ z).cell? ⟨wm7.heap.size, 19, none⟩ = some (.slice (some ⟨gs7, 0, none⟩) sn9 sc9) := fun z => (HM9.out.next (HBq.out z)).c19
    have t3 : ∀ z, (grow WZ z).cell? ⟨gs7, 0, none⟩ = some (.slice (some ⟨bs, os, none⟩) nL cs9) := fun z => ((HBq.out z).cell (p := ⟨gs7, 0, none⟩) HM9.out.gs).trans HS0.out
    have t4 : ∀ z, (grow WZ z).cell? ⟨bs, os + nq, none⟩ = some (.int .i64 rv1) := fun z => ((HBq.out z).cell (p := ⟨bs, os + nq, none⟩) (HRS.out.blk (by omega)).1).trans HLC.out
    have HV := Lib.hid hV; clear hV
    repeat (go_big_quiet_step ((go_at_call 19; with_reducible exact quiet_grow (HSZ.out _ (HBz.out _)))))
    clear t1 t2 t3 t4
    refine wpQuiet_nil ?_
    rintro _ ⟨z, rfl⟩
    have hb14 := HBq.out z
    generalize grow WZ z = w14 at hb14 ⊢
    clear HV HBz HBq hneW
    have HB14 := Lib.hid (HB9.out.next hb14); have HK14 := Lib.hid (HK9.out.next hb14)
    have HM14 := Lib.hid (HM9.out.next hb14)
    have hRs := (HRS.out.take hne1)
    have htk : (intCells (scr ++ pu ++ [rv1])).take ne = intCells scr := by
      have := HSN.out
      rw [← this]
      simp [intCells]
    rw [htk] at hRs
    have hsl16 : Sl w14 (Pl.D ⟨wm7.heap.size, 51, [], [], 0, gm7, gs7, (· < w4.heap.size)⟩ w14) 1 (.slice (some ⟨bs, os, none⟩) ne cs9) scr.length (intCells scr) := by
      rw [HSN.out]
      exact Sl.up ⟨_, _, rfl, by omega, (fun e => by cases e), hRs⟩ hb14
    have hS14 : w14.cell? ⟨gs7, 0, none⟩ = some (.slice (some ⟨bs, os, none⟩) nL cs9) := (hb14.cell (p := ⟨gs7, 0, none⟩) HM9.out.gs).trans HS0.out
    have c19 := HM14.out.c19
    dsimp only at c19
    rw [Nat.zero_add] at c19
    have HS16 := Lib.hid hsl16
    have hg14 : gs7 < w14.heap.size := HM14.out.gs
    have f14 : w14.frozen? ⟨gs7, 0, none⟩ = false := by
      obtain ⟨_, _, _, _, hf⟩ := HM14.out.s.form (by have h1 := HM14.out.l.1.1; have h2 := HMSS.out; simp [Mach.setS] at h1; omega)
      exact hf 0
    clear hRs htk hb14 hsl16
    go_upto_region 16 with fail
    go_region
    go_upto_region 17 with fail
    refine wp_nameE ?_
    intro w16 hw16
    have hm16 : ∃ a b c d e f, MOn w16 ⟨wm7.heap.size, 51, [], [], 0, gm7, gs7, (· < w4.heap.size)⟩ M0 a b c d e f := by
      have h := HM14.out.setStk 0 (by have := HMSS.out; simp [Mach.setS]; omega) (.slice (some ⟨bs, os, none⟩) ne cs9) scr HS16.out
      have e2 : ((M0.setS 0 (scr ++ pu ++ [rv1])).setS ((0 : Nat) : Int) scr) = M0 := by
        have h2 := HSC.out
        have h3 : ((M0.setS 0 (scr ++ pu ++ [rv1])).setS ((0 : Nat) : Int) scr) = M0.setS 0 scr := by simp [Mach.setS]
        exact h3.trans h2
      rw [e2] at h
      exact ⟨_, _, _, _, _, _, h.heap (by rw [hw16]; rfl)⟩
    have hno : ∀ k, (k = gs7) → ¬ k = W.heap.size := by intro k e; have := HB4.out.size; have := HK4.out.lt; omega
    have hf16 : Fr (Pl.O ⟨wm7.heap.size, 51, [], [], 0, gm7, gs7, (· < w4.heap.size)⟩) w14 w16 := by
      rw [hw16]; exact ((Fr.of (Below.refl w14.heap.size w14)).set (.inr (.inr rfl)) _).trans (Fr.of (by go_grown))
    have HB16 := Lib.hid (HB14.out.trans (hf16.below (B := W.heap.size) (by have := HB14.out.size; omega) (fun k hk => by have := HB4.out.size; rcases hk with e | e | e <;> (dsimp only at e; omega))))
    have HK16 := Lib.hid (hf16.blk HK14.out HNOW.out)
    obtain ⟨vm16, vs16, vc16, vi16, vo16, sv16, hm16⟩ := hm16
    have HM16 := Lib.hid hm16
    clear hm16 hno hf16 hw16 HS16 HM14 HM9 f14 hg14 hS14 c19 HNOW HRS HLC HS0 hw1 hw2 HEV HNQ HBELOW HVA HSZ HCW HM7 HB14 HK14 HB9 HK9 HB8 HK8 HSC HMSS
    clear HRC HX4 HXF HSLO HOW
    obtain ⟨z_1, T_1, F_1⟩ := HK16.out.open_
    go_wp2_with fail
    refine (hM.out w16 HB16.out).mono ?_
    rintro en wm17 ⟨vm17, vt17, sv17, rfl, ho17, hb17⟩
    have HO17 := Lib.hid ho17
    have HL2517 := Lib.hid (mc_len M0 vm17 vt17 (.slice none 0 0) (.slice none 0 0) (.slice none 0 0) ho17.1)
    have HOV17 := Lib.hid (show vm17.oneCell' = true ∧ vt17.oneCell' = true from ⟨by obtain ⟨_, _, e, _⟩ := ho17.mls.m; subst e; rfl, by obtain ⟨_, _, e, _⟩ := ho17.mls.s; subst e; rfl⟩)
    have HBm17 := Lib.hid hb17
    clear T_1 z_1 F_1 ho17 hb17
    go_upto_region 18 with (refine wpList_store_row rfl 51 (.tmp 10) (.tmp 83) rfl wm17.heap.size _ rfl rfl 51 #[.int .i64 0, .int .i64 0, .int .i64 0, .int .i64 0, .int .i64 0, .int .i64 0, .int .i64 0, .int .i64 0, .int .i64 0, .int .i64 0, .int .i64 0, .int .i64 0, .int .i64 0, .int .i64 0, .int .i64 0, .int .i64 0, .int .i64 0, .int .i64 0, .slice none 0 0, .slice none 0 0, .slice none 0 0, .int .i64 0, .int .i64 0, .slice none 0 0, .slice none 0 0] (heap_alloc_new wm17 _) (by rw [info_mach25E]; simp [HL2517.out]) (by simp [HL2517.out]) (all_oneCell_toArray (mc_one HOV17.out.1 HOV17.out.2 rfl rfl rfl)) ?_; (try simp only [Act.put, Bk.PU]))
    refine wp_nameE ?_
    intro w17 hw17
    rw [World.setRow_alloc_new] at hw17
    have hbw17 : Below wm17.heap.size wm17 w17 := by rw [hw17]; exact (by go_grown)
    have KM17 : Blk w17 wm17.heap.size 51 (mcells M0 vm17 vt17 (.slice none 0 0) (.slice none 0 0) (.slice none 0 0)).toArray := by rw [hw17]; exact Blk.new _ _ _
    obtain ⟨gm17, gs17, q117, q217, q317, q417, hm17⟩ := HO17.out.on w17 hbw17 KM17 (.inr (Nat.le_refl _))
    have HM17 := Lib.hid hm17
    have HPQ17 := Lib.hid (HBm17.out.next hbw17)
    have HB17 := Lib.hid (HB16.out.next HPQ17.out); have HK17 := Lib.hid (HK16.out.next HPQ17.out)
    have hz17 : wm17.heap.size < w17.heap.size := KM17.lt
    have hy17 : w16.heap.size ≤ wm17.heap.size := HBm17.out.size
    clear hw17 hbw17 KM17 hm17 HO17 HL2517 HOV17
    go_wp2_with fail
    refine (c_EqualT (HM16.out.next HPQ17.out).rd HM17.out.rd HMBD.out).mono ?_
    rintro en w18 ⟨rfl, hb18⟩
    have hfin : Below W.heap.size W w18 := HB17.out.next hb18
    have HFIN := Lib.hid hfin
    clear hfin hb18
    go_wp2_with fail
    go_ret
    exact ⟨rfl, HFIN.out⟩
  · have hs := HRUN.out.1 h0
    rw [hs] at hrun
    have HRUN2 := Lib.hid hrun
    clear hrun hs HRUN
    go_wp2_with fail
    refine HRUN2.out.mono ?_
    rintro en w8 ⟨rfl, -, hf8⟩
    have HB8 := Lib.hid (HBELOW.out w8 hf8); have HK8 := Lib.hid (hf8.blk HK7.out HNOW.out)
    clear hf8 HRUN2
    obtain ⟨z_1, T_1, F_1⟩ := HK8.out.open_
    go_wp2_with fail
    refine (HVA.out w8 HB8.out).mono ?_
    rintro en w9 ⟨rfl, hb9⟩
    have HB9 := Lib.hid (HB8.out.next hb9)
    clear T_1 z_1 F_1 hb9
    go_wp2_with fail
    go_ret
    exact ⟨rfl, HB9.out⟩
end Go.Proofs.YtbijhlgdilkopaaDoor
