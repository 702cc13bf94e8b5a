/- The walk of the law ExprgenBack. Printed by gen_eglaw.py. -/
import Derived.Test.YtbijhlgdilkopaaDoorEwX
import Derived.Test.YtbijhlgdilkopaaDoorEvX
import Derived.Test.YtbijhlgdilkopaaDoorCpZ
import Derived.Test.YtbijhlgdilkopaaDoorZEgR5
import Derived.Test.YtbijhlgdilkopaaDoorEuX
set_option linter.unusedVariables false
set_option linter.unusedSimpArgs false
set_option maxRecDepth 100000
set_option maxHeartbeats 4000000
namespace Bk
open Go Go.RowKit
theorem comp_pos (sl : List St4) (cc : Int) (e : Ex) (p : Int) : 0 < (comp sl cc e p).length := by
  cases e <;> simp [comp] <;> omega
theorem Runs.on {l : Prg} {M N : Mach} {n m K : Nat} (h : Runs M n) (hl : Line l) (hs : seqX l M = (0, N)) (hsb : SB K M) (hK : K + l.length ≤ 10000000000) (hm : m ≤ 65536) : Runs N m := by
  obtain ⟨h1, h2, h3, h4, _⟩ := h.next hl hs
  have h5 := seqX_sb l hsb
  rw [hs] at h5
  exact ⟨h1, h2, by rw [h3]; exact h.ml, by rw [h4]; exact h.sl, h5.mono hK, hm⟩
theorem case_sb {vs : List Vr} {cs : List (List Int)} (hf : FitS vs cs) (fp sb : Nat) (regs scr : List Int) (hs50 : scr.length ≤ 50) : SB 1000 (caseM vs cs fp sb regs scr) := by
  have hin : ∀ {vs : List Vr} {cs : List (List Int)}, ∀ l ∈ stkL vs cs, l ∈ cs := by
    intro vs
    induction vs with
    | nil => intro cs x hx; cases cs <;> simp [stkL] at hx
    | cons v vs ih =>
      intro cs x hx
      cases cs with
      | nil => simp [stkL] at hx
      | cons c cs =>
        simp only [stkL, List.mem_append] at hx
        rcases hx with hx | hx
        · split at hx
          · simp at hx; subst hx; exact List.mem_cons_self
          · cases hx
        · exact List.mem_cons_of_mem _ (ih x hx)
  intro l hl
  simp only [caseM, List.mem_cons, List.mem_append, List.mem_map, List.mem_range] at hl
  rcases hl with rfl | ⟨i, _, rfl⟩ | hl
  · omega
  · simp
  · exact hf.len1 _ (hin l hl)
end Bk
namespace Go.Proofs.YtbijhlgdilkopaaDoor
open Go.RowKit Bk
theorem rd_takeC {w : World} {D : Nat → Prop} {A : Option Addr} {n m : Nat} {l : Prg} (h : Rd w D 5 A n (codeCells l)) (hl : l.length = n) (hm : m ≤ n) : Rd w D 5 A m (codeCells (l.take m)) := by
  refine ⟨by rw [codeCells_length, List.length_take]; omega, fun h0 => ?_⟩
  obtain ⟨b, off, rfl, hD, hc⟩ := h.2 (by omega)
  refine ⟨b, off, rfl, hD, fun j u hu => hc j u ?_⟩
  conv => lhs; rw [← List.take_append_drop m l, codeCells_append]
  have hj := (List.getElem?_eq_some_iff.1 hu).1
  rw [List.getElem?_append_left hj]; exact hu
open Go.RowKit Bk
theorem c_lawBack {d : Nat} {x : Nd} {V : Option Addr} {nv cv : Nat} {vs : List Vr} {C : Option Addr} {nc cc : Nat} {cs : List (List Int)} {fp sb : Int} {G : Option Addr} {ng cg : Nat} {regs : List Int} {E : Option Addr} {ne ce : Nat} {scr : List Int} (W : World) (hc : CaseAt W W.heap.size d x V nv vs C nc cs G ng regs E ne ce scr) (hT : TableAt W) (cut : Nat) (hcut : cut ≤ 65535) :
    Calls Tryd.prog 5 #[.agg #[.int .u8 x.k, .int .i64 x.num, .string x.nm, .slice x.A x.n x.cap, .slice V nv cv, .slice C nc cc, .int .i64 fp, .int .i64 sb, .slice G ng cg, .slice E ne ce], .int .u16 (cut : Int)] W fun e w' => e = .returned (.bool true) ∧ Below W.heap.size W w' := by
  have HC := Lib.hid hc; have HT := Lib.hid hT
  have HUS : Hid (∀ W1, Below W.heap.size W W1 → Calls Tryd.prog 9 #[.agg #[.int .u8 x.k, .int .i64 x.num, .string x.nm, .slice x.A x.n x.cap, .slice V nv cv, .slice C nc cc, .int .i64 fp, .int .i64 sb, .slice G ng cg, .slice E ne ce]] W1 fun en w'' => ∃ b, en = .returned (.bool b) ∧ (b = true → ∃ e, Usable W W.heap.size nameB x e vs cs fp sb ne) ∧ Below W1.heap.size W1 w'') := Lib.hid fun W1 h1 => e_usable (Nat.le_refl _) hc W1 h1
  obtain ⟨k, num, nm, A, n, cap⟩ := x
  dsimp only at *
  clear hc hT
  go_enter Tryd.func5, Tryd.ntmps5
  go_upto_region 1 with fail
  refine wp_nameE ?_
  intro w1 hw1
  have hb1 : Below W.heap.size W w1 := by rw [hw1]; exact (by go_grown)
  have K1 : Blk w1 W.heap.size 29 #[.int .u8 k, .int .i64 num, .string nm, .slice A n cap, .slice V nv cv, .slice C nc cc, .int .i64 fp, .int .i64 sb, .slice G ng cg, .slice E ne ce] := by rw [hw1]; exact (by repeat' (first | assumption | exact Blk.new' (by simp) _ _ | apply Blk.alloc | apply Blk.drew))
  have HK1 := Lib.hid K1; have HB1 := Lib.hid hb1
  clear hw1 hb1 K1
  go_wp2_with fail
  refine (e_awake w1 (HT.out.next HB1.out)).mono ?_
  rintro en w2 ⟨rfl, hb2⟩
  have HB2 := Lib.hid (HB1.out.next hb2); have HK2 := Lib.hid (HK1.out.next hb2)
  clear hb2
  obtain ⟨z_1, T_1, F_1⟩ := HK2.out.open_
  go_wp2_with fail
  refine (HUS.out w2 HB2.out).mono ?_
  rintro en w3 ⟨b3, rfl, hus, hb3⟩
  have HB3 := Lib.hid (HB2.out.next hb3); have HK3 := Lib.hid (HK2.out.next hb3); have HUSE := Lib.hid hus
  clear T_1 z_1 F_1 hb3 hus
  obtain ⟨z_1, T_1, F_1⟩ := HK3.out.open_
  cases b3 with
  | false =>
    go_wp2_with fail
    go_ret
    exact ⟨rfl, HB3.out⟩
  | true =>
  obtain ⟨e, hu⟩ := HUSE.out (by first | rfl | trivial)
  clear HUSE HUS
  obtain ⟨fpn, rfl⟩ : ∃ q : Nat, fp = (q : Int) := ⟨fp.toNat, by have := hu.fp; omega⟩
  obtain ⟨sbn, rfl⟩ : ∃ q : Nat, sb = (q : Int) := ⟨sb.toNat, by have := hu.sb; omega⟩
  have hfp : fpn ≤ 20 := by have := hu.fp; omega
  have hsb : sbn ≤ 5 := by have := hu.sb; omega
  have hsum := sums_le vs hu.fits.ok
  have hcl : 0 ≤ cellsOf vs ∧ cellsOf vs ≤ 96 := by have := hu.v6; omega
  have hnv6 : nv ≤ 6 := by have := hu.v6; have := HC.out.vn; omega
  have hne50 : ne ≤ 50 := hu.n50
  have HFR : Hid (∀ W1, Below W.heap.size W W1 → Calls Tryd.prog 10 #[.slice V nv cv] W1 fun en w'' => ∃ u, en = .returned (.agg #[u, .int .i64 (cellsOf vs), .int .i64 (stksOf vs)]) ∧ w''.ownsRow W1.heap.size 75 4 u nv (slotCells (slotsL vs 0 0)) ∧ Below W1.heap.size W1 w'') := Lib.hid fun W1 h1 => e_frame (Nat.le_refl _) V nv cv vs HC.out.v HC.out.vn (by omega) hu.fits.ok W1 h1
  have hok : e.ok := Ex.ok_of e d _ hu.ev HC.out.kv
  have hheld := known_held hu.kn
  have hline : Line (comp (slotsL vs 0 0) (cellsOf vs) e 0) := comp_line (slots_ok hu.fits) hcl.1 e 0 hheld hok (by omega) (by have := hu.dp; omega)
  have hlen := comp_length (slotsL vs 0 0) (cellsOf vs) e 0
  have hsl := slotsL_length vs 0 0
  have hM : Hid (∀ W1, Below W.heap.size W W1 → Calls Tryd.prog 16 #[.agg #[.int .u8 k, .int .i64 num, .string nm, .slice A n cap, .slice V nv cv, .slice C nc cc, .int .i64 (fpn : Int), .int .i64 (sbn : Int), .slice G ng cg, .slice E ne ce]] W1 fun e w'' => ∃ vm vt sv, e = .returned (.agg (mcells (caseM vs cs fpn sbn regs scr) vm vt (.slice none 0 0) (.slice none 0 0) (.slice none 0 0)).toArray) ∧ MOwn w'' W1.heap.size (caseM vs cs fpn sbn regs scr) vm vt (.slice none 0 0) (.slice none 0 0) (.slice none 0 0) sv ∧ Below W1.heap.size W1 w'') :=
    Lib.hid fun W1 h1 => e_machine (Nat.le_refl _) HC.out hu.fits hnv6 hfp hsb hne50 W1 h1
  have hg := case_good hu.fits hu.dist HC.out.ci fpn sbn hfp hsb hu.v6 regs scr HC.out.gi HC.out.ei
  have hrn : Runs (caseM vs cs fpn sbn regs scr) (comp (slotsL vs 0 0) (cellsOf vs) e 0).length := case_runs hu.fits HC.out.ci fpn sbn hfp hsb hu.v6 regs scr HC.out.gi HC.out.ei (by have := HC.out.en; omega) (by have := hu.sz; omega)
  have HVA : Hid (∀ W1, Below W.heap.size W W1 → Calls Tryd.prog 18 #[.agg #[.int .u8 k, .int .i64 num, .string nm, .slice A n cap, .slice V nv cv, .slice C nc cc, .int .i64 (fpn : Int), .int .i64 (sbn : Int), .slice G ng cg, .slice E ne ce]] W1 fun en w'' => en = .returned (.tuple #[.int .i64 (evalE (lookV vs cs) e).1, .int .i64 (evalE (lookV vs cs) e).2]) ∧ Below W1.heap.size W1 w'') := Lib.hid fun W1 h1 => e_valueF (Nat.le_refl _) HC.out hu W1 h1
  have hrun := hg.run hheld hok.nums (by have := hu.dp; omega)
  have hs0 : (caseM vs cs fpn sbn regs scr).stk 0 = scr := rfl
  rw [hs0] at hrun
  have hsc0 : (caseM vs cs fpn sbn regs scr).setS 0 scr = caseM vs cs fpn sbn regs scr := rfl
  have hat0 : (caseM vs cs fpn sbn regs scr).at_ 0 1 = caseM vs cs fpn sbn regs scr := rfl
  have hmss : 1 ≤ (caseM vs cs fpn sbn regs scr).s.length := by simp [caseM]
  have hrev := evalE_range hg.lk e hok.nums
  have hsb3 := case_sb hu.fits fpn sbn regs scr (by have := HC.out.en; omega)
  obtain ⟨M0, hM0⟩ : ∃ M0, caseM vs cs fpn sbn regs scr = M0 := ⟨_, rfl⟩
  obtain ⟨rv, hrv⟩ : ∃ rv, evalE (lookV vs cs) e = rv := ⟨_, rfl⟩
  obtain ⟨l, hl⟩ : ∃ l, comp (slotsL vs 0 0) (cellsOf vs) e 0 = l := ⟨_, rfl⟩
  obtain ⟨sl, hsl0⟩ : ∃ sl, slotsL vs 0 0 = sl := ⟨_, rfl⟩
  obtain ⟨ct, hct⟩ : ∃ ct, cellsOf vs = ct := ⟨_, rfl⟩
  obtain ⟨st, hst⟩ : ∃ st, stksOf vs = st := ⟨_, rfl⟩
  rw [hM0] at hM hg hrn hrun hsc0 hat0 hmss
  rw [hM0] at hsb3
  have HSB := Lib.hid hsb3
  clear hsb3
  rw [hrv] at hrun HVA hrev
  rw [hl] at hline hlen hrn hrun
  have hlp := pushE_length (lookV vs cs) e
  obtain ⟨pu, hpu⟩ : ∃ pu, pushE (lookV vs cs) e = pu := ⟨_, rfl⟩
  rw [hpu] at hrun hlp
  have hbd : MBd M0 := by
    have h := (Runs.fit (l := l) hrn hline (j := 0) (Nat.zero_le _) (N := M0) rfl).2
    rw [show M0.at_ ((0 : Nat) : Int) 1 = M0 from hat0] at h
    exact h
  rw [hsl0] at hl hsl hheld HFR
  rw [hct] at hl hcl HFR
  rw [hst] at HFR
  have HL := Lib.hid hl; have HLINE := Lib.hid hline; have HRUN := Lib.hid hrun; have HAT := Lib.hid hat0; have HSC := Lib.hid hsc0; have HMSS := Lib.hid hmss; have HMBD := Lib.hid hbd
  obtain ⟨nl, hnl⟩ : ∃ nl, l.length = nl := ⟨_, rfl⟩
  rw [hnl] at hrn hlen
  have HNL := Lib.hid hnl; have HRN := Lib.hid hrn; have HLP := Lib.hid hlp
  have hnl2 : nl ≤ 1600 := by have := hu.sz; omega
  have HSZ : Hid (∀ W1, Below W.heap.size W W1 → Calls Tryd.prog 19 #[.agg #[.int .u8 k, .int .i64 num, .string nm, .slice A n cap]] W1 fun en w'' => en = .returned (.int .i64 (e.sz : Int)) ∧ Below W1.heap.size W1 w'') := Lib.hid fun W1 h1 => e_Size (Nat.le_refl _) e (by have := hu.sz; omega) ⟨k, num, nm, A, n, cap⟩ hu.ev W1 h1
  have hsz200 : e.sz ≤ 200 := hu.sz
  have HCW : Hid (∀ wf, Below W.heap.size W wf → ∀ Au cu, SlotsAt wf wf.heap.size Au sl → Calls Tryd.prog 11 #[.agg #[.int .u8 k, .int .i64 num, .string nm, .slice A n cap], .agg #[.slice Au nv cu, .int .i64 ct, .int .i64 st]] wf fun en w'' => ∃ v, en = .returned (.tuple #[v, .int .i64 0]) ∧ w''.ownsRow wf.heap.size 42 5 v nl (codeCells l) ∧ Below wf.heap.size wf w'') := Lib.hid fun wf hwf Au cu hs => by
    have h := e_Compute (w := wf) (B := wf.heap.size) (d := d) (Nat.le_refl _) (F := Au) (nf := nv) (cf := cu) (cc := ct) (ss := st) hcl.1 (by omega) sl hs (by rw [hsl]; exact HC.out.vn) (by omega) e hheld (by have := hu.sz; omega) ⟨k, num, nm, A, n, cap⟩ (EV.up hwf.size _ _ (hu.ev.next hwf)) (KV.up hwf.size _ _ (HC.out.kv.next hwf)) (by have := hu.dp; omega) wf (Below.refl _ _)
    rw [HL.out, HNL.out] at h
    exact h
  have hsn : scr.length = ne := HC.out.en
  have HSN := Lib.hid hsn
  clear hu hsum hok hheld hline hlen hsl hl hsl0 hct hst hnl hcl hfp hsb hg hrn hrun hs0 hsc0 hat0 hmss hM0 hrv hlp hpu hbd hsn hrev
  clear T_1 z_1 F_1 HK1 HK2
  have hnl1 : 1 ≤ nl := by rw [← HNL.out, ← HL.out]; exact comp_pos _ _ _ _
  obtain ⟨z_1, T_1, F_1⟩ := HK3.out.open_
  go_upto_region 5 with fail
  clear T_1 z_1 F_1
  refine wp_region_held_drew (S := fun W => Below w3.heap.size w3 W) (by kernel_rfl) ((Below.refl _ _).drew) (fun hH => ?_)
  refine wpAnyH_take (i := 0) (v := ?_) rfl (by kernel_rfl) (by kernel_rfl) (by kernel_rfl) (fun _ _ _ h => h) (Or.inl ⟨by rfl, ?hy⟩) hH ?_
  case hy => (intro w9_ hS9; clear hS9; go_simp; try with_reducible rfl)
  (try simp only [Bk.PU, Act.put])
  refine wpAnyH_take (i := 1) (v := ?_) rfl (by kernel_rfl) (by kernel_rfl) (by kernel_rfl) (fun _ _ _ h => h) (Or.inl ⟨by rfl, ?hy⟩) hH ?_
  case hy => (intro w9_ hS9; have t := (HK3.out.next hS9).cell; clear hS9; go_simp; try with_reducible rfl)
  (try simp only [Bk.PU, Act.put])
  refine wpAnyH_take (i := 2) (v := ?_) rfl (by kernel_rfl) (by kernel_rfl) (by kernel_rfl) (fun _ _ _ h => h) (Or.inl ⟨by rfl, ?hy⟩) hH ?_
  case hy => (intro w9_ hS9; clear hS9; go_simp; try with_reducible rfl)
  (try simp only [Bk.PU, Act.put])
  refine wpAnyH_take (i := 3) (v := ?_) rfl (by kernel_rfl) (by kernel_rfl) (by kernel_rfl) (fun _ _ _ h => h) (Or.inl ⟨by rfl, ?hy⟩) hH ?_
  case hy => (intro w9_ hS9; have t := (HK3.out.next hS9).cell; clear hS9; go_simp; try with_reducible rfl)
  (try simp only [Bk.PU, Act.put])
  refine wpAnyH_ready (rs := [4]) (by kernel_rfl) (by simp) ?_
  refine AllReadyH.cons rfl (fun K hK => ?_) (AllReadyH.nil)
  go_simp
  refine (HFR.out _ (HB3.out.next hH)).mono ?_
  rintro en wf ⟨u, rfl, hown, hbf⟩
  have hXf := hH.next hbf
  obtain ⟨Au, cu, rfl⟩ := own_form hown
  have HSLO := Lib.hid (SlotsAt.own hown)
  have HXF := Lib.hid hXf
  clear hown hbf
  refine hK.out _ _ hXf (fun hH => ?_)
  clear hH
  have hH := HXF.out
  clear hXf
  clear hK
  (try simp only [Bk.PU, Act.put])
  refine wpAnyH_ready (rs := [5]) (by kernel_rfl) (by simp) ?_
  refine AllReadyH.cons rfl (fun K hK => ?_) (AllReadyH.nil)
  go_simp
  refine (HCW.out wf (HB3.out.next HXF.out) Au cu HSLO.out).mono ?_
  rintro en w4 ⟨v, rfl, hown, hbc⟩
  have hX4 := HXF.out.next hbc
  obtain ⟨Ac, cl, rfl⟩ := own_form hown
  have HOW := Lib.hid hown
  have HX4 := Lib.hid hX4
  clear hown hbc
  refine hK.out _ _ hX4 (fun hH => ?_)
  clear hH
  have hH := HX4.out
  clear hX4
  clear hK
  (try simp only [Bk.PU, Act.put])
  refine wpAnyH_take (i := 6) (v := ?_) rfl (by kernel_rfl) (by kernel_rfl) (by kernel_rfl) (fun _ _ _ h => h) (Or.inl ⟨by rfl, ?hy⟩) hH ?_
  case hy => (intro w9_ hS9; clear hS9; go_simp; try with_reducible rfl)
  (try simp only [Bk.PU, Act.put])
  refine wpAnyH_take (i := 7) (v := ?_) rfl (by kernel_rfl) (by kernel_rfl) (by kernel_rfl) (fun _ _ _ h => h) (Or.inl ⟨by rfl, ?hy⟩) hH ?_
  case hy => (intro w9_ hS9; clear hS9; go_simp; try with_reducible rfl)
  (try simp only [Bk.PU, Act.put])
  refine wpAnyH_take (i := 8) (v := ?_) rfl (by kernel_rfl) (by kernel_rfl) (by kernel_rfl) (fun _ _ _ h => h) (Or.inl ⟨by rfl, ?hy⟩) hH ?_
  case hy => (intro w9_ hS9; clear hS9; go_simp; try with_reducible rfl)
  (try simp only [Bk.PU, Act.put])
  refine wpAnyH_take (i := 9) (v := ?_) rfl (by kernel_rfl) (by kernel_rfl) (by kernel_rfl) (fun _ _ _ h => h) (Or.inl ⟨by rfl, ?hy⟩) hH ?_
  case hy => (intro w9_ hS9; clear hS9; go_simp; try with_reducible rfl)
  (try simp only [Bk.PU, Act.put])
  refine wpAnyH_take (i := 10) (v := ?_) rfl (by kernel_rfl) (by kernel_rfl) (by kernel_rfl) (fun _ _ _ h => h) (Or.inl ⟨by rfl, ?hy⟩) hH ?_
  case hy => (intro w9_ hS9; clear hS9; go_simp; try with_reducible rfl)
  (try simp only [Bk.PU, Act.put])
  refine wpAnyH_done (by kernel_rfl) ?_ _
  generalize w4 = w4 at *
  have HB4 := Lib.hid (HB3.out.next HX4.out); have HK4 := Lib.hid (HK3.out.next HX4.out)
  have hRC := Rd.ofOwnB HOW.out
  have HRC := Lib.hid hRC
  clear hRC hH
  obtain ⟨q, hq⟩ : ∃ q, cut % nl = q := ⟨_, rfl⟩
  have hq1 : q < nl := by rw [← hq]; exact Nat.mod_lt _ (by omega)
  have hrm : Int.tmod (cut : Int) (nl : Int) = (q : Int) := by rw [← hq]; exact (Int.ofNat_tmod _ _).symm
  have hn0 : ¬ (nl : Int) = 0 := by omega
  have hcl1 : nl ≤ cl := by
    obtain ⟨g', cap', ev, _, _, hh, _⟩ := own_some HOW.out (by omega)
    injection ev with ev1 ev2 ev3
    omega
  have hw1 : IntKind.i64.wrap (1 + (q : Int)) = 1 + (q : Int) := wrap_small _ (by omega) (by omega)
  have hw2 : IntKind.i64.wrap (q : Int) = (q : Int) := wrap_small _ (by omega) (by omega)
  have hw3 : IntKind.i64.wrap (cut : Int) = (cut : Int) := wrap_small _ (by omega) (by omega)
  go_upto_region 8 with fail
  go_upto_region 9 with fail
  refine wp_region_pred3 (n := 6) (by kernel_rfl) (by kernel_rfl) (by kernel_rfl) (by kernel_rfl) (PrB (.agg #[.int .u8 k, .int .i64 num, .string nm, .slice A n cap, .slice V nv cv, .slice C nc cc, .int .i64 (fpn : Int), .int .i64 (sbn : Int), .slice G ng cg, .slice E ne ce]) M0) (PrB_next _ _) ?_ ?_
  · intro i o hi ho lo hi2 a Wd Gt
    match i, hi, ho, Gt with
    | 0, _, ho, Gt =>
      obtain rfl := Option.some.inj ho
      exact y_loadC (.tmp 2) rfl W.heap.size _ (eval_tmp ((Gt.o 2 (by kernel_rfl)).trans rfl)) (HK4.out.next Gt.b) rfl
    | 1, _, ho, Gt =>
      obtain rfl := Option.some.inj ho
      obtain ⟨v0, e0, h0⟩ := Gt.p 0 41 (by decide) rfl (by kernel_rfl)
      have h0 := PrB_c (.inl rfl) h0
      subst h0
      refine y_call1 16 (.tmp 41) _ rfl en_mach ?_
      rw [eval_tmp e0]
      refine (hM.out Wd (HB4.out.next Gt.b)).mono ?_
      rintro en w'' ⟨vm, vt, sv, rfl, ho, hb⟩
      exact ⟨_, rfl, ⟨vm, vt, sv, w'', rfl, rfl, ho, Below.refl _ _⟩, hb⟩
    | 2, _, ho, Gt =>
      obtain rfl := Option.some.inj ho
      exact y_loadC (.tmp 2) rfl W.heap.size _ (eval_tmp ((Gt.o 2 (by kernel_rfl)).trans rfl)) (HK4.out.next Gt.b) rfl
    | 3, _, ho, Gt =>
      obtain rfl := Option.some.inj ho
      obtain ⟨v0, e0, h0⟩ := Gt.p 2 43 (by decide) rfl (by kernel_rfl)
      have h0 := PrB_c (.inr rfl) h0
      subst h0
      refine y_call1 16 (.tmp 43) _ rfl en_mach ?_
      rw [eval_tmp e0]
      refine (hM.out Wd (HB4.out.next Gt.b)).mono ?_
      rintro en w'' ⟨vm, vt, sv, rfl, ho, hb⟩
      exact ⟨_, rfl, ⟨vm, vt, sv, w'', rfl, rfl, ho, Below.refl _ _⟩, hb⟩
    | 4, _, ho, Gt =>
      obtain rfl := Option.some.inj ho
      exact y_allocM rfl ⟨rfl, by simp, Blk.new _ _ _⟩
    | 5, _, ho, Gt =>
      obtain rfl := Option.some.inj ho
      exact y_allocM rfl ⟨rfl, by simp, Blk.new _ _ _⟩
  intro o o' ho ho' lo hi2 a Wd Gt
  obtain rfl := Option.some.inj ho
  obtain rfl := Option.some.inj ho'
  obtain ⟨v1, e1, h1⟩ := Gt.p 1 42 (by decide) rfl rfl
  obtain ⟨v3, e3, h3⟩ := Gt.p 3 44 (by decide) rfl rfl
  obtain ⟨v4, e4, h4⟩ := Gt.p 4 7 (by decide) rfl rfl
  obtain ⟨v5, e5, h5⟩ := Gt.p 5 8 (by decide) rfl rfl
  obtain ⟨vm1, vt1, sv1, wq1, s1, rfl, m1, b1⟩ := PrB_m (.inl rfl) h1
  obtain ⟨vm3, vt3, sv3, wq3, s3, rfl, m3, b3⟩ := PrB_m (.inr rfl) h3
  obtain ⟨rfl, q4, k4⟩ := PrB_b (.inl rfl) h4
  obtain ⟨rfl, q5, k5⟩ := PrB_b (.inr rfl) h5
  have i1 := Gt.iv 1 (by decide) rfl; have i3 := Gt.iv 3 (by decide) rfl; have i4 := Gt.iv 4 (by decide) rfl; have i5 := Gt.iv 5 (by decide) rfl
  have d13 := Gt.ap 1 3 (by decide) (by decide) rfl rfl (by decide); have d14 := Gt.ap 1 4 (by decide) (by decide) rfl rfl (by decide); have d15 := Gt.ap 1 5 (by decide) (by decide) rfl rfl (by decide)
  have d34 := Gt.ap 3 4 (by decide) (by decide) rfl rfl (by decide); have d35 := Gt.ap 3 5 (by decide) (by decide) rfl rfl (by decide); have d45 := Gt.ap 4 5 (by decide) (by decide) rfl rfl (by decide)
  have n1 := mc_len M0 vm1 vt1 (.slice none 0 0) (.slice none 0 0) (.slice none 0 0) m1.1
  have n3 := mc_len M0 vm3 vt3 (.slice none 0 0) (.slice none 0 0) (.slice none 0 0) m3.1
  refine wp_store_row 51 (.tmp 7) (.tmp 42) rfl (lo 4) _ (eval_tmp e4) (eval_tmp e1) 51 #[.int .i64 0, .int .i64 0, .int .i64 0, .int .i64 0, .int .i64 0, .int .i64 0, .int .i64 0, .int .i64 0, .int .i64 0, .int .i64 0, .int .i64 0, .int .i64 0, .int .i64 0, .int .i64 0, .int .i64 0, .int .i64 0, .int .i64 0, .int .i64 0, .slice none 0 0, .slice none 0 0, .slice none 0 0, .int .i64 0, .int .i64 0, .slice none 0 0, .slice none 0 0] k4 (by rw [info_mach25E]; simp [n1]) (by simp [n1]) (mown_one m1) ?_
  refine wp_store_row 51 (.tmp 8) (.tmp 44) rfl (lo 5) _ (eval_tmp e5) (eval_tmp e3) 51 #[.int .i64 0, .int .i64 0, .int .i64 0, .int .i64 0, .int .i64 0, .int .i64 0, .int .i64 0, .int .i64 0, .int .i64 0, .int .i64 0, .int .i64 0, .int .i64 0, .int .i64 0, .int .i64 0, .int .i64 0, .int .i64 0, .int .i64 0, .int .i64 0, .slice none 0 0, .slice none 0 0, .slice none 0 0, .int .i64 0, .int .i64 0, .slice none 0 0, .slice none 0 0] ((setRow_other _ _ _ _ (by omega)).trans k5) (by rw [info_mach25E]; simp [n3]) (by simp [n3]) (mown_one m3) ?_
  have hGb := Gt.b
  obtain ⟨w9, hw9⟩ : ∃ w', w' = (Wd.setRow (lo 4) (mcells M0 vm1 vt1 (.slice none 0 0) (.slice none 0 0) (.slice none 0 0)).toArray).setRow (lo 5) (mcells M0 vm3 vt3 (.slice none 0 0) (.slice none 0 0) (.slice none 0 0)).toArray := ⟨_, rfl⟩
  obtain ⟨gm9, gs9, htw9, hbt9⟩ := two_mach m1 b1 m3 b3 k4 k5 q4 q5 (B := w4.heap.size) (by omega) (by omega) i4.1 i5.1 (by omega) (by omega) (by omega) (by omega) (by omega) (by omega) w9 hw9
  have HPQ9 := Lib.hid (hGb.trans (hbt9 hGb.size))
  rw [← hw9]
  have HTW9 := Lib.hid htw9
  have hact := Gt.act.act [41, 42, 43, 44, 7, 8] (by kernel_rfl)
  have g4 : a.tmps.getD 7 undef = .pointer (some ⟨lo 4, 0, none⟩) := by simp [Array.getD_eq_getD_getElem?, e4]
  have g5 : a.tmps.getD 8 undef = .pointer (some ⟨lo 5, 0, none⟩) := by simp [Array.getD_eq_getD_getElem?, e5]
  change Exit.then _ _ .normal a _
  rw [hact]
  simp only [putAll, List.foldl_cons, List.foldl_nil, List.setIfInBounds_toArray, List.set_cons_succ, List.set_cons_zero]
  rw [g4, g5]
  clear hw9 htw9 hbt9 hact g4 g5 e1 e3 e4 e5 h1 h3 h4 h5 m1 m3 b1 b3 s1 s3 k4 k5 q4 q5 i1 i3 i4 i5 d13 d14 d15 d34 d35 d45 n1 n3 hGb ho ho' Gt
  generalize a.tmps.getD 41 undef = u41
  generalize a.tmps.getD 42 undef = u42
  generalize a.tmps.getD 43 undef = u43
  generalize a.tmps.getD 44 undef = u44
  generalize lo 4 = b9 at *
  generalize lo 5 = c9 at *
  generalize lo 1 = lo9 at *
  clear a lo hi2
  have HB9 := Lib.hid (HB4.out.next HPQ9.out); have HK9 := Lib.hid (HK4.out.next HPQ9.out)
  have tb := HTW9.out.b
  have hz4 := HB4.out.size; have hzK := HK4.out.lt
  obtain ⟨rv1, rv2⟩ := rv
  dsimp only at HRUN HVA
  have hql : 1 + q ≤ nl := by omega
  have hll : (l.take (1 + q)).length = 1 + q := by rw [List.length_take, HNL.out]; omega
  have hEnv9 : Env w9 ⟨b9, 51, [], [], 0, gm9, gs9, (· < lo9)⟩ Ac (1 + q) (l.take (1 + q)) :=
    Env.next (w := w4) ⟨(rd_takeC HRC.out HNL.out hql).mono fun k hk => ⟨hk.2, by rintro (e | e | e) <;> (dsimp only at e; have := hk.2; omega)⟩, (HLINE.out.take _).wf, HT.out.next HB4.out, by have := HT.out.lt; rintro (e | e | e) <;> (dsimp only at e; omega), by omega⟩ HPQ9.out
  have hr0 := HRN.out
  have hrq : Runs M0 (1 + q) := ⟨hr0.ok, hr0.cl, hr0.ml, hr0.sl, hr0.sb, by omega⟩
  have hrun := e_run HTW9.out.m cl hEnv9 (HLINE.out.take _) hrq
  have HNO : Hid (∀ k, k < w4.heap.size → ¬ Pl.O ⟨b9, 51, [], [], 0, gm9, gs9, (· < lo9)⟩ k) := Lib.hid fun k hk => by rintro (e | e | e) <;> (dsimp only at e; omega)
  have HNG : Hid (∀ k, Pl.O ⟨b9, 51, [], [], 0, gm9, gs9, (· < lo9)⟩ k → W.heap.size ≤ k) := Lib.hid fun k hk => by rcases hk with e | e | e <;> (dsimp only at e; omega)
  obtain ⟨⟨er, N⟩, hsq⟩ : ∃ r, seqX (l.take (1 + q)) M0 = r := ⟨_, rfl⟩
  rw [hsq] at hrun
  dsimp only at hrun
  by_cases h0 : er = 0
  · subst h0
    have hk := seqX_keep (l.take (1 + q)) M0 (by rw [hsq])
    rw [hsq] at hk
    have hp0 : M0.pc = 0 ∧ M0.dir = 1 := by have h := HAT.out; rw [← h]; exact ⟨rfl, rfl⟩
    have hNat : N.at_ 0 1 = N := by
      have h1 : N.pc = 0 := hk.1.trans hp0.1
      have h2 : N.dir = 1 := hk.2.1.trans hp0.2
      have h3 := at_self N
      rw [h1, h2] at h3; exact h3
    have hrN : Runs N (1 + q) := hr0.on (HLINE.out.take _) hsq HSB.out (by omega) (by omega)
    have hun := (seqX_undo _ (HLINE.out.take (1 + q)) M0 N hr0.ok hsq).2
    have HSQ := Lib.hid hsq; have HNAT := Lib.hid hNat; have HRNN := Lib.hid hrN; have HUN := Lib.hid hun; have HRUN2 := Lib.hid hrun; have HLL := Lib.hid hll
    have HRC9 : Hid (Rd w4 (· < w4.heap.size) 5 Ac (1 + q) (codeCells (l.take (1 + q)))) := Lib.hid ((rd_takeC HRC.out HNL.out hql).mono fun k hk => hk.2)
    clear hk hp0 hNat hrN hun hsq hrun hrq hr0 hEnv9 hll HRUN HVA HSZ HCW HOW
    go_wp2_with fail
    refine HRUN2.out.mono ?_
    rintro en w10 ⟨rfl, hm10, hf10⟩
    have hm10 := hm10 (by first | trivial | rfl)
    rw [HNAT.out] at hm10
    have HM10 := Lib.hid hm10; have HF10 := Lib.hid hf10
    have HB10 := Lib.hid (HB9.out.trans (hf10.below (B := W.heap.size) (by have := HB9.out.size; omega) HNG.out))
    have HRC10 : Hid (Rd w10 (fun k => k < w10.heap.size ∧ ¬ Pl.O ⟨b9, 51, [], [], 0, gm9, gs9, (· < lo9)⟩ k) 5 Ac (1 + q) (codeCells (l.take (1 + q)))) := Lib.hid (by
      have h9 : Rd w9 (· < w4.heap.size) 5 Ac (1 + q) (codeCells (l.take (1 + q))) := HRC9.out.keep fun b o hd => HPQ9.out.cell (p := ⟨b, o, none⟩) hd
      have z9 := HPQ9.out.size; have z10 := HF10.out.size
      exact (h9.keep fun b o hd => HF10.out.cell (by omega) (HNO.out _ hd) o).mono fun k hk => ⟨by omega, HNO.out _ hk⟩)
    clear hm10 hf10 HRUN2
    go_wp2_with fail
    refine (e_Uncompute Ac (1 + q) cl (l.take (1 + q)) (HRC10.out.mono fun k hk => hk.1) (HLINE.out.take _).wf (by omega)).mono ?_
    rintro en w11 ⟨v11, rfl, ho11, hb11⟩
    obtain ⟨Au11, cu11, rfl⟩ := own_form ho11
    have hRd11 := Rd.ofOwnB ho11
    have z9 := HPQ9.out.size; have z10 := HF10.out.size; have z11 := hb11.size
    have ltb : b9 < w9.heap.size ∧ gm9 < w9.heap.size ∧ gs9 < w9.heap.size := by
      obtain ⟨_, _, _, _, _, _, hh⟩ := HTW9.out.m
      exact ⟨hh.lt, hh.gm, hh.gs⟩
    have hEnv11 : Env w11 ⟨b9, 51, [], [], 0, gm9, gs9, (· < lo9)⟩ Au11 (1 + q) (unl (l.take (1 + q))) :=
      ⟨hRd11.mono fun k hk => ⟨hk.2, by rintro (e | e | e) <;> (dsimp only at e; have := hk.1; omega)⟩, (HLINE.out.take _).unl.wf, HT.out.next (HB10.out.next hb11), by have := HT.out.lt; rintro (e | e | e) <;> (dsimp only at e; omega), by rw [unl_length, HLL.out]; omega⟩
    have HB11 := Lib.hid (HB10.out.next hb11)
    have hrun := e_run (HM10.out.next hb11) cu11 hEnv11 (HLINE.out.take _).unl HRNN.out
    rw [HUN.out] at hrun
    dsimp only at hrun
    have HRUN2 := Lib.hid hrun
    have HX11 := Lib.hid hb11
    clear hrun hEnv11 hRd11 ho11 hb11 z11
    go_wp2_with fail
    refine HRUN2.out.mono ?_
    rintro en w12 ⟨rfl, hm12, hf12⟩
    have hm12 := hm12 (by first | trivial | rfl)
    rw [HAT.out] at hm12
    obtain ⟨D, vm, vs_, vc, vi, vo, sv, hr9, e1, e2, e3, hD⟩ := HTW9.out.r
    have no1 : ¬ Pl.O ⟨b9, 51, [], [], 0, gm9, gs9, (· < lo9)⟩ c9 := by rintro (e | e | e) <;> (dsimp only at e; omega)
    have no2 : ∀ k, D k → ¬ Pl.O ⟨b9, 51, [], [], 0, gm9, gs9, (· < lo9)⟩ k := fun k hk => by have := hD k hk; rintro (e | e | e) <;> (dsimp only at e; omega)
    have hr12 := ((hr9.fr HF10.out no1 no2).next HX11.out).fr hf12 no1 no2
    obtain ⟨_, _, _, _, _, _, hm12⟩ := hm12
    have HB12 := Lib.hid (HB11.out.trans (hf12.below (B := W.heap.size) (by have := HB11.out.size; omega) HNG.out))
    have HEQ := Lib.hid (c_EqualT hm12.rd hr12 HMBD.out)
    clear hm12 hr12 hr9 hf12 no1 no2 hD e1 e2 e3 HRUN2
    go_wp2_with fail
    refine HEQ.out.mono ?_
    rintro en w13 ⟨rfl, hb13⟩
    have HFIN := Lib.hid (HB12.out.next hb13)
    clear hb13 HEQ
    go_wp2_with fail
    go_ret
    exact ⟨rfl, HFIN.out⟩
  · have htk := seqX_take (l := l) (M := M0) (1 + q)
    rw [hsq] at htk
    have hle := htk h0
    have hrv : rv2 = er := by
      by_cases h2 : rv2 = 0
      · have h3 := HRUN.out.2 h2
        rw [hle] at h3
        injection h3 with h3 _
        exact absurd h3 h0
      · have h3 := HRUN.out.1 h2
        rw [hle] at h3
        exact h3.symm
    subst hrv
    have HRUN2 := Lib.hid hrun
    clear hrun htk hle hsq hrq hr0 hEnv9 hll HRUN HSZ HCW HOW
    go_wp2_with fail
    refine HRUN2.out.mono ?_
    rintro en w10 ⟨rfl, -, hf10⟩
    have HB10 := Lib.hid (HB9.out.trans (hf10.below (B := W.heap.size) (by have := HB9.out.size; omega) HNG.out)); have HK10 := Lib.hid (hf10.blk HK9.out (HNO.out _ (by omega)))
    clear hf10 HRUN2
    obtain ⟨z_1, T_1, F_1⟩ := HK10.out.open_
    go_wp2_with fail
    refine (HVA.out w10 HB10.out).mono ?_
    rintro en w11 ⟨rfl, hb11⟩
    have HB11 := Lib.hid (HB10.out.next hb11)
    clear T_1 z_1 F_1 hb11
    go_wp2_with fail
    go_ret
    exact ⟨rfl, HB11.out⟩
end Go.Proofs.YtbijhlgdilkopaaDoor
