/- The store's execute: pushes, pops, the tape. Printed by gen_whek.py. -/
import Derived.Test.YtakfdnnlhjhcfaaGreatDoorM19
set_option linter.unusedVariables false
set_option linter.unusedSimpArgs false
set_option maxRecDepth 100000
set_option maxHeartbeats 4000000
namespace Bk
def mvQ (op : Int) (σ : PSt) (c1 i : Nat) (l1 : List Int) (c2 : Nat) (l2 : List Int) : Rs :=
  if op = 44 then (if 1000 ≤ l2.length then .error 5 else .ok { σ with cells := (σ.cells.set c2 (l2 ++ [l1.getD i 0])).set c1 (l1.set i 0) })
  else if l2.length = 0 then .error 13 else if l1.getD i 0 ≠ 0 then .error 14 else .ok { σ with cells := (σ.cells.set c1 (l1.set i (l2.getLastD 0))).set c2 l2.dropLast }
def retI (q : Rs) : Int := match q with | .error x => x | .ok _ => 0
end Bk
namespace Go.Proofs.YtakfdnnlhjhcfaaGreatDoor
open Go.RowKit Bk
theorem RetS.ret {B : Nat} {S : Sv} {w : World} {q : Rs} {e : Ending} {w' : World} (h : RetS B S w q e w') : e = .returned (.int .i64 (retI q)) ∧ Fr S.O w w' := by
  cases q with
  | error x => exact ⟨h.1, h.2.2⟩
  | ok σ => exact ⟨h.1, h.2.2⟩
theorem RetS.pre {B : Nat} {S : Sv} {w w1 : World} {q : Rs} {e : Ending} {w' : World} (hb : Below w.heap.size w w1) (h : RetS B S w1 q e w') : RetS B S w q e w' := by
  cases q with
  | error x => exact ⟨h.1, h.2.1, (Fr.of hb).trans h.2.2⟩
  | ok σ =>
    obtain ⟨h1, ⟨S', r1, r2⟩, h3⟩ := h
    exact ⟨h1, ⟨S', r1, r2.1, fun k hk => r2.2 k (Nat.lt_of_lt_of_le hk hb.size)⟩, (Fr.of hb).trans h3⟩
section
variable {w : World} {B d : Nat} {S : Sv} {σ : PSt} {kd : Nat → Int} {m : Nat}
theorem c_moveQ (h : SOn w B S σ) (hB : B ≤ w.heap.size) {op : Int} (hop : op = 44 ∨ op = 45) {c1 c2 i g cp : Nat} {l1 l2 : List Int} (hc1 : σ.cells[c1]? = some l1) (hc2 : σ.cells[c2]? = some l2) (hne : c1 ≠ c2) (he : S.iv c1 = .slice (some ⟨g, 0, none⟩) l1.length cp) (hi : i < l1.length) (hn : l2.length ≤ 1000) :
    Calls Tryz.prog 161 #[.int .u8 op, .pointer (some ⟨g, i, none⟩), .pointer (some ⟨S.cb c2, 0, none⟩)] w fun e w' => RetS B S w (mvQ op σ c1 i l1 c2 l2) e w' := by
  have hcell := h.cells c2 l2 hc2
  have hb := hcell.blk
  obtain ⟨A, cp2, e2⟩ := own_form hcell.own
  rw [e2] at hb
  unfold mvQ
  rcases hop with rfl | rfl
  · rw [if_pos rfl]
    by_cases h1 : 1000 ≤ l2.length
    · rw [if_pos h1]
      exact (c_pushF hb h1).mono fun e w' h => ⟨h.1, by decide, Fr.of h.2⟩
    · rw [if_neg h1]
      exact (c_push h hB hc1 hc2 hne he hi (by omega)).mono fun e w' h => ⟨h.1, h.2.1, h.2.2⟩
  · rw [if_neg (by decide)]
    by_cases h1 : l2.length = 0
    · rw [if_pos h1]
      rw [h1] at hb
      exact (c_popE hb).mono fun e w' h => ⟨h.1, by decide, Fr.of h.2⟩
    · rw [if_neg h1]
      by_cases h2 : l1.getD i 0 = 0
      · rw [if_neg (by omega)]
        exact (c_pop h hB hc1 hc2 hne he hi (by omega) hn h2).mono fun e w' h => ⟨h.1, h.2.1, h.2.2⟩
      · rw [if_pos h2]
        obtain ⟨g', cp', e', _, _, hgc, _⟩ := h.place hc1 hi
        rw [he] at e'
        injection e' with e' _ _
        injection e' with e'
        injection e' with e' _ _
        subst e'
        exact (c_popC hb (by omega) hgc h2).mono fun e w' h => ⟨h.1, by decide, Fr.of h.2⟩
theorem ex_stk (h : SOn w B S σ) (hB : B ≤ w.heap.size) (ho : σ.Ok kd m) (hm : m ≤ 10000) {x y : Nd} {op : Int} (hk : x.k = op) (hop : op = 44 ∨ op = 45) (hn : x.n = 1) (hky : Kid w w.heap.size x 0 y) {p : Ex} (hp : p.isPl) (hy : EV w w.heap.size nameB p y) (hvy : KV w w.heap.size d y) (hf : faultE σ.cur.vars p = 0) (hf2 : useE σ.cur.vars x.nm 3 = 0) :
    ∃ (j : Int × Nat) (c : Nat) (l : List Int) (c2 : Nat) (l2 : List Int), PlS σ kd p.nam j.1 j.2 c l ∧ PlS σ kd x.nm 3 (findI x.nm σ.cur.vars).toNat c2 l2 ∧ c ≠ c2 ∧
    Calls Tryz.prog 137 #[.pointer (some ⟨S.st, 0, none⟩), .agg #[.int .u8 x.k, .int .i64 x.num, .string x.nm, .slice x.A x.n x.cap]] w fun en w' => RetS B S w (placeM σ p (0, 0) fun i _ => mvQ op σ c i l c2 l2) en w' := by
  obtain ⟨pk, hpk, hu⟩ := faultE_pl hp hf
  obtain ⟨j, c, l, hpl⟩ := ho.pls hu
  have HL := h.lkL ho hm
  have HIX := Lib.hid (fun W hW => e_IndexG (Nat.le_refl _) HL p y hy hp hvy W hW)
  have HCL := Lib.hid (fun W (hW : Below w.heap.size w W) => c_cell (h.next hW) ho hm hpl.find hpl.idx)
  have HNM := hy.nam hp
  rw [← HNM] at HCL
  clear HNM
  obtain ⟨j2, c2, l2, hpl2⟩ := ho.pls hf2
  have hcc : c ≠ c2 := fun e => by have h1 := hpl.kd; have h2 := hpl2.kd; rw [e, h2] at h1; omega
  refine ⟨(pk, j), c, l, c2, l2, hpl, by rw [findI_some hpl2.find]; exact hpl2, hcc, ?_⟩
  have HCL2 := Lib.hid (fun W (hW : Below w.heap.size w W) => c_cell (h.next hW) ho hm hpl2.find hpl2.idx)
  unfold placeM
  rw [hpl.len]
  obtain ⟨ix, hix⟩ : ∃ ix, indexE σ.look p = ix := ⟨_, rfl⟩
  rw [hix] at HIX ⊢
  obtain ⟨ri, re⟩ := ix
  dsimp only at *
  obtain ⟨q, hq⟩ : ∃ q : Rs, (if re ≠ 0 then .error re else if (0 : Int) ≠ 0 then .error 0 else if ri < 0 ∨ (l.length : Int) ≤ ri then .error 12 else mvQ op σ c ri.toNat l c2 l2) = q := ⟨_, rfl⟩
  rw [hq]
  have HQ := Lib.hid hq
  have hPL2 := hpl2.cell; have hml2 := hpl2.ml
  have hcell := h.cells c l hpl.cell
  have HPL := Lib.hid hpl
  obtain ⟨gk, ok, hA, hc0⟩ := Kid.at2 hky
  rw [Nat.zero_mul, Nat.add_zero] at hc0
  have HC0 := Lib.hid hc0; have H := Lib.hid h
  have HCB := Lib.hid hcell.blk
  obtain ⟨A1, cp1, e1⟩ := own_form hcell.own
  rw [e1] at HCB
  have HE1 := Lib.hid e1
  have hml := hpl.ml
  have HPC : Hid (∀ i, i < l.length → ∃ g cp, S.iv c = .slice (some ⟨g, 0, none⟩) l.length cp ∧ g < w.heap.size ∧ S.ro g = .items c ∧ w.cell? ⟨g, i, none⟩ = some (.int .i64 (l.getD i 0)) ∧ w.frozen? ⟨g, i, none⟩ = false) := Lib.hid fun i hi => h.place hpl.cell hi
  have HRN : Hid (¬ S.O w.heap.size) := Lib.hid fun e => by have := (h.new _ e).2; omega
  have HMV0 : Hid (∀ i g cp, i < l.length → S.iv c = .slice (some ⟨g, 0, none⟩) l.length cp → ∀ W, Below w.heap.size w W → Calls Tryz.prog 161 #[.int .u8 op, .pointer (some ⟨g, i, none⟩), .pointer (some ⟨S.cb c2, 0, none⟩)] W fun e w' => e = .returned (.int .i64 (retI (mvQ op σ c i l c2 l2))) ∧ RetS B S w (mvQ op σ c i l c2 l2) e w' ∧ Fr S.O W w') := Lib.hid fun i g cp hi he W hW => (c_moveQ (h.next hW) (Nat.le_trans hB hW.size) hop hpl.cell hPL2 hcc he hi hml2).mono fun e w' hr => ⟨hr.ret.1, hr.pre hW, hr.ret.2⟩
  clear hq hpl hpl2 hcell HL h hky hy hvy ho hu hf hf2 e1 hix hc0 hPL2
  obtain ⟨k, num, nm, A, n, cap⟩ := x
  obtain ⟨yk, ynum, ynm, yA, yn, ycap⟩ := y
  dsimp only at *
  subst hA
  have q0 : (0 : Int) < (n : Int) := by omega
  subst hk
  have k40 : (k == 40) = false := beq_eq_false_iff_ne.2 (by omega)
  have k41 : (k == 41) = false := beq_eq_false_iff_ne.2 (by omega)
  have k42 : (k == 42) = false := beq_eq_false_iff_ne.2 (by omega)
  have k43 : (k == 43) = false := beq_eq_false_iff_ne.2 (by omega)
  have k45 : (k == 44) = true ∨ (k == 44) = false ∧ (k == 45) = true := by
    rcases hop with h | h <;> subst h <;> simp
  clear hop hn
  by_cases h1 : re = 0
  rotate_left
  · have hne : (re != 0) = true := bne_iff_ne.2 h1
    go_enter Tryz.func137, Tryz.ntmps137
    go_upto_region 1 with fail; refine wp_nameE ?_; intro w1 hw1; have hb1 : Below w.heap.size w w1 := (by rw [hw1]; exact (by go_grown)); have K1 : Blk w1 w.heap.size 26 #[.int .u8 k, .int .i64 num, .string nm, .slice (some ⟨gk, ok, none⟩) n cap] := (by rw [hw1]; exact blkA); have HK1 := Lib.hid K1; have HB1 := Lib.hid hb1; clear hw1 hb1; obtain ⟨z_1, T_1, F_1⟩ := K1.open_; clear K1; obtain ⟨c0, c1, c2, c3⟩ := HC0.out _ HB1.out
    go_wp2_with fail
    refine (HIX.out w1 HB1.out).mono ?_
    rintro en w2 ⟨rfl, hb2⟩; have HB2 := Lib.hid (HB1.out.next hb2); have HK2 := Lib.hid (HK1.out.next hb2); clear T_1 z_1 F_1 hb2 c0 c1 c2 c3; obtain ⟨z_1, T_1, F_1⟩ := HK2.out.open_
    go_wp2_with fail
    go_ret
    rw [← HQ.out, if_pos h1]
    exact ⟨rfl, h1, Fr.of HB2.out⟩
  subst h1
  by_cases h3 : ri < 0 ∨ (l.length : Int) ≤ ri
  · have HR12 : Hid (q = .error 12) := Lib.hid (by rw [← HQ.out]; simp only [ne_eq, not_true_eq_false, if_false, if_pos h3])
    have hd3 : ri < 0 ∨ ¬ ri < 0 ∧ decide ((l.length : Int) ≤ ri) = true := by
      rcases h3 with h | h
      · exact .inl h
      · by_cases h4 : ri < 0
        · exact .inl h4
        · exact .inr ⟨h4, by simpa using h⟩
    clear h3
    go_enter Tryz.func137, Tryz.ntmps137
    go_upto_region 1 with fail; refine wp_nameE ?_; intro w1 hw1; have hb1 : Below w.heap.size w w1 := (by rw [hw1]; exact (by go_grown)); have K1 : Blk w1 w.heap.size 26 #[.int .u8 k, .int .i64 num, .string nm, .slice (some ⟨gk, ok, none⟩) n cap] := (by rw [hw1]; exact blkA); have HK1 := Lib.hid K1; have HB1 := Lib.hid hb1; clear hw1 hb1; obtain ⟨z_1, T_1, F_1⟩ := K1.open_; clear K1; obtain ⟨c0, c1, c2, c3⟩ := HC0.out _ HB1.out
    go_wp2_with fail
    refine (HIX.out w1 HB1.out).mono ?_
    rintro en w2 ⟨rfl, hb2⟩; have HB2 := Lib.hid (HB1.out.next hb2); have HK2 := Lib.hid (HK1.out.next hb2); clear T_1 z_1 F_1 hb2 c0 c1 c2 c3; obtain ⟨z_1, T_1, F_1⟩ := HK2.out.open_
    obtain ⟨c0, c1, c2, c3⟩ := HC0.out _ HB2.out
    go_wp2_with fail
    refine (HCL.out w2 HB2.out).mono ?_
    rintro en w3 ⟨rfl, hb3⟩; have HB3 := Lib.hid (HB2.out.next hb3); have HK3 := Lib.hid (HK2.out.next hb3); clear T_1 z_1 F_1 hb3; (try clear c0 c1 c2 c3); obtain ⟨z_1, T_1, F_1⟩ := HK3.out.open_
    have e0 := (HCB.out.next HB3.out).cell 0
    rcases hd3 with hd3 | ⟨hd3, hd4⟩
    all_goals
      go_wp2_with fail
      go_ret
      rw [HR12.out]
      exact ⟨rfl, by decide, Fr.of HB3.out⟩
  obtain ⟨i, rfl⟩ : ∃ i : Nat, ri = (i : Int) := ⟨ri.toNat, by omega⟩
  have hi : i < l.length := by omega
  obtain ⟨g, cp, he, hgl, hgr, hgc, hgf⟩ := HPC.out i hi
  have HHE := Lib.hid he
  rw [HE1.out] at he
  injection he with he _ hcp
  subst he; subst hcp
  have j0 : (0 : Int) ≤ (i : Int) := by omega
  have j1 : (i : Int) < (l.length : Int) := by omega
  have j2 : ¬ ((i : Int) < 0) := by omega
  have j3 : ¬ ((l.length : Int) ≤ (i : Int)) := by omega
  have HJ3 := Lib.hid h3; have HI := Lib.hid hi
  clear hgc hgf h3 hi
  have HRQ : Hid (q = mvQ k σ c i l c2 l2) := Lib.hid (by rw [← HQ.out]; simp only [ne_eq, not_true_eq_false, if_false, if_neg HJ3.out, Int.toNat_natCast])
  have HMV := Lib.hid (HMV0.out i g cp1 HI.out HHE.out)
  rw [← HRQ.out] at HMV
  obtain ⟨r0, hr0⟩ : ∃ r0, retI q = r0 := ⟨_, rfl⟩
  rw [hr0] at HMV
  clear hr0 HMV0 HQ
  generalize S.cb c2 = b2 at *
  rcases k45 with k44 | ⟨k44, k45⟩
  all_goals
    go_enter Tryz.func137, Tryz.ntmps137
    go_upto_region 1 with fail; refine wp_nameE ?_; intro w1 hw1; have hb1 : Below w.heap.size w w1 := (by rw [hw1]; exact (by go_grown)); have K1 : Blk w1 w.heap.size 26 #[.int .u8 k, .int .i64 num, .string nm, .slice (some ⟨gk, ok, none⟩) n cap] := (by rw [hw1]; exact blkA); have HK1 := Lib.hid K1; have HB1 := Lib.hid hb1; clear hw1 hb1; obtain ⟨z_1, T_1, F_1⟩ := K1.open_; clear K1; obtain ⟨c0, c1, c2, c3⟩ := HC0.out _ HB1.out
    go_wp2_with fail
    refine (HIX.out w1 HB1.out).mono ?_
    rintro en w2 ⟨rfl, hb2⟩; have HB2 := Lib.hid (HB1.out.next hb2); have HK2 := Lib.hid (HK1.out.next hb2); clear T_1 z_1 F_1 hb2 c0 c1 c2 c3; obtain ⟨z_1, T_1, F_1⟩ := HK2.out.open_
    obtain ⟨c0, c1, c2, c3⟩ := HC0.out _ HB2.out
    go_wp2_with fail
    refine (HCL.out w2 HB2.out).mono ?_
    rintro en w3 ⟨rfl, hb3⟩; have HB3 := Lib.hid (HB2.out.next hb3); have HK3 := Lib.hid (HK2.out.next hb3); clear T_1 z_1 F_1 hb3; (try clear c0 c1 c2 c3); obtain ⟨z_1, T_1, F_1⟩ := HK3.out.open_
    have e0 := (HCB.out.next HB3.out).cell 0
    go_wp2_with fail
    refine wp_region_held_drew (S := fun W => Fr S.O w3 W) (by kernel_rfl) ((Fr.refl _ _).drew) (fun hH => ?_)
    refine wpAnyH_atN ?_
    intro wa hwa
    have hX : Below w3.heap.size w3 wa := by rw [hwa]; exact (Below.refl _ _).drew
    replace hH : Fr S.O w3 wa := Fr.of hX
    clear hwa
    refine tkQ 0 (v := ?_) rfl hH ?_
    (try simp only [PU, Act.put])
    refine tkK 1 (v := ?_) rfl ?hy hH ?_
    case hy => (intro w9_ hS9; have t := (hS9.blk HK3.out HRN.out).cell; clear hS9; go_simp; try with_reducible rfl)
    (try simp only [PU, Act.put])
    refine tkQ 2 (v := ?_) rfl hH ?_
    (try simp only [PU, Act.put])
    refine tkQ 3 (v := ?_) rfl hH ?_
    (try simp only [PU, Act.put])
    refine tkQ 4 (v := ?_) rfl hH ?_
    (try simp only [PU, Act.put])
    refine tkK 5 (v := ?_) rfl ?hy hH ?_
    case hy => (intro w9_ hS9; have t := (hS9.blk HK3.out HRN.out).cell; clear hS9; go_simp; try with_reducible rfl)
    (try simp only [PU, Act.put])
    refine nxH 6 (by kernel_rfl) rfl (fun K hK => ?_)
    go_simp
    refine (HCL2.out _ (HB3.out.next hX)).mono ?_
    rintro en wb ⟨rfl, hbn⟩
    replace hX := hX.next hbn
    refine hK.out _ _ (Fr.of hX) (fun hH => ?_)
    clear hK
    (try simp only [PU, Act.put])
    clear hbn
    refine nxH 7 (by kernel_rfl) rfl (fun K hK => ?_)
    go_simp
    refine (HMV.out _ (HB3.out.next hX)).mono ?_
    rintro en wc ⟨rfl, hret, hfr⟩
    refine hK.out _ _ ((Fr.of hX).trans hfr) (fun hH => ?_)
    clear hK
    (try simp only [PU, Act.put])
    refine tkQ 8 (v := ?_) rfl hH ?_
    (try simp only [PU, Act.put])
    refine wpAnyH_done (by kernel_rfl) ?_ _
    have HRET := Lib.hid hret
    clear hX hH hret hfr T_1 z_1 F_1
    go_wp2_with fail
    go_ret
    exact HRET.out
theorem c_transQ (h : SOn w B S σ) (hB : B ≤ w.heap.size) (hi4 : σ.inp.length ≤ 4096) (ho4 : σ.out.length ≤ 4096) {op : Int} (hop : op = 46 ∨ op = 47 ∨ op = 48 ∨ op = 49) {c i g cp : Nat} {l : List Int} (hc : σ.cells[c]? = some l) (he : S.iv c = .slice (some ⟨g, 0, none⟩) l.length cp) (hi : i < l.length) :
    Calls Tryz.prog 162 #[.pointer (some ⟨S.st, 0, none⟩), .int .u8 op, .pointer (some ⟨g, i, none⟩)] w fun e w' => RetS B S w (tapQ op σ c i l) e w' := by
  rcases hop with rfl | rfl | rfl | rfl
  · exact c_read h hB hi4 ho4 hc he hi
  · exact c_unread h hB hi4 ho4 hc he hi
  · exact c_write h hB hi4 ho4 hc he hi
  · exact c_unwrite h hB hi4 ho4 hc he hi
theorem ex_tap (h : SOn w B S σ) (hB : B ≤ w.heap.size) (ho : σ.Ok kd m) (hm : m ≤ 10000) {x y : Nd} {op : Int} (hk : x.k = op) (hop : op = 46 ∨ op = 47 ∨ op = 48 ∨ op = 49) (hn : x.n = 1) (hky : Kid w w.heap.size x 0 y) {p : Ex} (hp : p.isPl) (hy : EV w w.heap.size nameB p y) (hvy : KV w w.heap.size d y) (hf : faultE σ.cur.vars p = 0) :
    ∃ (j : Int × Nat) (c : Nat) (l : List Int), PlS σ kd p.nam j.1 j.2 c l ∧
    Calls Tryz.prog 137 #[.pointer (some ⟨S.st, 0, none⟩), .agg #[.int .u8 x.k, .int .i64 x.num, .string x.nm, .slice x.A x.n x.cap]] w fun en w' => RetS B S w (placeM σ p (0, 0) fun i _ => tapQ op σ c i l) en w' := by
  obtain ⟨pk, hpk, hu⟩ := faultE_pl hp hf
  obtain ⟨j, c, l, hpl⟩ := ho.pls hu
  have HL := h.lkL ho hm
  have HIX := Lib.hid (fun W hW => e_IndexG (Nat.le_refl _) HL p y hy hp hvy W hW)
  have HCL := Lib.hid (fun W (hW : Below w.heap.size w W) => c_cell (h.next hW) ho hm hpl.find hpl.idx)
  have HNM := hy.nam hp
  rw [← HNM] at HCL
  clear HNM
  refine ⟨(pk, j), c, l, hpl, ?_⟩
  unfold placeM
  rw [hpl.len]
  obtain ⟨ix, hix⟩ : ∃ ix, indexE σ.look p = ix := ⟨_, rfl⟩
  rw [hix] at HIX ⊢
  obtain ⟨ri, re⟩ := ix
  dsimp only at *
  obtain ⟨q, hq⟩ : ∃ q : Rs, (if re ≠ 0 then .error re else if (0 : Int) ≠ 0 then .error 0 else if ri < 0 ∨ (l.length : Int) ≤ ri then .error 12 else tapQ op σ c ri.toNat l) = q := ⟨_, rfl⟩
  rw [hq]
  have HQ := Lib.hid hq
  have hcell := h.cells c l hpl.cell
  have HPL := Lib.hid hpl
  obtain ⟨gk, ok, hA, hc0⟩ := Kid.at2 hky
  rw [Nat.zero_mul, Nat.add_zero] at hc0
  have HC0 := Lib.hid hc0; have H := Lib.hid h
  have HCB := Lib.hid hcell.blk
  obtain ⟨A1, cp1, e1⟩ := own_form hcell.own
  rw [e1] at HCB
  have HE1 := Lib.hid e1
  have hml := hpl.ml
  have HPC : Hid (∀ i, i < l.length → ∃ g cp, S.iv c = .slice (some ⟨g, 0, none⟩) l.length cp ∧ g < w.heap.size ∧ S.ro g = .items c ∧ w.cell? ⟨g, i, none⟩ = some (.int .i64 (l.getD i 0)) ∧ w.frozen? ⟨g, i, none⟩ = false) := Lib.hid fun i hi => h.place hpl.cell hi
  have HRN : Hid (¬ S.O w.heap.size) := Lib.hid fun e => by have := (h.new _ e).2; omega
  have HMV0 : Hid (∀ i g cp, i < l.length → S.iv c = .slice (some ⟨g, 0, none⟩) l.length cp → ∀ W, Below w.heap.size w W → Calls Tryz.prog 162 #[.pointer (some ⟨S.st, 0, none⟩), .int .u8 op, .pointer (some ⟨g, i, none⟩)] W fun e w' => e = .returned (.int .i64 (retI (tapQ op σ c i l))) ∧ RetS B S w (tapQ op σ c i l) e w') := Lib.hid fun i g cp hi he W hW => (c_transQ (h.next hW) (Nat.le_trans hB hW.size) ho.inp ho.out hop hpl.cell he hi).mono fun e w' hr => ⟨hr.ret.1, hr.pre hW⟩
  clear hq hpl hcell HL h hky hy hvy ho hu hf e1 hix hc0
  obtain ⟨k, num, nm, A, n, cap⟩ := x
  obtain ⟨yk, ynum, ynm, yA, yn, ycap⟩ := y
  dsimp only at *
  subst hA
  have q0 : (0 : Int) < (n : Int) := by omega
  subst hk
  have k40 : (k == 40) = false := beq_eq_false_iff_ne.2 (by omega)
  have k41 : (k == 41) = false := beq_eq_false_iff_ne.2 (by omega)
  have k42 : (k == 42) = false := beq_eq_false_iff_ne.2 (by omega)
  have k43 : (k == 43) = false := beq_eq_false_iff_ne.2 (by omega)
  have k44 : (k == 44) = false := beq_eq_false_iff_ne.2 (by omega)
  have k45 : (k == 45) = false := beq_eq_false_iff_ne.2 (by omega)
  clear hop hn
  by_cases h1 : re = 0
  rotate_left
  · have hne : (re != 0) = true := bne_iff_ne.2 h1
    go_enter Tryz.func137, Tryz.ntmps137
    go_upto_region 1 with fail; refine wp_nameE ?_; intro w1 hw1; have hb1 : Below w.heap.size w w1 := (by rw [hw1]; exact (by go_grown)); have K1 : Blk w1 w.heap.size 26 #[.int .u8 k, .int .i64 num, .string nm, .slice (some ⟨gk, ok, none⟩) n cap] := (by rw [hw1]; exact blkA); have HK1 := Lib.hid K1; have HB1 := Lib.hid hb1; clear hw1 hb1; obtain ⟨z_1, T_1, F_1⟩ := K1.open_; clear K1; obtain ⟨c0, c1, c2, c3⟩ := HC0.out _ HB1.out
    go_wp2_with fail
    refine (HIX.out w1 HB1.out).mono ?_
    rintro en w2 ⟨rfl, hb2⟩; have HB2 := Lib.hid (HB1.out.next hb2); have HK2 := Lib.hid (HK1.out.next hb2); clear T_1 z_1 F_1 hb2 c0 c1 c2 c3; obtain ⟨z_1, T_1, F_1⟩ := HK2.out.open_
    go_wp2_with fail
    go_ret
    rw [← HQ.out, if_pos h1]
    exact ⟨rfl, h1, Fr.of HB2.out⟩
  subst h1
  by_cases h3 : ri < 0 ∨ (l.length : Int) ≤ ri
  · have HR12 : Hid (q = .error 12) := Lib.hid (by rw [← HQ.out]; simp only [ne_eq, not_true_eq_false, if_false, if_pos h3])
    have hd3 : ri < 0 ∨ ¬ ri < 0 ∧ decide ((l.length : Int) ≤ ri) = true := by
      rcases h3 with h | h
      · exact .inl h
      · by_cases h4 : ri < 0
        · exact .inl h4
        · exact .inr ⟨h4, by simpa using h⟩
    clear h3
    go_enter Tryz.func137, Tryz.ntmps137
    go_upto_region 1 with fail; refine wp_nameE ?_; intro w1 hw1; have hb1 : Below w.heap.size w w1 := (by rw [hw1]; exact (by go_grown)); have K1 : Blk w1 w.heap.size 26 #[.int .u8 k, .int .i64 num, .string nm, .slice (some ⟨gk, ok, none⟩) n cap] := (by rw [hw1]; exact blkA); have HK1 := Lib.hid K1; have HB1 := Lib.hid hb1; clear hw1 hb1; obtain ⟨z_1, T_1, F_1⟩ := K1.open_; clear K1; obtain ⟨c0, c1, c2, c3⟩ := HC0.out _ HB1.out
    go_wp2_with fail
    refine (HIX.out w1 HB1.out).mono ?_
    rintro en w2 ⟨rfl, hb2⟩; have HB2 := Lib.hid (HB1.out.next hb2); have HK2 := Lib.hid (HK1.out.next hb2); clear T_1 z_1 F_1 hb2 c0 c1 c2 c3; obtain ⟨z_1, T_1, F_1⟩ := HK2.out.open_
    obtain ⟨c0, c1, c2, c3⟩ := HC0.out _ HB2.out
    go_wp2_with fail
    refine (HCL.out w2 HB2.out).mono ?_
    rintro en w3 ⟨rfl, hb3⟩; have HB3 := Lib.hid (HB2.out.next hb3); have HK3 := Lib.hid (HK2.out.next hb3); clear T_1 z_1 F_1 hb3; (try clear c0 c1 c2 c3); obtain ⟨z_1, T_1, F_1⟩ := HK3.out.open_
    have e0 := (HCB.out.next HB3.out).cell 0
    rcases hd3 with hd3 | ⟨hd3, hd4⟩
    all_goals
      go_wp2_with fail
      go_ret
      rw [HR12.out]
      exact ⟨rfl, by decide, Fr.of HB3.out⟩
  obtain ⟨i, rfl⟩ : ∃ i : Nat, ri = (i : Int) := ⟨ri.toNat, by omega⟩
  have hi : i < l.length := by omega
  obtain ⟨g, cp, he, hgl, hgr, hgc, hgf⟩ := HPC.out i hi
  have HHE := Lib.hid he
  rw [HE1.out] at he
  injection he with he _ hcp
  subst he; subst hcp
  have j0 : (0 : Int) ≤ (i : Int) := by omega
  have j1 : (i : Int) < (l.length : Int) := by omega
  have j2 : ¬ ((i : Int) < 0) := by omega
  have j3 : ¬ ((l.length : Int) ≤ (i : Int)) := by omega
  have HJ3 := Lib.hid h3; have HI := Lib.hid hi
  clear hgc hgf h3 hi
  have HRQ : Hid (q = tapQ k σ c i l) := Lib.hid (by rw [← HQ.out]; simp only [ne_eq, not_true_eq_false, if_false, if_neg HJ3.out, Int.toNat_natCast])
  have HMV := Lib.hid (HMV0.out i g cp1 HI.out HHE.out)
  rw [← HRQ.out] at HMV
  obtain ⟨r0, hr0⟩ : ∃ r0, retI q = r0 := ⟨_, rfl⟩
  rw [hr0] at HMV
  clear hr0 HMV0 HQ
  go_enter Tryz.func137, Tryz.ntmps137
  go_upto_region 1 with fail; refine wp_nameE ?_; intro w1 hw1; have hb1 : Below w.heap.size w w1 := (by rw [hw1]; exact (by go_grown)); have K1 : Blk w1 w.heap.size 26 #[.int .u8 k, .int .i64 num, .string nm, .slice (some ⟨gk, ok, none⟩) n cap] := (by rw [hw1]; exact blkA); have HK1 := Lib.hid K1; have HB1 := Lib.hid hb1; clear hw1 hb1; obtain ⟨z_1, T_1, F_1⟩ := K1.open_; clear K1; obtain ⟨c0, c1, c2, c3⟩ := HC0.out _ HB1.out
  go_wp2_with fail
  refine (HIX.out w1 HB1.out).mono ?_
  rintro en w2 ⟨rfl, hb2⟩; have HB2 := Lib.hid (HB1.out.next hb2); have HK2 := Lib.hid (HK1.out.next hb2); clear T_1 z_1 F_1 hb2 c0 c1 c2 c3; obtain ⟨z_1, T_1, F_1⟩ := HK2.out.open_
  obtain ⟨c0, c1, c2, c3⟩ := HC0.out _ HB2.out
  go_wp2_with fail
  refine (HCL.out w2 HB2.out).mono ?_
  rintro en w3 ⟨rfl, hb3⟩; have HB3 := Lib.hid (HB2.out.next hb3); have HK3 := Lib.hid (HK2.out.next hb3); clear T_1 z_1 F_1 hb3; (try clear c0 c1 c2 c3); obtain ⟨z_1, T_1, F_1⟩ := HK3.out.open_
  have e0 := (HCB.out.next HB3.out).cell 0
  go_wp2_with fail
  refine (HMV.out w3 HB3.out).mono ?_
  rintro en w4 ⟨rfl, hret⟩
  have HRET := Lib.hid hret
  clear hret T_1 z_1 F_1 e0
  go_wp2_with fail
  go_ret
  exact HRET.out
end
end Go.Proofs.YtakfdnnlhjhcfaaGreatDoor
