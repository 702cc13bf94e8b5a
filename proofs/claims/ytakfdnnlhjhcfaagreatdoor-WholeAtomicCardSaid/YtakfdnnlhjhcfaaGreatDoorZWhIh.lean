/- An operation of the store as part of a step; a Local is run. -/
import Derived.Test.YtakfdnnlhjhcfaaGreatDoorM28
set_option linter.unusedVariables false
set_option linter.unusedSimpArgs false
set_option maxRecDepth 100000
set_option maxHeartbeats 4000000
namespace Go.Proofs.YtakfdnnlhjhcfaaGreatDoor
open Go.RowKit Bk
section
variable {w0 w w' : World} {B0 r fuel f m : Nat} {R : Rn} {S : Sv} {σ : PSt} {kd : Nat → Int}
def OpP (w0 : World) (B0 : Nat) (w : World) (r : Nat) (R : Rn) (S : Sv) (fuel f : Nat) (q : Rs) (e : Ending) (w' : World) : Prop := match q with
  | .error x => e = .returned (.int .i64 x) ∧ x ≠ 0 ∧ Bs w0 B0 R w' ∧ Fr (RO S R r) w w' ∧ w'.cell? ⟨r, 6, none⟩ = some (.pointer (some ⟨R.st, 0, none⟩))
  | .ok σ' => e = .returned (.int .i64 0) ∧ (∃ S', (∀ kd' m', σ'.Ok kd' m' → m' + f ≤ 3000 → 32 ≤ m' → RAt w0 B0 w' r R S' σ' fuel f kd' m') ∧ S.Ext S' w) ∧ Fr (RO S R r) w w' ∧ w'.cell? ⟨r, 6, none⟩ = some (.pointer (some ⟨R.st, 0, none⟩))
theorem RAt.cell6 (h : RAt w0 B0 w r R S σ fuel f kd m) : w.cell? ⟨r, 6, none⟩ = some (.pointer (some ⟨R.st, 0, none⟩)) := by rw [h.blk.cell]; rfl
theorem RAt.opS (h : RAt w0 B0 w r R S σ fuel f kd m) {q : Rs} {e : Ending} (hr : RetS B0 S w q e w') : OpP w0 B0 w r R S fuel f q e w' := by
  have hB := h.B
  have hfo : Fr S.O w w' := by cases q with
    | error x => exact hr.2.2
    | ok σ' => exact hr.2.2
  have hro : ¬ S.O r := fun hk => hk h.ro
  have hb0 : Bs w0 B0 R w' := ⟨h.base.trans (hfo.below hB fun k hk => (h.on.new k hk).1), h.kpF hfo fun b h1 _ _ h2 => h2 h1⟩
  have hblk := hfo.blk h.blk hro
  have h6 : w'.cell? ⟨r, 6, none⟩ = some (.pointer (some ⟨R.st, 0, none⟩)) := by rw [hblk.cell]; rfl
  have hfr : Fr (RO S R r) w w' := hfo.mono fun k hk => .inl hk
  cases q with
  | error x => exact ⟨hr.1, hr.2.1, hb0, hfr, h6⟩
  | ok σ' =>
    obtain ⟨he, ⟨S', hs', hx⟩, _⟩ := hr
    refine ⟨he, ⟨S', fun kd' m' hok hm hm0 => ?_, hx⟩, hfr, h6⟩
    obtain ⟨g, cp, n, xs, e1, e2, e3, e4, e5⟩ := h.ent
    have hgl : g < w.heap.size := own_lt' (k := g) e2 (by rw [e1]; rfl)
    refine ⟨hb0.1, hblk, hs', hok, hx.1.trans h.st, (hx.2 r h.blk.lt).trans h.ro, h.rb, ⟨g, cp, n, xs, e1, own_fr e2 hfo fun k hk => ?_, e3, (hx.2 g hgl).trans e4, e5⟩, h.ff, hm, h.fu, hm0, h.kxF hx hfo.size, hb0.2⟩
    rw [e1] at hk; injection hk with hk; subst hk
    exact fun ho => ho e4
theorem c_Open1 (h : RAt w0 B0 w r R S σ fuel f kd m) (x : ByteArray) (k : Int) (hk : k = 1 ∨ k = 3) (v : Int) : Calls Tryz.prog 105 #[.pointer (some ⟨R.st, 0, none⟩), .agg #[.string x, .int .u8 k, .int .i64 0], .int .i64 v] w fun e w' => OpP w0 B0 w r R S fuel f (openM ⟨x, k, 0⟩ (if k = 1 then [v] else []) σ) e w' := by
  have hm := h.fm
  have := c_Open h.on h.B h.ok (by omega) x k hk v (by have := h.ok.cur.loc; have := h.ok.cur.bd; omega)
  rw [h.st] at this
  exact this.mono fun e w' hr => h.opS hr
theorem c_Close1 (h : RAt w0 B0 w r R S σ fuel f kd m) (x : ByteArray) (v : Int) : Calls Tryz.prog 106 #[.pointer (some ⟨R.st, 0, none⟩), .string x, .int .i64 v] w fun e w' => OpP w0 B0 w r R S fuel f (closeM x v σ) e w' := by
  have hm := h.fm
  have := c_Close h.on h.ok (by omega) x v
  rw [h.st] at this
  exact this.mono fun e w' hr => h.opS hr
theorem c_local {procs : List Pr} {n d : Nat} (hbk : BlkC w0 B0 r R fuel procs n) (h : RAt w0 B0 w r R S σ fuel f kd m) (hf : f < n + 1) (back : Bool) {v : ByteArray} {e e' : Ex} {b rest : Sq} {x : Nd} (hx : StAt w0 B0 (d + 1) (.loc v e b e' rest) x) (hk : KV w0 B0 (d + 1) x) (hck : (Sq.loc v e b e' rest).cok procs) :
    Calls Tryz.prog 102 #[.pointer (some ⟨r, 0, none⟩), .agg #[.int .u8 x.k, .int .i64 x.num, .string x.nm, .slice x.A x.n x.cap], .bool back] w fun en w' => RunP w0 B0 w r R S fuel (headM procs n (execP procs n) back (.loc v e b e' rest) σ f) en w' := by
  obtain ⟨hk54, hnm, hn4, y0, y1, y2, k0, k1, k2, v0, b1, v2⟩ := hx
  have kv := fun i y (hi : i < 3) (hy : Kid w0 B0 x i y) => hk.kid (by rw [hn4]; exact hi) hy
  obtain ⟨p, q, hp, hq, hE⟩ := e_endsP (y := y0) (z := y2) k0 (by rw [hn4]; exact k2) (by omega) (by omega) back
  have HP : EV w0 B0 nameB (if back then e' else e) p ∧ KV w0 B0 d p := by
    subst hp; cases back
    · exact ⟨v0, kv 0 _ (by omega) k0⟩
    · exact ⟨v2, kv 2 _ (by omega) k2⟩
  have HQ : EV w0 B0 nameB (if back then e else e') q ∧ KV w0 B0 d q := by
    subst hq; cases back
    · exact ⟨v2, kv 2 _ (by omega) k2⟩
    · exact ⟨v0, kv 0 _ (by omega) k0⟩
  show Calls _ _ _ _ fun en w' => RunP w0 B0 w r R S fuel ((stepM.seq ((valueM (if back then e' else e) fun v1 => liftM (openM ⟨v, 1, 0⟩ [v1])).seq ((execP procs n back b).seq (stepM.seq (valueM (if back then e else e') fun v2 => liftM (closeM v v2)))))) σ f) en w'
  generalize (if back then e' else e) = E1 at *
  generalize (if back then e else e') = E2 at *
  have H1 : Hid (∀ W, Below w.heap.size w W → RAt w0 B0 W r R S σ fuel f kd m) := Lib.hid fun W hW => h.next hW h.B
  have HEN := Lib.hid hE
  have HB := Lib.hid (show Below B0 w0 w ∧ B0 ≤ w.heap.size from ⟨h.base, h.B⟩)
  have HNR : Hid (∀ b, w.heap.size ≤ b → ¬ RO S R r b) := Lib.hid fun b hb => h.nro hb
  have HVA := Lib.hid (fun W S' σ' f' kd' m' (h : RAt w0 B0 W r R S' σ' fuel f' kd' m') => c_value h HP.1 HP.2)
  have HVB := Lib.hid (fun W S' σ' f' kd' m' (h : RAt w0 B0 W r R S' σ' fuel f' kd' m') => c_value h HQ.1 HQ.2)
  have HBL := Lib.hid (fun W S' σ' f' kd' m' (h : RAt w0 B0 W r R S' σ' fuel f' kd' m') (hf : f' < n) => hbk W S' σ' f' kd' m' h hf back d b y1 b1 (kv 1 _ (by omega) k1).succ hck.1)
  have HL : Hid (∀ σ f σ' f', f < n → execP procs n back b σ f = .ok (σ', f') → f' ≤ f) := Lib.hid fun σ f σ' f' h1 h2 => (Fuels.execP procs n back b σ f h1 σ' f' h2).1
  generalize execP procs n back b = MB at *
  have HFN := Lib.hid hf
  have HHR := Lib.hid h
  obtain ⟨QT, hQT⟩ : ∃ QT, (stepM.seq ((valueM E1 fun v1 => liftM (openM ⟨v, 1, 0⟩ [v1])).seq (MB.seq (stepM.seq (valueM E2 fun v2 => liftM (closeM v v2)))))) σ f = QT := ⟨_, rfl⟩
  rw [hQT]
  obtain ⟨g, o, hA, hgB, hcl1⟩ := k1
  clear hE hbk h hp hq HP HQ kv k0 k2 v0 v2 b1 hk hk54 hf hck
  obtain ⟨xk, num, nm, A, nn, cap⟩ := x
  obtain ⟨pk, pnum, pnm, pA, pn, pc⟩ := p
  obtain ⟨qk, qnum, qnm, qA, qn, qc⟩ := q
  obtain ⟨yk, ynum, ynm, yA, yn, yc⟩ := y1
  dsimp only at *
  subst hA; subst hn4; subst hnm
  simp only [Nat.one_mul, Nat.reduceMul] at hcl1
  have HC1 : Hid (∀ W, Below B0 w0 W → W.cell? ⟨g, o + 4, none⟩ = some (.int .u8 yk) ∧ W.cell? ⟨g, o + 4 + 1, none⟩ = some (.int .i64 ynum) ∧ W.cell? ⟨g, o + 4 + 2, none⟩ = some (.string ynm) ∧ W.cell? ⟨g, o + 4 + 3, none⟩ = some (.slice yA yn yc)) := Lib.hid fun W hW => ⟨(hW.cell (p := ⟨g, o + 4, none⟩) hgB).trans (hcl1 0 _ rfl), (hW.cell (p := ⟨g, o + 4 + 1, none⟩) hgB).trans (hcl1 1 _ rfl), (hW.cell (p := ⟨g, o + 4 + 2, none⟩) hgB).trans (hcl1 2 _ rfl), (hW.cell (p := ⟨g, o + 4 + 3, none⟩) hgB).trans (hcl1 3 _ rfl)⟩
  clear hcl1 hgB
  have HQT := Lib.hid hQT
  clear hQT
  go_enter Tryz.func102, Tryz.ntmps102
  go_upto_region 1 with fail
  refine wp_nameE ?_
  intro w1 hw1
  have hb1 : Below w.heap.size w w1 := (by rw [hw1]; exact (by go_grown))
  have K1 : Blk w1 w.heap.size 26 #[.int .u8 xk, .int .i64 num, .string nm, .slice (some ⟨g, o, none⟩) 3 cap] := (by rw [hw1]; exact blkA)
  have HB1 := Lib.hid hb1; have HK1 := Lib.hid K1
  have hs1 := hb1.size
  obtain ⟨z_1, T_1, F_1⟩ := K1.open_
  clear hw1 hb1 K1
  go_wp2_with fail
  refine (HEN.out w1 (HB.out.1.trans (HB1.out.mono HB.out.2)) (Nat.le_trans HB.out.2 hs1)).mono ?_
  rintro en w2 ⟨rfl, hb2⟩
  have HB2 := Lib.hid (HB1.out.next hb2)
  have HK2 := Lib.hid (HK1.out.next hb2)
  have hs2 := hb2.size
  clear hb2 z_1 T_1 F_1 HK1 HB1
  go_upto_region 2 with fail
  refine wp_nameE ?_
  intro w3 hw3
  have hb3 : Below w2.heap.size w2 w3 := (by rw [hw3]; exact (by go_grown))
  have K6 : Blk w3 w2.heap.size 26 #[.int .u8 pk, .int .i64 pnum, .string pnm, .slice pA pn pc] := (by rw [hw3]; exact blkA)
  have K7 : Blk w3 (w2.heap.size + 1) 26 #[.int .u8 qk, .int .i64 qnum, .string qnm, .slice qA qn qc] := (by rw [hw3]; exact (Blk.new' (by simp) _ _))
  have HB3 := Lib.hid (HB2.out.next hb3)
  have HK3 := Lib.hid (HK2.out.next hb3); have HK6 := Lib.hid K6; have HK7 := Lib.hid K7
  have HNI := Lib.hid (HNR.out w.heap.size (Nat.le_refl _))
  have HN6 := Lib.hid (HNR.out w2.heap.size (by omega))
  have HN7 := Lib.hid (HNR.out (w2.heap.size + 1) (by omega))
  have hi3 : w.heap.size < w2.heap.size := by have := HK2.out.lt; omega
  clear hw3 hb3 K6 K7 HK2 HB2 HNR hs1
  have HW3 : Hid (w.heap.size ≤ w3.heap.size) := Lib.hid HB3.out.size
  have HF3 := Lib.hid (Fr.of (O := RO S R r) HB3.out)
  have HXW : Hid (∀ S5, S.Ext S5 w3 → S.Ext S5 w) := Lib.hid fun S5 h => ⟨h.1, fun k hk => h.2 k (Nat.lt_of_lt_of_le hk HB3.out.size)⟩
  have HR3 := Lib.hid (H1.out w3 HB3.out)
  generalize hb6e : w2.heap.size + 1 = b7 at *
  generalize w2.heap.size = b6 at *
  generalize hbi : w.heap.size = bi at *
  clear hb6e hbi HB3 H1
  have HKP : Hid (∀ W, Fr (RO S R r) w3 W → Keep3 W bi b6 b7 26 #[.int .u8 xk, .int .i64 num, .string nm, .slice (some ⟨g, o, none⟩) 3 cap] #[.int .u8 pk, .int .i64 pnum, .string pnm, .slice pA pn pc] #[.int .u8 qk, .int .i64 qnum, .string qnm, .slice qA qn qc]) := Lib.hid fun W hW => ⟨hW.blk HK3.out HNI.out, hW.blk HK6.out HN6.out, hW.blk HK7.out HN7.out⟩
  clear HK3 HK6 HK7
  go_wp2_with fail
  cases f with
  | zero =>
    obtain rfl : QT = .error 18 := HQT.out.symm
    have HC := Lib.hid (c_stepRF HR3.out)
    unfold FailE at HC
    refine HC.out.mono ?_
    rintro en w4 ⟨rfl, hbw4⟩
    have HBw4 := Lib.hid hbw4
    clear hbw4
    go_wp2_with fail
    exact ⟨rfl, rfl, HBw4.out⟩
  | succ f =>
    have HM1 : Hid (m + 1 + f ≤ 3000) := Lib.hid (by have := HR3.out.fm; omega)
    have HFN' : Hid (f < n) := Lib.hid (by have := HFN.out; omega)
    have HQ2 : Hid (((valueM E1 fun v1 => liftM (openM ⟨nm, 1, 0⟩ [v1])).seq (MB.seq (stepM.seq (valueM E2 fun v2 => liftM (closeM nm v2))))) σ f = QT) := HQT
    clear HQT HFN
    refine (c_stepR HR3.out).mono ?_
    rintro en w4 ⟨rfl, hr4, hf4⟩
    have HR4 := Lib.hid hr4
    have HF4 : Hid (Fr (RO S R r) w3 w4) := Lib.hid (hf4.mono fun k hk => .inr (.inl hk))
    clear hr4 hf4 HR3
    unfold Mo.seq valueM at HQ2
    obtain ⟨⟨v1, er⟩, hq⟩ : ∃ q, evalG σ.look E1 = q := ⟨_, rfl⟩
    rw [hq] at HQ2
    have HV : Hid (∀ W, Below w4.heap.size w4 W → Calls Tryz.prog 128 #[.pointer (some ⟨r, 0, none⟩), .agg #[.int .u8 pk, .int .i64 pnum, .string pnm, .slice pA pn pc]] W fun en w' => (if er ≠ 0 then en = FailE er else en = .returned (.int .i64 v1)) ∧ Below W.heap.size W w') := Lib.hid fun W hW => by
      have := HVA.out W S σ f kd m (HR4.out.next hW HR4.out.B)
      rw [hq] at this
      exact this
    clear hq
    dsimp only at HQ2
    have HK4 := Lib.hid (HKP.out w4 HF4.out)
    by_cases h0 : er = 0
    rotate_left
    · rw [if_pos h0] at HQ2
      obtain rfl : QT = .error er := HQ2.out.symm
      simp only [if_pos h0] at HV
      unfold FailE at HV
      go_wp2_with fail
      refine wp_region_held_drew (S := fun W => Fr (RO S R r) w4 W ∧ W.cell? ⟨r, 6, none⟩ = some (.pointer (some ⟨R.st, 0, none⟩))) (by kernel_rfl) (⟨(Fr.refl _ _).drew, HR4.out.cell6⟩) (fun hH => ?_)
      refine wpAnyH_atN ?_
      intro wa hwa
      have hX : Below w4.heap.size w4 wa := by rw [hwa]; exact (Below.refl _ _).drew
      replace hH := (show Fr (RO S R r) w4 wa ∧ wa.cell? ⟨r, 6, none⟩ = some (.pointer (some ⟨R.st, 0, none⟩)) by rw [hwa]; exact hH)
      clear hwa
      refine tkQ 0 (v := ?_) rfl hH ?_
      (try simp only [PU, Act.put])
      refine tkQ 1 (v := ?_) rfl hH ?_
      (try simp only [PU, Act.put])
      refine tkQ 2 (v := ?_) rfl hH ?_
      (try simp only [PU, Act.put])
      refine tkQ 3 (v := ?_) rfl hH ?_
      (try simp only [PU, Act.put])
      refine tkK 4 (v := ?_) rfl ?hy hH ?_
      case hy => (intro w9_ hS9; have t := hS9.2; clear hS9; go_simp; try with_reducible rfl)
      (try simp only [PU, Act.put])
      refine tkQ 5 (v := ?_) rfl hH ?_
      (try simp only [PU, Act.put])
      refine tkK 6 (v := ?_) rfl ?hy hH ?_
      case hy => (intro w9_ hS9; have t := (hS9.1.blk (HK4.out).1 HNI.out).cell; clear hS9; go_simp; try with_reducible rfl)
      (try simp only [PU, Act.put])
      refine tkQ 7 (v := ?_) rfl hH ?_
      (try simp only [PU, Act.put])
      refine tkQ 8 (v := ?_) rfl hH ?_
      (try simp only [PU, Act.put])
      refine tkK 9 (v := ?_) rfl ?hy hH ?_
      case hy => (intro w9_ hS9; have t := (hS9.1.blk (HK4.out).2.1 HN6.out).cell; clear hS9; go_simp; try with_reducible rfl)
      (try simp only [PU, Act.put])
      refine nxH 10 (by kernel_rfl) rfl (fun K hK => ?_)
      go_simp
      refine (HV.out _ hX).mono ?_
      rintro en wb_ ⟨rfl, hbn⟩
      dsimp only
      exact ⟨rfl, rfl, (HR4.out.next (hX.next hbn) HR4.out.B).bs⟩
    subst h0
    simp only [ne_eq, not_true_eq_false, if_false] at HV HQ2
    have HQ3 : Hid ((match openM ⟨nm, 1, 0⟩ [v1] σ with | .error e => (.error e : Except Int (PSt × Nat)) | .ok σ' => (MB.seq (stepM.seq (valueM E2 fun v2 => liftM (closeM nm v2)))) σ' f) = QT) := Lib.hid (by rw [← HQ2.out]; unfold Bk.liftM; cases openM ⟨nm, 1, 0⟩ [v1] σ <;> rfl)
    have HOP : Hid (∀ W, Below w4.heap.size w4 W → Calls Tryz.prog 105 #[.pointer (some ⟨R.st, 0, none⟩), .agg #[.string nm, .int .u8 1, .int .i64 0], .int .i64 v1] W fun e w' => OpP w0 B0 W r R S fuel f (openM ⟨nm, 1, 0⟩ [v1] σ) e w') := Lib.hid fun W hW => c_Open1 (HR4.out.next hW HR4.out.B) nm 1 (.inl rfl) v1
    obtain ⟨QO, hQO⟩ : ∃ QO, openM ⟨nm, 1, 0⟩ [v1] σ = QO := ⟨_, rfl⟩
    rw [hQO] at HOP HQ3
    have HQO := Lib.hid hQO
    have HCF := Lib.hid (fun (y : Int) (hy : y ≠ 0) W => c_checkF (.pointer (some ⟨r, 0, none⟩)) y hy W)
    have HC0 := Lib.hid (fun W => c_check0 (.pointer (some ⟨r, 0, none⟩)) W)
    unfold FailE at HCF
    clear hQO HQ2
    cases QO with
    | error eo =>
      obtain rfl : QT = .error eo := HQ3.out.symm
      unfold OpP at HOP
      dsimp only at HOP
      go_wp2_with fail
      refine wp_region_held_drew (S := fun W => Fr (RO S R r) w4 W ∧ W.cell? ⟨r, 6, none⟩ = some (.pointer (some ⟨R.st, 0, none⟩))) (by kernel_rfl) (⟨(Fr.refl _ _).drew, HR4.out.cell6⟩) (fun hH => ?_)
      refine wpAnyH_atN ?_
      intro wa hwa
      have hX : Below w4.heap.size w4 wa := by rw [hwa]; exact (Below.refl _ _).drew
      replace hH := (show Fr (RO S R r) w4 wa ∧ wa.cell? ⟨r, 6, none⟩ = some (.pointer (some ⟨R.st, 0, none⟩)) by rw [hwa]; exact hH)
      clear hwa
      refine tkQ 0 (v := ?_) rfl hH ?_
      (try simp only [PU, Act.put])
      refine tkQ 1 (v := ?_) rfl hH ?_
      (try simp only [PU, Act.put])
      refine tkQ 2 (v := ?_) rfl hH ?_
      (try simp only [PU, Act.put])
      refine tkQ 3 (v := ?_) rfl hH ?_
      (try simp only [PU, Act.put])
      refine tkK 4 (v := ?_) rfl ?hy hH ?_
      case hy => (intro w9_ hS9; have t := hS9.2; clear hS9; go_simp; try with_reducible rfl)
      (try simp only [PU, Act.put])
      refine tkQ 5 (v := ?_) rfl hH ?_
      (try simp only [PU, Act.put])
      refine tkK 6 (v := ?_) rfl ?hy hH ?_
      case hy => (intro w9_ hS9; have t := (hS9.1.blk (HK4.out).1 HNI.out).cell; clear hS9; go_simp; try with_reducible rfl)
      (try simp only [PU, Act.put])
      refine tkQ 7 (v := ?_) rfl hH ?_
      (try simp only [PU, Act.put])
      refine tkQ 8 (v := ?_) rfl hH ?_
      (try simp only [PU, Act.put])
      refine tkK 9 (v := ?_) rfl ?hy hH ?_
      case hy => (intro w9_ hS9; have t := (hS9.1.blk (HK4.out).2.1 HN6.out).cell; clear hS9; go_simp; try with_reducible rfl)
      (try simp only [PU, Act.put])
      refine nxH 10 (by kernel_rfl) rfl (fun K hK => ?_)
      go_simp
      refine (HV.out _ hX).mono ?_
      rintro en wb_ ⟨rfl, hbn⟩
      replace hX := hX.next hbn
      refine hK.out _ _ ⟨Fr.of hX, (HR4.out.next hX HR4.out.B).cell6⟩ (fun hH => ?_)
      clear hK
      (try simp only [PU, Act.put])
      clear hbn
      refine nxH 11 (by kernel_rfl) rfl (fun K hK => ?_)
      go_simp
      refine (HOP.out _ hX).mono ?_
      rintro en wc_ ⟨rfl, hne, hbb, hfo, h6⟩
      refine hK.out _ _ ⟨(Fr.of hX).trans hfo, h6⟩ (fun hH => ?_)
      clear hK
      (try simp only [PU, Act.put])
      refine nxH 12 (by kernel_rfl) rfl (fun K hK => ?_)
      go_simp
      refine (HCF.out _ hne _).mono ?_
      rintro en wd_ ⟨rfl, rfl⟩
      dsimp only
      exact ⟨rfl, rfl, hbb⟩
    | ok σ1 =>
      unfold OpP at HOP
      dsimp only at HOP HQ3
      go_wp2_with fail
      refine wp_region_held_drew (S := fun W => Fr (RO S R r) w4 W ∧ W.cell? ⟨r, 6, none⟩ = some (.pointer (some ⟨R.st, 0, none⟩))) (by kernel_rfl) (⟨(Fr.refl _ _).drew, HR4.out.cell6⟩) (fun hH => ?_)
      refine wpAnyH_atN ?_
      intro wa hwa
      have hX : Below w4.heap.size w4 wa := by rw [hwa]; exact (Below.refl _ _).drew
      replace hH := (show Fr (RO S R r) w4 wa ∧ wa.cell? ⟨r, 6, none⟩ = some (.pointer (some ⟨R.st, 0, none⟩)) by rw [hwa]; exact hH)
      clear hwa
      refine tkQ 0 (v := ?_) rfl hH ?_
      (try simp only [PU, Act.put])
      refine tkQ 1 (v := ?_) rfl hH ?_
      (try simp only [PU, Act.put])
      refine tkQ 2 (v := ?_) rfl hH ?_
      (try simp only [PU, Act.put])
      refine tkQ 3 (v := ?_) rfl hH ?_
      (try simp only [PU, Act.put])
      refine tkK 4 (v := ?_) rfl ?hy hH ?_
      case hy => (intro w9_ hS9; have t := hS9.2; clear hS9; go_simp; try with_reducible rfl)
      (try simp only [PU, Act.put])
      refine tkQ 5 (v := ?_) rfl hH ?_
      (try simp only [PU, Act.put])
      refine tkK 6 (v := ?_) rfl ?hy hH ?_
      case hy => (intro w9_ hS9; have t := (hS9.1.blk (HK4.out).1 HNI.out).cell; clear hS9; go_simp; try with_reducible rfl)
      (try simp only [PU, Act.put])
      refine tkQ 7 (v := ?_) rfl hH ?_
      (try simp only [PU, Act.put])
      refine tkQ 8 (v := ?_) rfl hH ?_
      (try simp only [PU, Act.put])
      refine tkK 9 (v := ?_) rfl ?hy hH ?_
      case hy => (intro w9_ hS9; have t := (hS9.1.blk (HK4.out).2.1 HN6.out).cell; clear hS9; go_simp; try with_reducible rfl)
      (try simp only [PU, Act.put])
      refine nxH 10 (by kernel_rfl) rfl (fun K hK => ?_)
      go_simp
      refine (HV.out _ hX).mono ?_
      rintro en wb_ ⟨rfl, hbn⟩
      replace hX := hX.next hbn
      refine hK.out _ _ ⟨Fr.of hX, (HR4.out.next hX HR4.out.B).cell6⟩ (fun hH => ?_)
      clear hK
      (try simp only [PU, Act.put])
      clear hbn
      refine nxH 11 (by kernel_rfl) rfl (fun K hK => ?_)
      go_simp
      refine (HOP.out _ hX).mono ?_
      rintro en wc_ ⟨rfl, ⟨S5, hra, hx5⟩, hfo, h6⟩
      refine hK.out _ _ ⟨(Fr.of hX).trans hfo, h6⟩ (fun hH => ?_)
      clear hK
      (try simp only [PU, Act.put])
      have HRA := Lib.hid hra; have HX5 := Lib.hid hx5
      clear hra hx5 hfo h6
      refine nxH 12 (by kernel_rfl) rfl (fun K hK => ?_)
      go_simp
      refine (HC0.out _).mono ?_
      rintro en wd_ ⟨rfl, rfl⟩
      refine hK.out _ _ hH (fun hH => ?_)
      clear hK
      (try simp only [PU, Act.put])
      refine wpAnyH_done (by kernel_rfl) ?_ _
      have HR5 := Lib.hid (HRA.out _ (m + 1) (openM_ok HR4.out.ok (fun _ => rfl) (by simp) HQO.out) HM1.out (by have := HR4.out.m0; omega))
      have HX6 : Hid (S.Ext S5 w3) := Lib.hid ⟨HX5.out.1, fun k hk => HX5.out.2 k (Nat.lt_of_lt_of_le hk (Nat.le_trans HF4.out.size hX.size))⟩
      have HF5 := Lib.hid (HF4.out.trans hH.1)
      clear hX hH HRA HX5 HOP HV HR4 HF4 HK4
      obtain ⟨K1, K6, K7⟩ := HKP.out _ HF5.out
      obtain ⟨z_1, T_1, F_1⟩ := K1.open_
      obtain ⟨c0, c1, c2, c3⟩ := HC1.out _ HR5.out.base
      have HC := Lib.hid (HBL.out _ S5 σ1 f _ _ HR5.out HFN'.out)
      obtain ⟨QB, hQB⟩ : ∃ QB, MB σ1 f = QB := ⟨_, rfl⟩
      unfold Mo.seq at HQ3
      rw [hQB] at HC HQ3
      clear hQB K1 K6 K7
      go_wp2_with fail
      cases QB with
      | error e4 =>
        obtain rfl : QT = .error e4 := HQ3.out.symm
        unfold RunP FailE at HC
        dsimp only at HC
        refine HC.out.mono ?_
        rintro en w7 ⟨rfl, hbw7⟩
        have HBw7 := Lib.hid hbw7
        clear hbw7
        go_wp2_with fail
        exact ⟨rfl, rfl, HBw7.out⟩
      | ok r4 =>
        obtain ⟨σ2, f2⟩ := r4
        unfold RunP at HC
        dsimp only at HC HQ3
        refine HC.out.mono ?_
        rintro en w7 ⟨rfl, S7, kd7, m7, hr7, hx7, hf7⟩
        have HR7 := Lib.hid hr7
        have HF7 := Lib.hid (RO.fr HX6.out HF5.out hf7)
        have HX7 := Lib.hid (HX6.out.trans hx7 HF5.out.size)
        clear hr7 hx7 hf7 HC z_1 T_1 F_1 c0 c1 c2 c3 HX6 HF5 HR5
        go_wp2_with fail
        cases f2 with
        | zero =>
          obtain rfl : QT = .error 18 := HQ3.out.symm
          have HC := Lib.hid (c_stepRF HR7.out)
          unfold FailE at HC
          refine HC.out.mono ?_
          rintro en w8 ⟨rfl, hbw8⟩
          have HBw8 := Lib.hid hbw8
          clear hbw8
          go_wp2_with fail
          exact ⟨rfl, rfl, HBw8.out⟩
        | succ f3 =>
          refine (c_stepR HR7.out).mono ?_
          rintro en w8 ⟨rfl, hr8, hf8⟩
          have HR8 := Lib.hid hr8
          have HF8 : Hid (Fr (RO S R r) w3 w8) := Lib.hid (RO.fr HX7.out HF7.out (hf8.mono fun k hk => .inr (.inl hk)))
          have HX8 := HX7
          have HNI' : Hid (¬ RO S7 R r bi) := Lib.hid (RO.keep HX7.out (HKP.out w3 (Fr.refl _ _)).1.lt HNI.out)
          have HN7' : Hid (¬ RO S7 R r b7) := Lib.hid (RO.keep HX7.out (HKP.out w3 (Fr.refl _ _)).2.2.lt HN7.out)
          clear hr8 hf8 HR7
          have HQ4 : Hid (((valueM E2 fun v2 => liftM (closeM nm v2)) σ2 f3) = QT) := HQ3
          unfold valueM at HQ4
          obtain ⟨⟨v2, er2⟩, hq2⟩ : ∃ q, evalG σ2.look E2 = q := ⟨_, rfl⟩
          rw [hq2] at HQ4
          have HV : Hid (∀ W, Below w8.heap.size w8 W → Calls Tryz.prog 128 #[.pointer (some ⟨r, 0, none⟩), .agg #[.int .u8 qk, .int .i64 qnum, .string qnm, .slice qA qn qc]] W fun en w' => (if er2 ≠ 0 then en = FailE er2 else en = .returned (.int .i64 v2)) ∧ Below W.heap.size W w') := Lib.hid fun W hW => by
            have := HVB.out W S7 σ2 f3 kd7 m7 (HR8.out.next hW HR8.out.B)
            rw [hq2] at this
            exact this
          clear hq2 HQ3
          dsimp only at HQ4
          have HK4 := Lib.hid (HKP.out w8 HF8.out)
          by_cases h0 : er2 = 0
          rotate_left
          · rw [if_pos h0] at HQ4
            obtain rfl : QT = .error er2 := HQ4.out.symm
            simp only [if_pos h0] at HV
            unfold FailE at HV
            go_wp2_with fail
            refine wp_region_held_drew (S := fun W => Fr (RO S7 R r) w8 W ∧ W.cell? ⟨r, 6, none⟩ = some (.pointer (some ⟨R.st, 0, none⟩))) (by kernel_rfl) (⟨(Fr.refl _ _).drew, HR8.out.cell6⟩) (fun hH => ?_)
            refine wpAnyH_atN ?_
            intro wa hwa
            have hX : Below w8.heap.size w8 wa := by rw [hwa]; exact (Below.refl _ _).drew
            replace hH := (show Fr (RO S7 R r) w8 wa ∧ wa.cell? ⟨r, 6, none⟩ = some (.pointer (some ⟨R.st, 0, none⟩)) by rw [hwa]; exact hH)
            clear hwa
            refine tkQ 0 (v := ?_) rfl hH ?_
            (try simp only [PU, Act.put])
            refine tkQ 1 (v := ?_) rfl hH ?_
            (try simp only [PU, Act.put])
            refine tkQ 2 (v := ?_) rfl hH ?_
            (try simp only [PU, Act.put])
            refine tkQ 3 (v := ?_) rfl hH ?_
            (try simp only [PU, Act.put])
            refine tkK 4 (v := ?_) rfl ?hy hH ?_
            case hy => (intro w9_ hS9; have t := hS9.2; clear hS9; go_simp; try with_reducible rfl)
            (try simp only [PU, Act.put])
            refine tkQ 5 (v := ?_) rfl hH ?_
            (try simp only [PU, Act.put])
            refine tkK 6 (v := ?_) rfl ?hy hH ?_
            case hy => (intro w9_ hS9; have t := (hS9.1.blk (HK4.out).1 HNI'.out).cell; clear hS9; go_simp; try with_reducible rfl)
            (try simp only [PU, Act.put])
            refine tkQ 7 (v := ?_) rfl hH ?_
            (try simp only [PU, Act.put])
            refine tkK 8 (v := ?_) rfl ?hy hH ?_
            case hy => (intro w9_ hS9; have t := (hS9.1.blk (HK4.out).2.2 HN7'.out).cell; clear hS9; go_simp; try with_reducible rfl)
            (try simp only [PU, Act.put])
            refine nxH 9 (by kernel_rfl) rfl (fun K hK => ?_)
            go_simp
            refine (HV.out _ hX).mono ?_
            rintro en wb_ ⟨rfl, hbn⟩
            dsimp only
            exact ⟨rfl, rfl, (HR8.out.next (hX.next hbn) HR8.out.B).bs⟩
          subst h0
          simp only [ne_eq, not_true_eq_false, if_false] at HV HQ4
          have HQ5 : Hid ((match closeM nm v2 σ2 with | .error e => (.error e : Except Int (PSt × Nat)) | .ok σ' => .ok (σ', f3)) = QT) := Lib.hid (by rw [← HQ4.out]; unfold Bk.liftM; cases closeM nm v2 σ2 <;> rfl)
          have HOP : Hid (∀ W, Below w8.heap.size w8 W → Calls Tryz.prog 106 #[.pointer (some ⟨R.st, 0, none⟩), .string nm, .int .i64 v2] W fun e w' => OpP w0 B0 W r R S7 fuel f3 (closeM nm v2 σ2) e w') := Lib.hid fun W hW => c_Close1 (HR8.out.next hW HR8.out.B) nm v2
          obtain ⟨QO, hQO⟩ : ∃ QO, closeM nm v2 σ2 = QO := ⟨_, rfl⟩
          rw [hQO] at HOP HQ5
          replace HQO := Lib.hid hQO
          clear hQO HQ4
          cases QO with
          | error eo =>
            obtain rfl : QT = .error eo := HQ5.out.symm
            unfold OpP at HOP
            dsimp only at HOP
            go_wp2_with fail
            refine wp_region_held_drew (S := fun W => Fr (RO S7 R r) w8 W ∧ W.cell? ⟨r, 6, none⟩ = some (.pointer (some ⟨R.st, 0, none⟩))) (by kernel_rfl) (⟨(Fr.refl _ _).drew, HR8.out.cell6⟩) (fun hH => ?_)
            refine wpAnyH_atN ?_
            intro wa hwa
            have hX : Below w8.heap.size w8 wa := by rw [hwa]; exact (Below.refl _ _).drew
            replace hH := (show Fr (RO S7 R r) w8 wa ∧ wa.cell? ⟨r, 6, none⟩ = some (.pointer (some ⟨R.st, 0, none⟩)) by rw [hwa]; exact hH)
            clear hwa
            refine tkQ 0 (v := ?_) rfl hH ?_
            (try simp only [PU, Act.put])
            refine tkQ 1 (v := ?_) rfl hH ?_
            (try simp only [PU, Act.put])
            refine tkQ 2 (v := ?_) rfl hH ?_
            (try simp only [PU, Act.put])
            refine tkQ 3 (v := ?_) rfl hH ?_
            (try simp only [PU, Act.put])
            refine tkK 4 (v := ?_) rfl ?hy hH ?_
            case hy => (intro w9_ hS9; have t := hS9.2; clear hS9; go_simp; try with_reducible rfl)
            (try simp only [PU, Act.put])
            refine tkQ 5 (v := ?_) rfl hH ?_
            (try simp only [PU, Act.put])
            refine tkK 6 (v := ?_) rfl ?hy hH ?_
            case hy => (intro w9_ hS9; have t := (hS9.1.blk (HK4.out).1 HNI'.out).cell; clear hS9; go_simp; try with_reducible rfl)
            (try simp only [PU, Act.put])
            refine tkQ 7 (v := ?_) rfl hH ?_
            (try simp only [PU, Act.put])
            refine tkK 8 (v := ?_) rfl ?hy hH ?_
            case hy => (intro w9_ hS9; have t := (hS9.1.blk (HK4.out).2.2 HN7'.out).cell; clear hS9; go_simp; try with_reducible rfl)
            (try simp only [PU, Act.put])
            refine nxH 9 (by kernel_rfl) rfl (fun K hK => ?_)
            go_simp
            refine (HV.out _ hX).mono ?_
            rintro en wb_ ⟨rfl, hbn⟩
            replace hX := hX.next hbn
            refine hK.out _ _ ⟨Fr.of hX, (HR8.out.next hX HR8.out.B).cell6⟩ (fun hH => ?_)
            clear hK
            (try simp only [PU, Act.put])
            clear hbn
            refine nxH 10 (by kernel_rfl) rfl (fun K hK => ?_)
            go_simp
            refine (HOP.out _ hX).mono ?_
            rintro en wc_ ⟨rfl, hne, hbb, hfo, h6⟩
            refine hK.out _ _ ⟨(Fr.of hX).trans hfo, h6⟩ (fun hH => ?_)
            clear hK
            (try simp only [PU, Act.put])
            refine nxH 11 (by kernel_rfl) rfl (fun K hK => ?_)
            go_simp
            refine (HCF.out _ hne _).mono ?_
            rintro en wd_ ⟨rfl, rfl⟩
            dsimp only
            exact ⟨rfl, rfl, hbb⟩
          | ok σ3 =>
            obtain rfl : QT = .ok (σ3, f3) := HQ5.out.symm
            unfold OpP at HOP
            dsimp only at HOP HQ5
            go_wp2_with fail
            refine wp_region_held_drew (S := fun W => Fr (RO S7 R r) w8 W ∧ W.cell? ⟨r, 6, none⟩ = some (.pointer (some ⟨R.st, 0, none⟩))) (by kernel_rfl) (⟨(Fr.refl _ _).drew, HR8.out.cell6⟩) (fun hH => ?_)
            refine wpAnyH_atN ?_
            intro wa hwa
            have hX : Below w8.heap.size w8 wa := by rw [hwa]; exact (Below.refl _ _).drew
            replace hH := (show Fr (RO S7 R r) w8 wa ∧ wa.cell? ⟨r, 6, none⟩ = some (.pointer (some ⟨R.st, 0, none⟩)) by rw [hwa]; exact hH)
            clear hwa
            refine tkQ 0 (v := ?_) rfl hH ?_
            (try simp only [PU, Act.put])
            refine tkQ 1 (v := ?_) rfl hH ?_
            (try simp only [PU, Act.put])
            refine tkQ 2 (v := ?_) rfl hH ?_
            (try simp only [PU, Act.put])
            refine tkQ 3 (v := ?_) rfl hH ?_
            (try simp only [PU, Act.put])
            refine tkK 4 (v := ?_) rfl ?hy hH ?_
            case hy => (intro w9_ hS9; have t := hS9.2; clear hS9; go_simp; try with_reducible rfl)
            (try simp only [PU, Act.put])
            refine tkQ 5 (v := ?_) rfl hH ?_
            (try simp only [PU, Act.put])
            refine tkK 6 (v := ?_) rfl ?hy hH ?_
            case hy => (intro w9_ hS9; have t := (hS9.1.blk (HK4.out).1 HNI'.out).cell; clear hS9; go_simp; try with_reducible rfl)
            (try simp only [PU, Act.put])
            refine tkQ 7 (v := ?_) rfl hH ?_
            (try simp only [PU, Act.put])
            refine tkK 8 (v := ?_) rfl ?hy hH ?_
            case hy => (intro w9_ hS9; have t := (hS9.1.blk (HK4.out).2.2 HN7'.out).cell; clear hS9; go_simp; try with_reducible rfl)
            (try simp only [PU, Act.put])
            refine nxH 9 (by kernel_rfl) rfl (fun K hK => ?_)
            go_simp
            refine (HV.out _ hX).mono ?_
            rintro en wb_ ⟨rfl, hbn⟩
            replace hX := hX.next hbn
            refine hK.out _ _ ⟨Fr.of hX, (HR8.out.next hX HR8.out.B).cell6⟩ (fun hH => ?_)
            clear hK
            (try simp only [PU, Act.put])
            clear hbn
            refine nxH 10 (by kernel_rfl) rfl (fun K hK => ?_)
            go_simp
            refine (HOP.out _ hX).mono ?_
            rintro en wc_ ⟨rfl, ⟨S5, hra, hx5⟩, hfo, h6⟩
            refine hK.out _ _ ⟨(Fr.of hX).trans hfo, h6⟩ (fun hH => ?_)
            clear hK
            (try simp only [PU, Act.put])
            have HRA := Lib.hid hra; have HX5 := Lib.hid hx5
            clear hra hx5 hfo h6
            refine nxH 11 (by kernel_rfl) rfl (fun K hK => ?_)
            go_simp
            refine (HC0.out _).mono ?_
            rintro en wd_ ⟨rfl, rfl⟩
            refine hK.out _ _ hH (fun hH => ?_)
            clear hK
            (try simp only [PU, Act.put])
            refine wpAnyH_done (by kernel_rfl) ?_ _
            have HR9 := Lib.hid (HRA.out kd7 m7 (closeM_ok HR8.out.ok HQO.out) HR8.out.fm HR8.out.m0)
            have HX9 : Hid (S.Ext S5 w3) := Lib.hid (HX8.out.trans ⟨HX5.out.1, fun k hk => HX5.out.2 k (Nat.lt_of_lt_of_le hk hX.size)⟩ HF8.out.size)
            have HF9 := Lib.hid (RO.fr HX8.out HF8.out hH.1)
            clear hX hH HRA HX5 HOP HV HK4
            go_wp2_with fail
            refine bodyPost_end (results_none rfl _ _ _) rfl ?_
            exact ⟨rfl, S5, kd7, m7, HR9.out, HXW.out _ HX9.out, HF3.out.trans HF9.out⟩
end
end Go.Proofs.YtakfdnnlhjhcfaaGreatDoor
