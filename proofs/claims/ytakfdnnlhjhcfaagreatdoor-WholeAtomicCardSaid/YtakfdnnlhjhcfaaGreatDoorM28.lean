/- WhIf WhIg. -/
import Derived.Test.YtakfdnnlhjhcfaaGreatDoorM27
set_option linter.unusedVariables false
set_option linter.unusedSimpArgs false
set_option linter.unusedSimpArgs false
set_option maxRecDepth 100000
set_option maxHeartbeats 4000000
namespace Bk
open Go Go.RowKit
theorem KV.succ {w : World} {B : Nat} : ∀ {d : Nat} {x : Nd}, KV w B d x → KV w B (d + 1) x
  | 0, _, h => h.elim
  | d + 1, x, ⟨h1, h2, h3, h4, h5, h6⟩ => ⟨h1, h2, h3, h4, h5, fun i hi => let ⟨y, a, b⟩ := h6 i hi; ⟨y, a, KV.succ b⟩⟩
theorem KV.kid {w : World} {B d i : Nat} {x y : Nd} (h : KV w B (d + 1) x) (hi : i < x.n) (hy : Kid w B x i y) : KV w B d y := by
  obtain ⟨z, a, b⟩ := h.2.2.2.2.2 i hi
  rwa [Kid.one hy a]
end Bk
namespace Go.Proofs.YtakfdnnlhjhcfaaGreatDoor
section
open Go.RowKit Bk
section
variable {w0 w w' : World} {B0 r fuel f m : Nat} {R : Rn} {S : Sv} {σ : PSt} {kd : Nat → Int}
theorem holdsR_lt {look : ByteArray → Option (List Int)} {e : Ex} {f : Nat} {t : Bool} {f' : Nat} (h : holdsR look e f = .ok (t, f')) : f = f' + 1 := by
  unfold holdsR at h
  cases f with
  | zero => cases h
  | succ f =>
    dsimp only at h
    split at h
    · cases h
    · injection h with h; injection h with _ h; rw [h]
theorem e_endsP {x y z : Nd} (hy : Kid w0 B0 x 0 y) (hz : Kid w0 B0 x (x.n - 1) z) (hn : 0 < x.n) (hn2 : x.n ≤ 8) (back : Bool) : ∃ p q, p = (if back then z else y) ∧ q = (if back then y else z) ∧ ∀ W, Below B0 w0 W → B0 ≤ W.heap.size → Calls Tryz.prog 125 #[.agg #[.int .u8 x.k, .int .i64 x.num, .string x.nm, .slice x.A x.n x.cap], .bool back] W fun e w' => e = .returned (.tuple #[.agg #[.int .u8 p.k, .int .i64 p.num, .string p.nm, .slice p.A p.n p.cap], .agg #[.int .u8 q.k, .int .i64 q.num, .string q.nm, .slice q.A q.n q.cap]]) ∧ Below W.heap.size W w' := by
  refine ⟨_, _, rfl, rfl, fun W hW hB => ?_⟩
  have := e_ends hy hz hn hn2 back hW hB
  cases back <;> exact this
theorem c_branch {procs : List Pr} {n d : Nat} (hbk : BlkC w0 B0 r R fuel procs n) (h : RAt w0 B0 w r R S σ fuel f kd m) (hf : f < n + 1) (back : Bool) {e e' : Ex} {a b rest : Sq} {x : Nd} (hx : StAt w0 B0 (d + 1) (.ifs e a b e' rest) x) (hk : KV w0 B0 (d + 1) x) (hck : (Sq.ifs e a b e' rest).cok procs) :
    Calls Tryz.prog 100 #[.pointer (some ⟨r, 0, none⟩), .agg #[.int .u8 x.k, .int .i64 x.num, .string x.nm, .slice x.A x.n x.cap], .bool back] w fun en w' => RunP w0 B0 w r R S fuel (headM procs n (execP procs n) back (.ifs e a b e' rest) σ f) en w' := by
  obtain ⟨hk52, hn4, y0, y1, y2, y3, k0, k1, k2, k3, v0, b1, b2, v3⟩ := hx
  have kv := fun i y (hi : i < 4) (hy : Kid w0 B0 x i y) => hk.kid (by rw [hn4]; exact hi) hy
  obtain ⟨p, q, hp, hq, hE⟩ := e_endsP (y := y0) (z := y3) k0 (by rw [hn4]; exact k3) (by omega) (by omega) back
  have HP : EV w0 B0 nameB (if back then e' else e) p ∧ KV w0 B0 d p := by
    subst hp; cases back
    · exact ⟨v0, kv 0 _ (by omega) k0⟩
    · exact ⟨v3, kv 3 _ (by omega) k3⟩
  have HQ : EV w0 B0 nameB (if back then e else e') q ∧ KV w0 B0 d q := by
    subst hq; cases back
    · exact ⟨v3, kv 3 _ (by omega) k3⟩
    · exact ⟨v0, kv 0 _ (by omega) k0⟩
  show Calls _ _ _ _ fun en w' => RunP w0 B0 w r R S fuel (holdsM (if back then e' else e) (fun t => (execP procs n back (if t then a else b)).seq (assertM (if back then e else e') t)) σ f) en w'
  rw [holdsM_eq]
  have HBT : ∀ t : Bool, ∃ y i, Kid w0 B0 x i y ∧ i = (if t then 1 else 2) ∧ SqAt w0 B0 d (if t then a else b) y ∧ KV w0 B0 (d + 1) y ∧ (if t then a else b).cok procs := fun t => by
    cases t
    · exact ⟨y2, 2, k2, rfl, b2, (kv 2 _ (by omega) k2).succ, hck.2.1⟩
    · exact ⟨y1, 1, k1, rfl, b1, (kv 1 _ (by omega) k1).succ, hck.1⟩
  generalize (if back then e' else e) = E1 at *
  generalize (if back then e else e') = E2 at *
  have H1 : Hid (∀ W, Below w.heap.size w W → RAt w0 B0 W r R S σ fuel f kd m) := Lib.hid fun W hW => h.next hW h.B
  have HH := Lib.hid (fun W hW => c_holds (H1.out W hW) HP.1 HP.2)
  obtain ⟨Q, hQ⟩ : ∃ Q, holdsR σ.look E1 f = Q := ⟨_, rfl⟩
  rw [hQ] at HH ⊢
  have HEN := Lib.hid hE
  have HQQ := Lib.hid HQ; have HBB := Lib.hid HBT; have HBK := Lib.hid hbk
  have HB := Lib.hid (show Below B0 w0 w ∧ B0 ≤ w.heap.size from ⟨h.base, h.B⟩)
  have HN4 := Lib.hid hn4
  have HNR : Hid (∀ b, w.heap.size ≤ b → ¬ RO S R r b) := Lib.hid fun b hb => h.nro hb
  clear hE HQ HBT hbk hn4 h hp hq HP kv k0 k1 k2 k3 v0 v3 b1 b2 hk hk52 hck
  obtain ⟨k, num, nm, A, nn, cap⟩ := x
  obtain ⟨pk, pnum, pnm, pA, pn, pc⟩ := p
  obtain ⟨qk, qnum, qnm, qA, qn, qc⟩ := q
  dsimp only at *
  cases Q with
  | error y =>
    unfold HoldP FailE at HH
    dsimp only at HH
    clear hQ HQQ HBB HBK HNR
    go_enter Tryz.func100, Tryz.ntmps100
    go_upto_region 1 with fail
    refine wp_nameE ?_
    intro w1 hw1
    have hb1 : Below w.heap.size w w1 := (by rw [hw1]; exact (by go_grown))
    have K1 : Blk w1 w.heap.size 26 #[.int .u8 k, .int .i64 num, .string nm, .slice A nn cap] := (by rw [hw1]; exact blkA)
    have HB1 := Lib.hid hb1; have HK1 := Lib.hid K1
    have hs1 := hb1.size
    obtain ⟨z_1, T_1, F_1⟩ := K1.open_
    clear hw1 hb1 K1
    go_wp2_with fail
    refine (HEN.out w1 (HB.out.1.trans (HB1.out.mono HB.out.2)) (Nat.le_trans HB.out.2 hs1)).mono ?_
    rintro en w2 ⟨rfl, hb2⟩
    have HB2 := Lib.hid (HB1.out.next hb2)
    have HK2 := Lib.hid (HK1.out.next hb2)
    have hs2 := hb2.size
    clear hb2 z_1 T_1 F_1 HK1 HB1
    go_upto_region 2 with fail
    refine wp_nameE ?_
    intro w3 hw3
    have hb3 : Below w2.heap.size w2 w3 := (by rw [hw3]; exact (by go_grown))
    have K6 : Blk w3 w2.heap.size 26 #[.int .u8 pk, .int .i64 pnum, .string pnm, .slice pA pn pc] := (by rw [hw3]; exact blkA)
    have K7 : Blk w3 (w2.heap.size + 1) 26 #[.int .u8 qk, .int .i64 qnum, .string qnm, .slice qA qn qc] := (by rw [hw3]; exact (Blk.new' (by simp) _ _))
    have HB3 := Lib.hid (HB2.out.next hb3)
    have HK3 := Lib.hid (HK2.out.next hb3); have HK7 := Lib.hid K7
    obtain ⟨z_6, T_6, F_6⟩ := K6.open_
    clear hw3 hb3 K6 K7 HK2 HB2
    go_wp2_with fail
    refine (HH.out w3 HB3.out).mono ?_
    rintro en w4 ⟨rfl, hb4⟩
    have HB4 := Lib.hid hb4
    clear hb4
    go_wp2_with fail
    exact ⟨rfl, rfl, HB4.out⟩
  | ok rr =>
    obtain ⟨t, f'⟩ := rr
    have hff := holdsR_lt hQ
    obtain ⟨y, i, hy, hi, hsq, hkv, hck⟩ := HBB.out t
    have HCK := Lib.hid hck
    have HYK := Lib.hid hy; have HSK := Lib.hid hsq; have HKV := Lib.hid hkv
    obtain ⟨g, o, hA, hgB, hcl⟩ := hy
    dsimp only at hA
    subst hA
    have HCL : Hid (∀ W, Below B0 w0 W → W.cell? ⟨g, o + i * 4, none⟩ = some (.int .u8 y.k) ∧ W.cell? ⟨g, o + i * 4 + 1, none⟩ = some (.int .i64 y.num) ∧ W.cell? ⟨g, o + i * 4 + 2, none⟩ = some (.string y.nm) ∧ W.cell? ⟨g, o + i * 4 + 3, none⟩ = some (.slice y.A y.n y.cap)) := Lib.hid fun W hW => ⟨(hW.cell (p := ⟨g, o + i * 4, none⟩) hgB).trans (hcl 0 _ rfl), (hW.cell (p := ⟨g, o + i * 4 + 1, none⟩) hgB).trans (hcl 1 _ rfl), (hW.cell (p := ⟨g, o + i * 4 + 2, none⟩) hgB).trans (hcl 2 _ rfl), (hW.cell (p := ⟨g, o + i * 4 + 3, none⟩) hgB).trans (hcl 3 _ rfl)⟩
    have HI := Lib.hid hi
    have HFF := Lib.hid hff
    have hn4 := HN4.out
    subst hn4
    unfold HoldP at HH
    dsimp only at HH ⊢
    obtain ⟨QT, hQT⟩ : ∃ QT, ((execP procs n back (if t = true then a else b)).seq (assertM E2 t)) σ f' = QT := ⟨_, rfl⟩
    rw [hQT]
    unfold Mo.seq at hQT
    have HBC := Lib.hid (fun W S' (h : RAt w0 B0 W r R S' σ fuel f' kd m) => HBK.out W S' σ f' kd m h (by have := HFF.out; omega) back d _ y HSK.out HKV.out HCK.out)
    obtain ⟨Q2, hQ2⟩ : ∃ Q2, execP procs n back (if t = true then a else b) σ f' = Q2 := ⟨_, rfl⟩
    rw [hQ2] at HBC hQT
    have HQT := Lib.hid hQT
    clear hck hQT hQ hff hi hsq hkv hcl hQ2 HBB HBK HSK HKV HYK HCK
    obtain ⟨yk, ynum, ynm, yA, yn, yc⟩ := y
    dsimp only at HCL HBC
    go_enter Tryz.func100, Tryz.ntmps100
    go_upto_region 1 with fail
    refine wp_nameE ?_
    intro w1 hw1
    have hb1 : Below w.heap.size w w1 := (by rw [hw1]; exact (by go_grown))
    have K1 : Blk w1 w.heap.size 26 #[.int .u8 k, .int .i64 num, .string nm, .slice (some ⟨g, o, none⟩) 4 cap] := (by rw [hw1]; exact blkA)
    have HB1 := Lib.hid hb1; have HK1 := Lib.hid K1
    have hs1 := hb1.size
    obtain ⟨z_1, T_1, F_1⟩ := K1.open_
    clear hw1 hb1 K1
    go_wp2_with fail
    refine (HEN.out w1 (HB.out.1.trans (HB1.out.mono HB.out.2)) (Nat.le_trans HB.out.2 hs1)).mono ?_
    rintro en w2 ⟨rfl, hb2⟩
    have HB2 := Lib.hid (HB1.out.next hb2)
    have HK2 := Lib.hid (HK1.out.next hb2)
    have hs2 := hb2.size
    clear hb2 z_1 T_1 F_1 HK1 HB1
    go_upto_region 2 with fail
    refine wp_nameE ?_
    intro w3 hw3
    have hb3 : Below w2.heap.size w2 w3 := (by rw [hw3]; exact (by go_grown))
    have K6 : Blk w3 w2.heap.size 26 #[.int .u8 pk, .int .i64 pnum, .string pnm, .slice pA pn pc] := (by rw [hw3]; exact blkA)
    have K7 : Blk w3 (w2.heap.size + 1) 26 #[.int .u8 qk, .int .i64 qnum, .string qnm, .slice qA qn qc] := (by rw [hw3]; exact (Blk.new' (by simp) _ _))
    have HB3 := Lib.hid (HB2.out.next hb3)
    have HK3 := Lib.hid (HK2.out.next hb3); have HK7 := Lib.hid K7
    obtain ⟨z_6, T_6, F_6⟩ := K6.open_
    clear hw3 hb3 K6 K7 HK2 HB2
    go_wp2_with fail
    refine (HH.out w3 HB3.out).mono ?_
    rintro en w4 ⟨rfl, hr4, hf4⟩
    have HR4 := Lib.hid hr4; have HF4 := Lib.hid hf4
    have K1 := hf4.blk HK3.out (HNR.out _ (Nat.le_refl _))
    have HK4 := Lib.hid (hf4.blk HK7.out (HNR.out _ (by omega)))
    obtain ⟨c0, c1, c2, c3⟩ := HCL.out w4 hr4.base
    obtain ⟨z_1, T_1, F_1⟩ := K1.open_
    clear hr4 hf4 K1 z_6 T_6 F_6
    have HAS := Lib.hid (fun W S' σ' f' kd' m' (h : RAt w0 B0 W r R S' σ' fuel f' kd' m') => c_assert h HQQ.out.1 HQQ.out.2 t)
    have HXX := Lib.hid (Fr.of (O := RO S R r) HB3.out)
    cases Q2 with
    | error e2 =>
      obtain rfl : QT = .error e2 := HQT.out.symm
      unfold RunP FailE at HBC
      dsimp only at HBC
      cases t
      all_goals
        have hi := HI.out
        simp only [Bool.false_eq_true, if_false, if_true] at hi
        subst hi
        simp only [Nat.one_mul, Nat.reduceMul] at c0 c1 c2 c3
        go_wp2_with fail
        refine (HBC.out w4 S HR4.out).mono ?_
        rintro en w5 ⟨rfl, hb5⟩
        have HB5 := Lib.hid hb5
        clear hb5
        go_wp2_with fail
        exact ⟨rfl, rfl, HB5.out⟩
    | ok p2 =>
      obtain ⟨σ5, f5⟩ := p2
      unfold RunP at HBC
      dsimp only at HBC
      have HA2 := Lib.hid (fun W S' kd' m' (h : RAt w0 B0 W r R S' σ5 fuel f5 kd' m') => HAS.out W S' σ5 f5 kd' m' h)
      have hQ3 : assertM E2 t σ5 f5 = QT := HQT.out
      rw [hQ3] at HA2
      have HNR7 : Hid (¬ RO S R r (w2.heap.size + 1)) := Lib.hid (HNR.out _ (by omega))
      clear hQ3 HAS HQT
      have HPOST : Hid (∀ w5 S5 en w6, S.Ext S5 w4 → Fr (RO S R r) w4 w5 → RunP w0 B0 w5 r R S5 fuel QT en w6 → RunP w0 B0 w r R S fuel QT en w6) := Lib.hid fun w5 S5 en w6 h1 h2 h3 => RunP.pre (w' := w4) (S' := S) (Sv.Ext.refl _ _) (HXX.out.trans HF4.out) (RunP.pre h1 h2 h3)
      cases t
      all_goals
        have hi := HI.out
        simp only [Bool.false_eq_true, if_false, if_true] at hi
        subst hi
        simp only [Nat.one_mul, Nat.reduceMul] at c0 c1 c2 c3
        go_wp2_with fail
        refine (HBC.out w4 S HR4.out).mono ?_
        rintro en w5 ⟨rfl, S5, kd5, m5, hr5, hx5, hf5⟩
        have HR5 := Lib.hid hr5; have HX5 := Lib.hid hx5; have HF5 := Lib.hid hf5
        obtain ⟨z_7, T_7, F_7⟩ := (hf5.blk HK4.out HNR7.out).open_
        clear hr5 hx5 hf5 z_1 T_1 F_1 c0 c1 c2 c3
        go_wp2_with fail
        refine (HA2.out w5 S5 kd5 m5 HR5.out).mono ?_
        intro en w6 h6
        have HF6 := Lib.hid (HPOST.out w5 S5 en w6 HX5.out HF5.out h6)
        have H6 := Lib.hid h6
        clear h6
        cases QT with
        | error e3 =>
          obtain ⟨rfl, _⟩ := H6.out
          unfold FailE at *
          go_wp2_with fail
          exact ⟨rfl, HF6.out⟩
        | ok p3 =>
          obtain ⟨rfl, _⟩ := H6.out
          go_wp2_with fail
          refine bodyPost_end (results_none rfl _ _ _) rfl ?_
          exact HF6.out
end
end
section
open Go.RowKit Bk
section
variable {w0 w w' : World} {B0 r fuel f m : Nat} {R : Rn} {S : Sv} {σ : PSt} {kd : Nat → Int}
theorem assertM_lt {e : Ex} {want : Bool} {σ σ' : PSt} {f f' : Nat} (h : assertM e want σ f = .ok (σ', f')) : f = f' + 1 := by
  unfold assertM at h
  rw [holdsM_eq] at h
  cases hq : holdsR σ.look e f with
  | error x => rw [hq] at h; cases h
  | ok r =>
    obtain ⟨t, f1⟩ := r
    have := holdsR_lt hq
    rw [hq] at h
    dsimp only at h
    split at h
    · simp only [okM, Except.ok.injEq, Prod.mk.injEq] at h
      omega
    · cases h
def Keep3 (W : World) (bi b6 b7 : Nat) (ti : TypeId) (ci c6 c7 : Array Value) : Prop := Blk W bi ti ci ∧ Blk W b6 ti c6 ∧ Blk W b7 ti c7
theorem c_loop {procs : List Pr} {n d : Nat} (hbk : BlkC w0 B0 r R fuel procs n) (h : RAt w0 B0 w r R S σ fuel f kd m) (hf : f < n + 1) (back : Bool) {e e' : Ex} {a b rest : Sq} {x : Nd} (hx : StAt w0 B0 (d + 1) (.frm e a b e' rest) x) (hk : KV w0 B0 (d + 1) x) (hck : (Sq.frm e a b e' rest).cok procs) :
    Calls Tryz.prog 101 #[.pointer (some ⟨r, 0, none⟩), .agg #[.int .u8 x.k, .int .i64 x.num, .string x.nm, .slice x.A x.n x.cap], .bool back] w fun en w' => RunP w0 B0 w r R S fuel (headM procs n (execP procs n) back (.frm e a b e' rest) σ f) en w' := by
  obtain ⟨hk53, hn4, y0, y1, y2, y3, k0, k1, k2, k3, v0, b1, b2, v3⟩ := hx
  have kv := fun i y (hi : i < 4) (hy : Kid w0 B0 x i y) => hk.kid (by rw [hn4]; exact hi) hy
  obtain ⟨p, q, hp, hq, hE⟩ := e_endsP (y := y0) (z := y3) k0 (by rw [hn4]; exact k3) (by omega) (by omega) back
  have HP : EV w0 B0 nameB (if back then e' else e) p ∧ KV w0 B0 d p := by
    subst hp; cases back
    · exact ⟨v0, kv 0 _ (by omega) k0⟩
    · exact ⟨v3, kv 3 _ (by omega) k3⟩
  have HQ : EV w0 B0 nameB (if back then e else e') q ∧ KV w0 B0 d q := by
    subst hq; cases back
    · exact ⟨v3, kv 3 _ (by omega) k3⟩
    · exact ⟨v0, kv 0 _ (by omega) k0⟩
  show Calls _ _ _ _ fun en w' => RunP w0 B0 w r R S fuel (((assertM (if back then e' else e) true).seq (loopM (execP procs n back a) (execP procs n back b) (if back then e' else e) (if back then e else e') n)) σ f) en w'
  generalize (if back then e' else e) = E1 at *
  generalize (if back then e else e') = E2 at *
  have H1 : Hid (∀ W, Below w.heap.size w W → RAt w0 B0 W r R S σ fuel f kd m) := Lib.hid fun W hW => h.next hW h.B
  have HEN := Lib.hid hE
  have HB := Lib.hid (show Below B0 w0 w ∧ B0 ≤ w.heap.size from ⟨h.base, h.B⟩)
  have HNR : Hid (∀ b, w.heap.size ≤ b → ¬ RO S R r b) := Lib.hid fun b hb => h.nro hb
  have HAS := Lib.hid (fun want W S' σ' f' kd' m' (h : RAt w0 B0 W r R S' σ' fuel f' kd' m') => c_assert h HP.1 HP.2 want)
  have HHO := Lib.hid (fun W S' σ' f' kd' m' (h : RAt w0 B0 W r R S' σ' fuel f' kd' m') => c_holds h HQ.1 HQ.2)
  have HB1 := Lib.hid (fun W S' σ' f' kd' m' (h : RAt w0 B0 W r R S' σ' fuel f' kd' m') (hf : f' < n) => hbk W S' σ' f' kd' m' h hf back d a y1 b1 (kv 1 _ (by omega) k1).succ hck.1)
  have HB2 := Lib.hid (fun W S' σ' f' kd' m' (h : RAt w0 B0 W r R S' σ' fuel f' kd' m') (hf : f' < n) => hbk W S' σ' f' kd' m' h hf back d b y2 b2 (kv 2 _ (by omega) k2).succ hck.2.1)
  have HL1 : Hid (∀ σ f σ' f', f < n → execP procs n back a σ f = .ok (σ', f') → f' ≤ f) := Lib.hid fun σ f σ' f' h1 h2 => (Fuels.execP procs n back a σ f h1 σ' f' h2).1
  have HL2 : Hid (∀ σ f σ' f', f < n → execP procs n back b σ f = .ok (σ', f') → f' ≤ f) := Lib.hid fun σ f σ' f' h1 h2 => (Fuels.execP procs n back b σ f h1 σ' f' h2).1
  generalize execP procs n back a = MA at *
  generalize execP procs n back b = MB at *
  obtain ⟨QT, hQT⟩ : ∃ QT, ((assertM E1 true).seq (loopM MA MB E1 E2 n)) σ f = QT := ⟨_, rfl⟩
  rw [hQT]
  unfold Mo.seq at hQT
  obtain ⟨Q1, hQ1⟩ : ∃ Q1, assertM E1 true σ f = Q1 := ⟨_, rfl⟩
  rw [hQ1] at hQT
  have HQ1 := Lib.hid hQ1; have HQT := Lib.hid hQT; have HFN := Lib.hid hf
  obtain ⟨g, o, hA, hgB, hcl1⟩ := k1
  obtain ⟨g', o', hA', _, hcl2⟩ := k2
  rw [hA] at hA'
  injection hA' with hA'
  injection hA' with e1 e2 _
  subst e1; subst e2
  clear hE hbk hQT hQ1 h hp hq HP HQ kv k0 k3 v0 v3 b1 b2 hk hk53 hf hck
  obtain ⟨xk, num, nm, A, nn, cap⟩ := x
  obtain ⟨pk, pnum, pnm, pA, pn, pc⟩ := p
  obtain ⟨qk, qnum, qnm, qA, qn, qc⟩ := q
  obtain ⟨yk, ynum, ynm, yA, yn, yc⟩ := y1
  obtain ⟨zk, znum, znm, zA, zn, zc⟩ := y2
  dsimp only at *
  subst hA; subst hn4
  simp only [Nat.one_mul, Nat.reduceMul] at hcl1 hcl2
  have HC1 : Hid (∀ W, Below B0 w0 W → W.cell? ⟨g, o + 4, none⟩ = some (.int .u8 yk) ∧ W.cell? ⟨g, o + 4 + 1, none⟩ = some (.int .i64 ynum) ∧ W.cell? ⟨g, o + 4 + 2, none⟩ = some (.string ynm) ∧ W.cell? ⟨g, o + 4 + 3, none⟩ = some (.slice yA yn yc)) := Lib.hid fun W hW => ⟨(hW.cell (p := ⟨g, o + 4, none⟩) hgB).trans (hcl1 0 _ rfl), (hW.cell (p := ⟨g, o + 4 + 1, none⟩) hgB).trans (hcl1 1 _ rfl), (hW.cell (p := ⟨g, o + 4 + 2, none⟩) hgB).trans (hcl1 2 _ rfl), (hW.cell (p := ⟨g, o + 4 + 3, none⟩) hgB).trans (hcl1 3 _ rfl)⟩
  have HC2 : Hid (∀ W, Below B0 w0 W → W.cell? ⟨g, o + 8, none⟩ = some (.int .u8 zk) ∧ W.cell? ⟨g, o + 8 + 1, none⟩ = some (.int .i64 znum) ∧ W.cell? ⟨g, o + 8 + 2, none⟩ = some (.string znm) ∧ W.cell? ⟨g, o + 8 + 3, none⟩ = some (.slice zA zn zc)) := Lib.hid fun W hW => ⟨(hW.cell (p := ⟨g, o + 8, none⟩) hgB).trans (hcl2 0 _ rfl), (hW.cell (p := ⟨g, o + 8 + 1, none⟩) hgB).trans (hcl2 1 _ rfl), (hW.cell (p := ⟨g, o + 8 + 2, none⟩) hgB).trans (hcl2 2 _ rfl), (hW.cell (p := ⟨g, o + 8 + 3, none⟩) hgB).trans (hcl2 3 _ rfl)⟩
  clear hcl1 hcl2 hgB
  go_enter Tryz.func101, Tryz.ntmps101
  go_upto_region 1 with fail
  refine wp_nameE ?_
  intro w1 hw1
  have hb1 : Below w.heap.size w w1 := (by rw [hw1]; exact (by go_grown))
  have K1 : Blk w1 w.heap.size 26 #[.int .u8 xk, .int .i64 num, .string nm, .slice (some ⟨g, o, none⟩) 4 cap] := (by rw [hw1]; exact blkA)
  have HB1 := Lib.hid hb1; have HK1 := Lib.hid K1
  have hs1 := hb1.size
  obtain ⟨z_1, T_1, F_1⟩ := K1.open_
  clear hw1 hb1 K1
  go_wp2_with fail
  refine (HEN.out w1 (HB.out.1.trans (HB1.out.mono HB.out.2)) (Nat.le_trans HB.out.2 hs1)).mono ?_
  rintro en w2 ⟨rfl, hb2⟩
  have HB2 := Lib.hid (HB1.out.next hb2)
  have HK2 := Lib.hid (HK1.out.next hb2)
  have hs2 := hb2.size
  clear hb2 z_1 T_1 F_1 HK1 HB1
  go_upto_region 2 with fail
  refine wp_nameE ?_
  intro w3 hw3
  have hb3 : Below w2.heap.size w2 w3 := (by rw [hw3]; exact (by go_grown))
  have K6 : Blk w3 w2.heap.size 26 #[.int .u8 pk, .int .i64 pnum, .string pnm, .slice pA pn pc] := (by rw [hw3]; exact blkA)
  have K7 : Blk w3 (w2.heap.size + 1) 26 #[.int .u8 qk, .int .i64 qnum, .string qnm, .slice qA qn qc] := (by rw [hw3]; exact (Blk.new' (by simp) _ _))
  have HB3 := Lib.hid (HB2.out.next hb3)
  have HK3 := Lib.hid (HK2.out.next hb3); have HK6 := Lib.hid K6; have HK7 := Lib.hid K7
  have HNI := Lib.hid (HNR.out w.heap.size (Nat.le_refl _))
  have HN6 := Lib.hid (HNR.out w2.heap.size (by omega))
  have HN7 := Lib.hid (HNR.out (w2.heap.size + 1) (by omega))
  have hi3 : w.heap.size < w2.heap.size := by have := HK2.out.lt; omega
  clear hw3 hb3 K6 K7 HK2 HB2 HNR hs1
  have HW3 : Hid (w.heap.size ≤ w3.heap.size) := Lib.hid HB3.out.size
  have HF3 := Lib.hid (Fr.of (O := RO S R r) HB3.out)
  have HXW : Hid (∀ S5, S.Ext S5 w3 → S.Ext S5 w) := Lib.hid fun S5 h => ⟨h.1, fun k hk => h.2 k (Nat.lt_of_lt_of_le hk HB3.out.size)⟩
  have HR3 := Lib.hid (H1.out w3 HB3.out)
  generalize hb6e : w2.heap.size + 1 = b7 at *
  generalize w2.heap.size = b6 at *
  generalize hbi : w.heap.size = bi at *
  clear hb6e hbi HB3 H1
  have HKP : Hid (∀ W, Fr (RO S R r) w3 W → Keep3 W bi b6 b7 26 #[.int .u8 xk, .int .i64 num, .string nm, .slice (some ⟨g, o, none⟩) 4 cap] #[.int .u8 pk, .int .i64 pnum, .string pnm, .slice pA pn pc] #[.int .u8 qk, .int .i64 qnum, .string qnm, .slice qA qn qc]) := Lib.hid fun W hW => ⟨hW.blk HK3.out HNI.out, hW.blk HK6.out HN6.out, hW.blk HK7.out HN7.out⟩
  obtain ⟨z_6, T_6, F_6⟩ := HK6.out.open_
  clear HK3 HK6 HK7 HNI HN6 HN7
  go_wp2_with fail
  cases Q1 with
  | error e1 =>
    obtain rfl : QT = .error e1 := HQT.out.symm
    have HC := Lib.hid (HAS.out true w3 S σ f kd m HR3.out)
    rw [HQ1.out] at HC
    unfold RunP FailE at HC
    dsimp only at HC
    refine HC.out.mono ?_
    rintro en w4 ⟨rfl, hbw4⟩
    have HBw4 := Lib.hid hbw4
    clear hbw4
    go_wp2_with fail
    exact ⟨rfl, rfl, HBw4.out⟩
  | ok r1 =>
    obtain ⟨σ1, f1⟩ := r1
    have HFL := Lib.hid (assertM_lt HQ1.out)
    have HC := Lib.hid (HAS.out true w3 S σ f kd m HR3.out)
    rw [HQ1.out] at HC
    unfold RunP at HC
    dsimp only at HC HQT
    refine HC.out.mono ?_
    rintro en w4 ⟨rfl, S4, kd4, m4, hr4, hx4, hf4⟩
    have HR4 := Lib.hid hr4; have HX4 := Lib.hid hx4; have HF4 := Lib.hid hf4
    clear hr4 hx4 hf4 HC z_6 T_6 F_6
    go_wp2_with fail
    go_loopg [] n (fun k wr => ∃ (S' : Sv) (σ' : PSt) (f' : Nat) (kd' : Nat → Int) (m' : Nat), f' < k ∧ k ≤ n ∧ RAt w0 B0 wr r R S' σ' fuel f' kd' m' ∧ S.Ext S' w3 ∧ Fr (RO S R r) w3 wr ∧ loopM MA MB E1 E2 k σ' f' = QT)
    case atStart => exact ⟨S4, σ1, f1, kd4, m4, by have := HFL.out; have := HFN.out; omega, Nat.le_refl _, HR4.out, HX4.out, HF4.out, HQT.out⟩
    case round =>
      obtain ⟨S', σ', f', kd', m', hfk, hkn, hr, hx, hfr, hrest⟩ := hrel
      obtain ⟨j, rfl⟩ : ∃ j, gk = j + 1 := ⟨gk - 1, by omega⟩
      have hwr := Nat.le_trans HW3.out hfr.size
      have HXS : Hid (∀ S2, S'.Ext S2 wr → S.Ext S2 w3) := Lib.hid fun S2 h2 => hx.trans h2 hfr.size
      have HFS : Hid (∀ W, Fr (RO S' R r) wr W → Fr (RO S R r) w3 W) := Lib.hid fun W h2 => RO.fr hx hfr h2
      have HRR := Lib.hid hr; have HQR := Lib.hid hrest
      obtain ⟨K1, K6, K7⟩ := HKP.out wr hfr
      obtain ⟨z_1, T_1, F_1⟩ := K1.open_
      obtain ⟨c0, c1, c2, c3⟩ := HC1.out wr hr.base
      have hfn : f' < n := by omega
      have HC := Lib.hid (HB1.out wr S' σ' f' kd' m' hr hfn)
      have HLA := Lib.hid (fun σ'' f'' h => HL1.out σ' f' σ'' f'' hfn h)
      have HJ := Lib.hid hfk; have HJN := Lib.hid hkn
      unfold loopM Mo.seq at hrest
      obtain ⟨QA, hQA⟩ : ∃ QA, MA σ' f' = QA := ⟨_, rfl⟩
      rw [hQA] at HC hrest HLA
      have HQ2 := Lib.hid hrest
      clear hr hx hfr hrest K1 K6 K7 hfk hkn hfn hQA HQR
      cases QA with
      | error e2 =>
        obtain rfl : QT = .error e2 := HQ2.out.symm
        unfold RunP FailE at HC
        dsimp only at HC
        go_wp2_with fail
        refine HC.out.mono ?_
        rintro en w5 ⟨rfl, hbw5⟩
        have HBw5 := Lib.hid hbw5
        clear hbw5
        go_wp2_with fail
        exact ⟨rfl, rfl, HBw5.out⟩
      | ok r2 =>
        obtain ⟨σ2, f2⟩ := r2
        have HF2 := Lib.hid (HLA.out σ2 f2 rfl)
        unfold RunP at HC
        dsimp only at HC HQ2
        go_wp2_with fail
        refine HC.out.mono ?_
        rintro en w5 ⟨rfl, S5, kd5, m5, hr5, hx5, hf5⟩
        have HR5 := Lib.hid hr5
        have HX5 := Lib.hid (HXS.out S5 hx5)
        have HF5 := Lib.hid (HFS.out w5 hf5)
        obtain ⟨K1, K6, K7⟩ := HKP.out w5 HF5.out
        obtain ⟨z_7, T_7, F_7⟩ := K7.open_
        rw [holdsM_eq] at HQ2
        have HH := Lib.hid (HHO.out w5 S5 σ2 f2 kd5 m5 hr5)
        obtain ⟨QH, hQH⟩ : ∃ QH, holdsR σ2.look E2 f2 = QH := ⟨_, rfl⟩
        rw [hQH] at HH HQ2
        have HQH := Lib.hid hQH
        clear hr5 hx5 hf5 K1 K6 K7 hQH HC HLA z_1 T_1 F_1 c0 c1 c2 c3 HXS HFS
        go_wp2_with fail
        cases QH with
        | error e3 =>
          obtain rfl : QT = .error e3 := HQ2.out.symm
          unfold HoldP FailE at HH
          dsimp only at HH
          refine HH.out.mono ?_
          rintro en w6 ⟨rfl, hbw6⟩
          have HBw6 := Lib.hid hbw6
          clear hbw6
          go_wp2_with fail
          exact ⟨rfl, rfl, HBw6.out⟩
        | ok r3 =>
          obtain ⟨tt, f3⟩ := r3
          have HF3' := Lib.hid (holdsR_lt HQH.out)
          unfold HoldP at HH
          dsimp only at HH HQ2
          refine HH.out.mono ?_
          rintro en w6 ⟨rfl, hr6, hf6⟩
          have HR6 := Lib.hid hr6
          have HF6 := Lib.hid (RO.fr HX5.out HF5.out hf6)
          obtain ⟨K1, K6, K7⟩ := HKP.out w6 HF6.out
          obtain ⟨z_1, T_1, F_1⟩ := K1.open_
          obtain ⟨c0, c1, c2, c3⟩ := HC2.out w6 hr6.base
          clear hr6 hf6 K1 K6 K7 z_7 T_7 F_7 HH
          cases tt with
          | true =>
            obtain rfl : QT = .ok (σ2, f3) := HQ2.out.symm
            clear HC1 HC2 HQ2 HB1 HB2
            go_wp2_with fail
            refine bodyPost_end (results_none rfl _ _ _) rfl ?_
            exact ⟨rfl, S5, kd5, m5, HR6.out, HXW.out _ HX5.out, HF3.out.trans HF6.out⟩
          | false =>
            have HX6 : Hid (S.Ext S5 w3) := HX5
            have hf3n : f3 < n := by have := HF3'.out; have := HF2.out; have := HJ.out; have := HJN.out; omega
            have HC := Lib.hid (HB2.out w6 S5 σ2 f3 kd5 m5 HR6.out hf3n)
            have HLB := Lib.hid (fun σ'' f'' h => HL2.out σ2 f3 σ'' f'' hf3n h)
            have HQ3 : Hid (((MB.seq ((assertM E1 false).seq (loopM MA MB E1 E2 j))) σ2 f3) = QT) := HQ2
            unfold Mo.seq at HQ3
            obtain ⟨QB, hQB⟩ : ∃ QB, MB σ2 f3 = QB := ⟨_, rfl⟩
            rw [hQB] at HC HQ3 HLB
            clear hQB HQ2 hf3n HQH
            cases QB with
            | error e4 =>
              obtain rfl : QT = .error e4 := HQ3.out.symm
              unfold RunP FailE at HC
              dsimp only at HC
              go_wp2_with fail
              refine HC.out.mono ?_
              rintro en w7 ⟨rfl, hbw7⟩
              have HBw7 := Lib.hid hbw7
              clear hbw7
              go_wp2_with fail
              exact ⟨rfl, rfl, HBw7.out⟩
            | ok r4 =>
              obtain ⟨σ4, f4⟩ := r4
              have HF4' := Lib.hid (HLB.out σ4 f4 rfl)
              unfold RunP at HC
              dsimp only at HC HQ3
              go_wp2_with fail
              refine HC.out.mono ?_
              rintro en w7 ⟨rfl, S7, kd7, m7, hr7, hx7, hf7⟩
              have HR7 := Lib.hid hr7
              have HF7 := Lib.hid (RO.fr HX6.out HF6.out hf7)
              have HX7 := Lib.hid (HX6.out.trans hx7 HF6.out.size)
              obtain ⟨K1, K6, K7⟩ := HKP.out w7 HF7.out
              obtain ⟨z_6, T_6, F_6⟩ := K6.open_
              have HA := Lib.hid (HAS.out false w7 S7 σ4 f4 kd7 m7 hr7)
              obtain ⟨QN, hQN⟩ : ∃ QN, assertM E1 false σ4 f4 = QN := ⟨_, rfl⟩
              rw [hQN] at HA HQ3
              have HQN := Lib.hid hQN
              clear hr7 hx7 hf7 K1 K6 K7 hQN HC HLB z_1 T_1 F_1 c0 c1 c2 c3
              go_wp2_with fail
              cases QN with
              | error e5 =>
                obtain rfl : QT = .error e5 := HQ3.out.symm
                unfold RunP FailE at HA
                dsimp only at HA
                refine HA.out.mono ?_
                rintro en w8 ⟨rfl, hbw8⟩
                have HBw8 := Lib.hid hbw8
                clear hbw8
                go_wp2_with fail
                exact ⟨rfl, rfl, HBw8.out⟩
              | ok r5 =>
                obtain ⟨σ5, f5⟩ := r5
                have HF5' := Lib.hid (assertM_lt HQN.out)
                unfold RunP at HA
                dsimp only at HA HQ3
                refine HA.out.mono ?_
                rintro en w8 ⟨rfl, S8, kd8, m8, hr8, hx8, hf8⟩
                have HR8 := Lib.hid hr8
                have HF8 := Lib.hid (RO.fr HX7.out HF7.out hf8)
                have HX8 := Lib.hid (HX7.out.trans hx8 HF7.out.size)
                clear hr8 hx8 hf8 z_6 T_6 F_6 HA
                go_wp2_with fail
                go_roundg j
                case measure => omega
                case rel => exact ⟨S8, σ5, f5, kd8, m8, (by have := HF5'.out; have := HF4'.out; have := HF3'.out; have := HF2.out; have := HJ.out; omega), (by have := HJN.out; omega), HR8.out, HX8.out, HF8.out, HQ3.out⟩
end
end
end Go.Proofs.YtakfdnnlhjhcfaaGreatDoor
