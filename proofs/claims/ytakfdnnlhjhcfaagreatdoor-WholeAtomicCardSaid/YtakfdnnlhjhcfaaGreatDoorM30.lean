/- WhIk WhIl. -/
import Derived.Test.YtakfdnnlhjhcfaaGreatDoorZWhIh
set_option linter.unusedVariables false
set_option linter.unusedSimpArgs false
set_option linter.unusedSimpArgs false
set_option maxRecDepth 100000
set_option maxHeartbeats 4000000
namespace Go.Proofs.YtakfdnnlhjhcfaaGreatDoor
section
open Go.RowKit Bk
section
variable {w0 w w' : World} {B0 r fuel f m : Nat} {R : Rn} {S : Sv} {σ : PSt} {kd : Nat → Int}
theorem doM_ok {s : Sq} {σ' : PSt} (h : σ.Ok kd m) (hr : doM s σ = .ok σ') : σ'.Ok kd m := by
  cases s with
  | upd op p e _ => exact updM_ok h hr
  | swp p q _ => exact swpM_ok h hr
  | stk op s p _ => exact stkM_ok h hr
  | tap op p _ => exact tapM_ok h hr
  | _ => simp only [doM, Except.ok.injEq] at hr; subst hr; exact h
theorem headM_basic (procs : List Pr) (n : Nat) (inner : Bool → Sq → Mo) (back : Bool) {s : Sq} (hb : s.basic) : headM procs n inner back s = basicM (doM (if back then s.inv else s)) := by
  cases s <;> first | exact hb.elim | (cases back <;> rfl)
theorem c_Do1 {d : Nat} (h : RAt w0 B0 w r R S σ fuel f kd m) {s : Sq} {x : Nd} (hs : StAt w0 B0 (d + 1) s x) (hb : s.basic) (hv : KV w0 B0 (d + 1) x) : Calls Tryz.prog 109 #[.pointer (some ⟨R.st, 0, none⟩), .agg #[.int .u8 x.k, .int .i64 x.num, .string x.nm, .slice x.A x.n x.cap]] w fun e w' => OpP w0 B0 w r R S fuel f (doM s σ) e w' := by
  have hm := h.fm
  have := c_Do h.on h.B h.ok (by omega) (StAt.upS h.base h.B _ _ _ hs) hb (hv.upS h.base h.B)
  rw [h.st] at this
  exact this.mono fun e w' hr => h.opS hr
theorem c_Undo1 {d : Nat} (h : RAt w0 B0 w r R S σ fuel f kd m) {s : Sq} {x : Nd} (hs : StAt w0 B0 (d + 1) s x) (hb : s.basic) (hv : KV w0 B0 (d + 1) x) : Calls Tryz.prog 108 #[.pointer (some ⟨R.st, 0, none⟩), .agg #[.int .u8 x.k, .int .i64 x.num, .string x.nm, .slice x.A x.n x.cap]] w fun e w' => OpP w0 B0 w r R S fuel f (doM s.inv σ) e w' := by
  have hm := h.fm
  have := c_Undo h.on h.B h.ok (by omega) (StAt.upS h.base h.B _ _ _ hs) hb (hv.upS h.base h.B)
  rw [h.st] at this
  exact this.mono fun e w' hr => h.opS hr
theorem basic_kind {d : Nat} {s : Sq} {x : Nd} (hs : StAt w0 B0 (d + 1) s x) (hb : s.basic) : 40 ≤ x.k ∧ x.k ≤ 49 ∨ x.k = 56 := by
  cases s with
  | upd op p e _ => obtain ⟨h1, h2, _⟩ := hs; omega
  | swp p q _ => obtain ⟨h1, _⟩ := hs; omega
  | stk op s p _ => obtain ⟨h1, h2, _⟩ := hs; omega
  | tap op p _ => obtain ⟨h1, h2, _⟩ := hs; omega
  | _ => exact hb.elim
theorem st_basic {procs : List Pr} {n d : Nat} (h : RAt w0 B0 w r R S σ fuel f kd m) (hf : f < n + 1) (back : Bool) {s : Sq} {x : Nd} (hx : StAt w0 B0 (d + 1) s x) (hb : s.basic) (hk : KV w0 B0 (d + 1) x) :
    Calls Tryz.prog 67 #[.pointer (some ⟨r, 0, none⟩), .agg #[.int .u8 x.k, .int .i64 x.num, .string x.nm, .slice x.A x.n x.cap], .bool back] w fun en w' => RunP w0 B0 w r R S fuel (headM procs n (execP procs n) back s σ f) en w' := by
  rw [headM_basic _ _ _ _ hb]
  obtain ⟨s', hs'⟩ : ∃ s', (if back then s.inv else s) = s' := ⟨_, rfl⟩
  rw [hs']
  have H1 : Hid (∀ W, Below w.heap.size w W → RAt w0 B0 W r R S σ fuel f kd m) := Lib.hid fun W hW => h.next hW h.B
  have HNR : Hid (∀ b, w.heap.size ≤ b → ¬ RO S R r b) := Lib.hid fun b hb => h.nro hb
  have hkk := basic_kind hx hb
  have q52 : (x.k == 52) = false := by simp; omega
  have q53 : (x.k == 53) = false := by simp; omega
  have q54 : (x.k == 54) = false := by simp; omega
  have q55 : (x.k == 55) = false := by simp; omega
  have q50 : (x.k == 50) = false := by simp; omega
  have q51 : (x.k == 51) = false := by simp; omega
  have HDO : Hid (∀ W f', RAt w0 B0 W r R S σ fuel f' kd m → back = false → Calls Tryz.prog 109 #[.pointer (some ⟨R.st, 0, none⟩), .agg #[.int .u8 x.k, .int .i64 x.num, .string x.nm, .slice x.A x.n x.cap]] W fun e w' => OpP w0 B0 W r R S fuel f' (doM s' σ) e w') := Lib.hid fun W f' hW hb' => by
    subst hb'
    obtain rfl : s = s' := hs'
    exact c_Do1 hW hx hb hk
  have HUN : Hid (∀ W f', RAt w0 B0 W r R S σ fuel f' kd m → back = true → Calls Tryz.prog 108 #[.pointer (some ⟨R.st, 0, none⟩), .agg #[.int .u8 x.k, .int .i64 x.num, .string x.nm, .slice x.A x.n x.cap]] W fun e w' => OpP w0 B0 W r R S fuel f' (doM s' σ) e w') := Lib.hid fun W f' hW hb' => by
    subst hb'
    obtain rfl : s.inv = s' := hs'
    exact c_Undo1 hW hx hb hk
  obtain ⟨QT, hQT⟩ : ∃ QT, basicM (doM s') σ f = QT := ⟨_, rfl⟩
  rw [hQT]
  have HQT := Lib.hid hQT
  clear hQT h hx hb hk hs' hkk hf
  obtain ⟨xk, num, nm, A, nn, cap⟩ := x
  dsimp only at *
  go_enter Tryz.func67, Tryz.ntmps67
  go_upto_region 1 with fail
  refine wp_nameE ?_
  intro w1 hw1
  have hb1 : Below w.heap.size w w1 := (by rw [hw1]; exact (by go_grown))
  have K1 : Blk w1 w.heap.size 26 #[.int .u8 xk, .int .i64 num, .string nm, .slice A nn cap] := (by rw [hw1]; exact blkA)
  have HB1 := Lib.hid hb1; have HK1 := Lib.hid K1
  have hs1 := hb1.size
  have HR1 := Lib.hid (H1.out w1 hb1)
  have HNI := Lib.hid (HNR.out w.heap.size (Nat.le_refl _))
  have HF1 := Lib.hid (Fr.of (O := RO S R r) hb1)
  have HXW : Hid (∀ S5, S.Ext S5 w1 → S.Ext S5 w) := Lib.hid fun S5 h => ⟨h.1, fun k hk => h.2 k (Nat.lt_of_lt_of_le hk hb1.size)⟩
  obtain ⟨z_1, T_1, F_1⟩ := K1.open_
  clear hw1 hb1 K1 H1 HNR
  generalize w.heap.size = bi at *
  go_wp2_with fail
  cases f with
  | zero =>
    obtain rfl : QT = .error 18 := HQT.out.symm
    have HC := Lib.hid (c_stepRF HR1.out)
    unfold FailE at HC
    refine HC.out.mono ?_
    rintro en w4 ⟨rfl, hbw4⟩
    have HBw4 := Lib.hid hbw4
    clear hbw4
    go_wp2_with fail
    exact ⟨rfl, rfl, HBw4.out⟩
  | succ f =>
    have HQ2 : Hid ((match doM s' σ with | .error e => (.error e : Except Int (PSt × Nat)) | .ok σ' => .ok (σ', f)) = QT) := Lib.hid (by rw [← HQT.out]; rfl)
    clear HQT
    refine (c_stepR HR1.out).mono ?_
    rintro en w4 ⟨rfl, hr4, hf4⟩
    have HR4 := Lib.hid hr4
    have HF4 : Hid (Fr (RO S R r) w1 w4) := Lib.hid (hf4.mono fun k hk => .inr (.inl hk))
    have HD := Lib.hid (fun W hW => HDO.out W f (hr4.next hW hr4.B))
    have HU := Lib.hid (fun W hW => HUN.out W f (hr4.next hW hr4.B))
    clear hr4 hf4 HR1 T_1 z_1 F_1 HDO HUN
    have HK4 := Lib.hid (HF4.out.blk HK1.out HNI.out)
    obtain ⟨QO, hQO⟩ : ∃ QO, doM s' σ = QO := ⟨_, rfl⟩
    rw [hQO] at HD HU HQ2
    have HOK : Hid (∀ σ', QO = .ok σ' → σ'.Ok kd m) := Lib.hid fun σ' h => doM_ok HR4.out.ok (hQO.trans h)
    have HCF := Lib.hid (fun (y : Int) (hy : y ≠ 0) W => c_checkF (.pointer (some ⟨r, 0, none⟩)) y hy W)
    have HC0 := Lib.hid (fun W => c_check0 (.pointer (some ⟨r, 0, none⟩)) W)
    unfold FailE at HCF
    clear hQO
    cases back
    · have HOP := Lib.hid (fun W hW => HD.out W hW rfl)
      clear HD HU
      cases QO with
      | error eo =>
        obtain rfl : QT = .error eo := HQ2.out.symm
        unfold OpP at HOP
        dsimp only at HOP
        go_wp2_with fail
        refine wp_region_held_drew (S := fun W => Fr (RO S R r) w4 W ∧ W.cell? ⟨r, 6, none⟩ = some (.pointer (some ⟨R.st, 0, none⟩))) (by kernel_rfl) (⟨(Fr.refl _ _).drew, HR4.out.cell6⟩) (fun hH => ?_)
        refine wpAnyH_atN ?_
        intro wa hwa
        have hX : Below w4.heap.size w4 wa := by rw [hwa]; exact (Below.refl _ _).drew
        replace hH := (show Fr (RO S R r) w4 wa ∧ wa.cell? ⟨r, 6, none⟩ = some (.pointer (some ⟨R.st, 0, none⟩)) by rw [hwa]; exact hH)
        clear hwa
        refine tkQ 0 (v := ?_) rfl hH ?_
        (try simp only [PU, Act.put])
        refine tkQ 1 (v := ?_) rfl hH ?_
        (try simp only [PU, Act.put])
        refine tkQ 2 (v := ?_) rfl hH ?_
        (try simp only [PU, Act.put])
        refine tkQ 3 (v := ?_) rfl hH ?_
        (try simp only [PU, Act.put])
        refine tkK 4 (v := ?_) rfl ?hy hH ?_
        case hy => (intro w9_ hS9; have t := hS9.2; clear hS9; go_simp; try with_reducible rfl)
        (try simp only [PU, Act.put])
        refine tkK 5 (v := ?_) rfl ?hy hH ?_
        case hy => (intro w9_ hS9; have t := (hS9.1.blk HK4.out HNI.out).cell; clear hS9; go_simp; try with_reducible rfl)
        (try simp only [PU, Act.put])
        refine nxH 6 (by kernel_rfl) rfl (fun K hK => ?_)
        go_simp
        refine (HOP.out _ hX).mono ?_
        rintro en wb_ ⟨rfl, hne, hbb, hfo, h6⟩
        refine hK.out _ _ ⟨(Fr.of hX).trans hfo, h6⟩ (fun hH => ?_)
        clear hK
        (try simp only [PU, Act.put])
        refine nxH 7 (by kernel_rfl) rfl (fun K hK => ?_)
        go_simp
        refine (HCF.out _ hne _).mono ?_
        rintro en wc_ ⟨rfl, rfl⟩
        dsimp only
        exact ⟨rfl, rfl, hbb⟩
      | ok σ3 =>
        obtain rfl : QT = .ok (σ3, f) := HQ2.out.symm
        unfold OpP at HOP
        dsimp only at HOP HQ2
        go_wp2_with fail
        refine wp_region_held_drew (S := fun W => Fr (RO S R r) w4 W ∧ W.cell? ⟨r, 6, none⟩ = some (.pointer (some ⟨R.st, 0, none⟩))) (by kernel_rfl) (⟨(Fr.refl _ _).drew, HR4.out.cell6⟩) (fun hH => ?_)
        refine wpAnyH_atN ?_
        intro wa hwa
        have hX : Below w4.heap.size w4 wa := by rw [hwa]; exact (Below.refl _ _).drew
        replace hH := (show Fr (RO S R r) w4 wa ∧ wa.cell? ⟨r, 6, none⟩ = some (.pointer (some ⟨R.st, 0, none⟩)) by rw [hwa]; exact hH)
        clear hwa
        refine tkQ 0 (v := ?_) rfl hH ?_
        (try simp only [PU, Act.put])
        refine tkQ 1 (v := ?_) rfl hH ?_
        (try simp only [PU, Act.put])
        refine tkQ 2 (v := ?_) rfl hH ?_
        (try simp only [PU, Act.put])
        refine tkQ 3 (v := ?_) rfl hH ?_
        (try simp only [PU, Act.put])
        refine tkK 4 (v := ?_) rfl ?hy hH ?_
        case hy => (intro w9_ hS9; have t := hS9.2; clear hS9; go_simp; try with_reducible rfl)
        (try simp only [PU, Act.put])
        refine tkK 5 (v := ?_) rfl ?hy hH ?_
        case hy => (intro w9_ hS9; have t := (hS9.1.blk HK4.out HNI.out).cell; clear hS9; go_simp; try with_reducible rfl)
        (try simp only [PU, Act.put])
        refine nxH 6 (by kernel_rfl) rfl (fun K hK => ?_)
        go_simp
        refine (HOP.out _ hX).mono ?_
        rintro en wb_ ⟨rfl, ⟨S5, hra, hx5⟩, hfo, h6⟩
        refine hK.out _ _ ⟨(Fr.of hX).trans hfo, h6⟩ (fun hH => ?_)
        clear hK
        (try simp only [PU, Act.put])
        have HRA := Lib.hid hra; have HX5 := Lib.hid hx5
        clear hra hx5 hfo h6
        refine nxH 7 (by kernel_rfl) rfl (fun K hK => ?_)
        go_simp
        refine (HC0.out _).mono ?_
        rintro en wc_ ⟨rfl, rfl⟩
        refine hK.out _ _ hH (fun hH => ?_)
        clear hK
        (try simp only [PU, Act.put])
        refine wpAnyH_done (by kernel_rfl) ?_ _
        have HR9 := Lib.hid (HRA.out kd m (HOK.out _ rfl) HR4.out.fm HR4.out.m0)
        have HX9 : Hid (S.Ext S5 w1) := Lib.hid ⟨HX5.out.1, fun k hk => HX5.out.2 k (Nat.lt_of_lt_of_le hk (Nat.le_trans HF4.out.size hX.size))⟩
        have HF9 := Lib.hid (HF4.out.trans hH.1)
        clear hX hH HRA HX5 HOP
        go_wp2_with fail
        refine bodyPost_end (results_none rfl _ _ _) rfl ?_
        exact ⟨rfl, S5, kd, m, HR9.out, HXW.out _ HX9.out, HF1.out.trans HF9.out⟩
    · have HOP := Lib.hid (fun W hW => HU.out W hW rfl)
      clear HD HU
      cases QO with
      | error eo =>
        obtain rfl : QT = .error eo := HQ2.out.symm
        unfold OpP at HOP
        dsimp only at HOP
        go_wp2_with fail
        refine wp_region_held_drew (S := fun W => Fr (RO S R r) w4 W ∧ W.cell? ⟨r, 6, none⟩ = some (.pointer (some ⟨R.st, 0, none⟩))) (by kernel_rfl) (⟨(Fr.refl _ _).drew, HR4.out.cell6⟩) (fun hH => ?_)
        refine wpAnyH_atN ?_
        intro wa hwa
        have hX : Below w4.heap.size w4 wa := by rw [hwa]; exact (Below.refl _ _).drew
        replace hH := (show Fr (RO S R r) w4 wa ∧ wa.cell? ⟨r, 6, none⟩ = some (.pointer (some ⟨R.st, 0, none⟩)) by rw [hwa]; exact hH)
        clear hwa
        refine tkQ 0 (v := ?_) rfl hH ?_
        (try simp only [PU, Act.put])
        refine tkQ 1 (v := ?_) rfl hH ?_
        (try simp only [PU, Act.put])
        refine tkQ 2 (v := ?_) rfl hH ?_
        (try simp only [PU, Act.put])
        refine tkQ 3 (v := ?_) rfl hH ?_
        (try simp only [PU, Act.put])
        refine tkK 4 (v := ?_) rfl ?hy hH ?_
        case hy => (intro w9_ hS9; have t := hS9.2; clear hS9; go_simp; try with_reducible rfl)
        (try simp only [PU, Act.put])
        refine tkK 5 (v := ?_) rfl ?hy hH ?_
        case hy => (intro w9_ hS9; have t := (hS9.1.blk HK4.out HNI.out).cell; clear hS9; go_simp; try with_reducible rfl)
        (try simp only [PU, Act.put])
        refine nxH 6 (by kernel_rfl) rfl (fun K hK => ?_)
        go_simp
        refine (HOP.out _ hX).mono ?_
        rintro en wb_ ⟨rfl, hne, hbb, hfo, h6⟩
        refine hK.out _ _ ⟨(Fr.of hX).trans hfo, h6⟩ (fun hH => ?_)
        clear hK
        (try simp only [PU, Act.put])
        refine nxH 7 (by kernel_rfl) rfl (fun K hK => ?_)
        go_simp
        refine (HCF.out _ hne _).mono ?_
        rintro en wc_ ⟨rfl, rfl⟩
        dsimp only
        exact ⟨rfl, rfl, hbb⟩
      | ok σ3 =>
        obtain rfl : QT = .ok (σ3, f) := HQ2.out.symm
        unfold OpP at HOP
        dsimp only at HOP HQ2
        go_wp2_with fail
        refine wp_region_held_drew (S := fun W => Fr (RO S R r) w4 W ∧ W.cell? ⟨r, 6, none⟩ = some (.pointer (some ⟨R.st, 0, none⟩))) (by kernel_rfl) (⟨(Fr.refl _ _).drew, HR4.out.cell6⟩) (fun hH => ?_)
        refine wpAnyH_atN ?_
        intro wa hwa
        have hX : Below w4.heap.size w4 wa := by rw [hwa]; exact (Below.refl _ _).drew
        replace hH := (show Fr (RO S R r) w4 wa ∧ wa.cell? ⟨r, 6, none⟩ = some (.pointer (some ⟨R.st, 0, none⟩)) by rw [hwa]; exact hH)
        clear hwa
        refine tkQ 0 (v := ?_) rfl hH ?_
        (try simp only [PU, Act.put])
        refine tkQ 1 (v := ?_) rfl hH ?_
        (try simp only [PU, Act.put])
        refine tkQ 2 (v := ?_) rfl hH ?_
        (try simp only [PU, Act.put])
        refine tkQ 3 (v := ?_) rfl hH ?_
        (try simp only [PU, Act.put])
        refine tkK 4 (v := ?_) rfl ?hy hH ?_
        case hy => (intro w9_ hS9; have t := hS9.2; clear hS9; go_simp; try with_reducible rfl)
        (try simp only [PU, Act.put])
        refine tkK 5 (v := ?_) rfl ?hy hH ?_
        case hy => (intro w9_ hS9; have t := (hS9.1.blk HK4.out HNI.out).cell; clear hS9; go_simp; try with_reducible rfl)
        (try simp only [PU, Act.put])
        refine nxH 6 (by kernel_rfl) rfl (fun K hK => ?_)
        go_simp
        refine (HOP.out _ hX).mono ?_
        rintro en wb_ ⟨rfl, ⟨S5, hra, hx5⟩, hfo, h6⟩
        refine hK.out _ _ ⟨(Fr.of hX).trans hfo, h6⟩ (fun hH => ?_)
        clear hK
        (try simp only [PU, Act.put])
        have HRA := Lib.hid hra; have HX5 := Lib.hid hx5
        clear hra hx5 hfo h6
        refine nxH 7 (by kernel_rfl) rfl (fun K hK => ?_)
        go_simp
        refine (HC0.out _).mono ?_
        rintro en wc_ ⟨rfl, rfl⟩
        refine hK.out _ _ hH (fun hH => ?_)
        clear hK
        (try simp only [PU, Act.put])
        refine wpAnyH_done (by kernel_rfl) ?_ _
        have HR9 := Lib.hid (HRA.out kd m (HOK.out _ rfl) HR4.out.fm HR4.out.m0)
        have HX9 : Hid (S.Ext S5 w1) := Lib.hid ⟨HX5.out.1, fun k hk => HX5.out.2 k (Nat.lt_of_lt_of_le hk (Nat.le_trans HF4.out.size hX.size))⟩
        have HF9 := Lib.hid (HF4.out.trans hH.1)
        clear hX hH HRA HX5 HOP
        go_wp2_with fail
        refine bodyPost_end (results_none rfl _ _ _) rfl ?_
        exact ⟨rfl, S5, kd, m, HR9.out, HXW.out _ HX9.out, HF1.out.trans HF9.out⟩
theorem st_on {q : Except Int (PSt × Nat)} (h : RAt w0 B0 w r R S σ fuel f kd m) (back : Bool) {x : Nd} (hxk : x.k = 52 ∨ x.k = 53 ∨ x.k = 54)
    (hc : ∀ W, Below w.heap.size w W → (x.k = 52 → Calls Tryz.prog 100 #[.pointer (some ⟨r, 0, none⟩), .agg #[.int .u8 x.k, .int .i64 x.num, .string x.nm, .slice x.A x.n x.cap], .bool back] W fun en w' => RunP w0 B0 W r R S fuel q en w')
      ∧ (x.k = 53 → Calls Tryz.prog 101 #[.pointer (some ⟨r, 0, none⟩), .agg #[.int .u8 x.k, .int .i64 x.num, .string x.nm, .slice x.A x.n x.cap], .bool back] W fun en w' => RunP w0 B0 W r R S fuel q en w')
      ∧ (x.k = 54 → Calls Tryz.prog 102 #[.pointer (some ⟨r, 0, none⟩), .agg #[.int .u8 x.k, .int .i64 x.num, .string x.nm, .slice x.A x.n x.cap], .bool back] W fun en w' => RunP w0 B0 W r R S fuel q en w')) :
    Calls Tryz.prog 67 #[.pointer (some ⟨r, 0, none⟩), .agg #[.int .u8 x.k, .int .i64 x.num, .string x.nm, .slice x.A x.n x.cap], .bool back] w fun en w' => RunP w0 B0 w r R S fuel q en w' := by
  have H1 : Hid (∀ W, Below w.heap.size w W → RAt w0 B0 W r R S σ fuel f kd m) := Lib.hid fun W hW => h.next hW h.B
  have HNR : Hid (∀ b, w.heap.size ≤ b → ¬ RO S R r b) := Lib.hid fun b hb => h.nro hb
  have HC := Lib.hid hc
  clear hc h
  obtain ⟨xk, num, nm, A, nn, cap⟩ := x
  dsimp only at *
  go_enter Tryz.func67, Tryz.ntmps67
  go_upto_region 1 with fail
  refine wp_nameE ?_
  intro w1 hw1
  have hb1 : Below w.heap.size w w1 := (by rw [hw1]; exact (by go_grown))
  have K1 : Blk w1 w.heap.size 26 #[.int .u8 xk, .int .i64 num, .string nm, .slice A nn cap] := (by rw [hw1]; exact blkA)
  have HB1 := Lib.hid hb1; have HK1 := Lib.hid K1
  have hs1 := hb1.size
  have HQ := Lib.hid (HC.out w1 hb1)
  have HR1 := Lib.hid (H1.out w1 hb1)
  have HNI := Lib.hid (HNR.out w.heap.size (Nat.le_refl _))
  have HF1 := Lib.hid (Fr.of (O := RO S R r) hb1)
  have HXW : Hid (∀ S5, S.Ext S5 w1 → S.Ext S5 w) := Lib.hid fun S5 h => ⟨h.1, fun k hk => h.2 k (Nat.lt_of_lt_of_le hk hb1.size)⟩
  obtain ⟨z_1, T_1, F_1⟩ := K1.open_
  clear hw1 hb1 K1 H1 HNR
  generalize w.heap.size = bi at *
  rcases hxk with rfl | rfl | rfl
  · have HG := Lib.hid (HQ.out.1 rfl)
    clear HQ HC
    go_wp2_with fail
    refine HG.out.mono ?_
    intro en w6 h6
    have H6 := Lib.hid h6
    have HF6 := Lib.hid (RunP.pre (w' := w1) (S' := S) (Sv.Ext.refl _ _) HF1.out h6)
    clear h6
    cases q with
    | error e3 =>
      obtain ⟨rfl, _⟩ := H6.out
      unfold FailE at *
      go_wp2_with fail
      exact ⟨rfl, HF6.out⟩
    | ok p3 =>
      obtain ⟨rfl, _⟩ := H6.out
      go_wp2_with fail
      refine bodyPost_end (results_none rfl _ _ _) rfl ?_
      exact HF6.out
  · have HG := Lib.hid (HQ.out.2.1 rfl)
    clear HQ HC
    go_wp2_with fail
    refine HG.out.mono ?_
    intro en w6 h6
    have H6 := Lib.hid h6
    have HF6 := Lib.hid (RunP.pre (w' := w1) (S' := S) (Sv.Ext.refl _ _) HF1.out h6)
    clear h6
    cases q with
    | error e3 =>
      obtain ⟨rfl, _⟩ := H6.out
      unfold FailE at *
      go_wp2_with fail
      exact ⟨rfl, HF6.out⟩
    | ok p3 =>
      obtain ⟨rfl, _⟩ := H6.out
      go_wp2_with fail
      refine bodyPost_end (results_none rfl _ _ _) rfl ?_
      exact HF6.out
  · have HG := Lib.hid (HQ.out.2.2 rfl)
    clear HQ HC
    go_wp2_with fail
    refine HG.out.mono ?_
    intro en w6 h6
    have H6 := Lib.hid h6
    have HF6 := Lib.hid (RunP.pre (w' := w1) (S' := S) (Sv.Ext.refl _ _) HF1.out h6)
    clear h6
    cases q with
    | error e3 =>
      obtain ⟨rfl, _⟩ := H6.out
      unfold FailE at *
      go_wp2_with fail
      exact ⟨rfl, HF6.out⟩
    | ok p3 =>
      obtain ⟨rfl, _⟩ := H6.out
      go_wp2_with fail
      refine bodyPost_end (results_none rfl _ _ _) rfl ?_
      exact HF6.out
end
end
section
open Go.RowKit Bk
section
variable {w0 w w' : World} {B0 r fuel f m : Nat} {R : Rn} {S : Sv} {σ : PSt} {kd : Nat → Int}
theorem st_lst {procs : List Pr} {n d : Nat} (hbk : BlkC w0 B0 r R fuel procs n) (h : RAt w0 B0 w r R S σ fuel f kd m) (hf : f < n + 1) (back : Bool) {v : ByteArray} {b rest : Sq} {x : Nd} (hx : StAt w0 B0 (d + 1) (.lst v b rest) x) (hk : KV w0 B0 (d + 1) x) (hck : (Sq.lst v b rest).cok procs) :
    Calls Tryz.prog 67 #[.pointer (some ⟨r, 0, none⟩), .agg #[.int .u8 x.k, .int .i64 x.num, .string x.nm, .slice x.A x.n x.cap], .bool back] w fun en w' => RunP w0 B0 w r R S fuel (headM procs n (execP procs n) back (.lst v b rest) σ f) en w' := by
  obtain ⟨hk55, hnm, hn1, y, k0, b1⟩ := hx
  have kv := hk.kid (by omega) k0
  show Calls _ _ _ _ fun en w' => RunP w0 B0 w r R S fuel ((stepM.seq ((Bk.liftM (openM ⟨v, 3, 0⟩ [])).seq ((execP procs n back b).seq (stepM.seq (Bk.liftM (closeM v 0)))))) σ f) en w'
  have H1 : Hid (∀ W, Below w.heap.size w W → RAt w0 B0 W r R S σ fuel f kd m) := Lib.hid fun W hW => h.next hW h.B
  have HNR : Hid (∀ b, w.heap.size ≤ b → ¬ RO S R r b) := Lib.hid fun b hb => h.nro hb
  have HBL := Lib.hid (fun W S' σ' f' kd' m' (h : RAt w0 B0 W r R S' σ' fuel f' kd' m') (hf : f' < n) => hbk W S' σ' f' kd' m' h hf back d b y b1 kv.succ hck.1)
  generalize execP procs n back b = MB at *
  obtain ⟨QT, hQT⟩ : ∃ QT, (stepM.seq ((Bk.liftM (openM ⟨v, 3, 0⟩ [])).seq (MB.seq (stepM.seq (Bk.liftM (closeM v 0)))))) σ f = QT := ⟨_, rfl⟩
  rw [hQT]
  have HQT := Lib.hid hQT; have HFN := Lib.hid hf
  obtain ⟨g, o, hA, hgB, hcl0⟩ := k0
  clear hQT h hbk hk hck hf kv b1
  obtain ⟨xk, num, nm, A, nn, cap⟩ := x
  obtain ⟨yk, ynum, ynm, yA, yn, yc⟩ := y
  dsimp only at *
  subst hA; subst hn1; subst hnm; subst hk55
  simp only [Nat.zero_mul, Nat.add_zero] at hcl0
  have HC1 : Hid (∀ W, Below B0 w0 W → W.cell? ⟨g, o, none⟩ = some (.int .u8 yk) ∧ W.cell? ⟨g, o + 1, none⟩ = some (.int .i64 ynum) ∧ W.cell? ⟨g, o + 2, none⟩ = some (.string ynm) ∧ W.cell? ⟨g, o + 3, none⟩ = some (.slice yA yn yc)) := Lib.hid fun W hW => ⟨(hW.cell (p := ⟨g, o, none⟩) hgB).trans (hcl0 0 _ rfl), (hW.cell (p := ⟨g, o + 1, none⟩) hgB).trans (hcl0 1 _ rfl), (hW.cell (p := ⟨g, o + 2, none⟩) hgB).trans (hcl0 2 _ rfl), (hW.cell (p := ⟨g, o + 3, none⟩) hgB).trans (hcl0 3 _ rfl)⟩
  clear hcl0 hgB
  go_enter Tryz.func67, Tryz.ntmps67
  go_upto_region 1 with fail
  refine wp_nameE ?_
  intro w1 hw1
  have hb1 : Below w.heap.size w w1 := (by rw [hw1]; exact (by go_grown))
  have K1 : Blk w1 w.heap.size 26 #[.int .u8 55, .int .i64 num, .string nm, .slice (some ⟨g, o, none⟩) 1 cap] := (by rw [hw1]; exact blkA)
  have HB1 := Lib.hid hb1; have HK1 := Lib.hid K1
  have hs1 := hb1.size
  have HR1 := Lib.hid (H1.out w1 hb1)
  have HNI := Lib.hid (HNR.out w.heap.size (Nat.le_refl _))
  have HF1 := Lib.hid (Fr.of (O := RO S R r) hb1)
  have HXW : Hid (∀ S5, S.Ext S5 w1 → S.Ext S5 w) := Lib.hid fun S5 h => ⟨h.1, fun k hk => h.2 k (Nat.lt_of_lt_of_le hk hb1.size)⟩
  obtain ⟨z_1, T_1, F_1⟩ := K1.open_
  clear hw1 hb1 K1 H1 HNR
  generalize w.heap.size = bi at *
  go_wp2_with fail
  cases f with
  | zero =>
    obtain rfl : QT = .error 18 := HQT.out.symm
    have HC := Lib.hid (c_stepRF HR1.out)
    unfold FailE at HC
    refine HC.out.mono ?_
    rintro en w4 ⟨rfl, hbw4⟩
    have HBw4 := Lib.hid hbw4
    clear hbw4
    go_wp2_with fail
    exact ⟨rfl, rfl, HBw4.out⟩
  | succ f =>
    have HM1 : Hid (m + 1 + f ≤ 3000) := Lib.hid (by have := HR1.out.fm; omega)
    have HFN' : Hid (f < n) := Lib.hid (by have := HFN.out; omega)
    have HQ3 : Hid ((match openM ⟨nm, 3, 0⟩ [] σ with | .error e => (.error e : Except Int (PSt × Nat)) | .ok σ' => (MB.seq (stepM.seq (Bk.liftM (closeM nm 0)))) σ' f) = QT) := Lib.hid (by
      rw [← HQT.out]
      show _ = ((Bk.liftM (openM ⟨nm, 3, 0⟩ [])).seq (MB.seq (stepM.seq (Bk.liftM (closeM nm 0))))) σ f
      unfold Mo.seq Bk.liftM
      cases openM ⟨nm, 3, 0⟩ [] σ <;> rfl)
    clear HQT HFN
    refine (c_stepR HR1.out).mono ?_
    rintro en w4 ⟨rfl, hr4, hf4⟩
    have HR4 := Lib.hid hr4
    have HF4 : Hid (Fr (RO S R r) w1 w4) := Lib.hid (hf4.mono fun k hk => .inr (.inl hk))
    clear hr4 hf4 HR1 T_1 z_1 F_1
    have HK4 := Lib.hid (HF4.out.blk HK1.out HNI.out)
    have HKP : Hid (∀ W, Fr (RO S R r) w1 W → Blk W bi 26 #[.int .u8 55, .int .i64 num, .string nm, .slice (some ⟨g, o, none⟩) 1 cap]) := Lib.hid fun W hW => hW.blk HK1.out HNI.out
    have HCF := Lib.hid (fun (y : Int) (hy : y ≠ 0) W => c_checkF (.pointer (some ⟨r, 0, none⟩)) y hy W)
    have HC0 := Lib.hid (fun W => c_check0 (.pointer (some ⟨r, 0, none⟩)) W)
    unfold FailE at HCF
    have HOP : Hid (∀ W, Below w4.heap.size w4 W → Calls Tryz.prog 105 #[.pointer (some ⟨R.st, 0, none⟩), .agg #[.string nm, .int .u8 3, .int .i64 0], .int .i64 0] W fun e w' => OpP w0 B0 W r R S fuel f (openM ⟨nm, 3, 0⟩ [] σ) e w') := Lib.hid fun W hW => c_Open1 (HR4.out.next hW HR4.out.B) nm 3 (.inr rfl) 0
    obtain ⟨QO, hQO⟩ : ∃ QO, openM ⟨nm, 3, 0⟩ [] σ = QO := ⟨_, rfl⟩
    rw [hQO] at HOP HQ3
    have HQO := Lib.hid hQO
    clear hQO
    cases QO with
    | error eo =>
      obtain rfl : QT = .error eo := HQ3.out.symm
      unfold OpP at HOP
      dsimp only at HOP
      go_wp2_with fail
      refine wp_region_held_drew (S := fun W => Fr (RO S R r) w4 W ∧ W.cell? ⟨r, 6, none⟩ = some (.pointer (some ⟨R.st, 0, none⟩))) (by kernel_rfl) (⟨(Fr.refl _ _).drew, HR4.out.cell6⟩) (fun hH => ?_)
      refine wpAnyH_atN ?_
      intro wa hwa
      have hX : Below w4.heap.size w4 wa := by rw [hwa]; exact (Below.refl _ _).drew
      replace hH := (show Fr (RO S R r) w4 wa ∧ wa.cell? ⟨r, 6, none⟩ = some (.pointer (some ⟨R.st, 0, none⟩)) by rw [hwa]; exact hH)
      clear hwa
      refine tkQ 0 (v := ?_) rfl hH ?_
      (try simp only [PU, Act.put])
      refine tkQ 1 (v := ?_) rfl hH ?_
      (try simp only [PU, Act.put])
      refine tkQ 2 (v := ?_) rfl hH ?_
      (try simp only [PU, Act.put])
      refine tkQ 3 (v := ?_) rfl hH ?_
      (try simp only [PU, Act.put])
      refine tkK 4 (v := ?_) rfl ?hy hH ?_
      case hy => (intro w9_ hS9; have t := hS9.2; clear hS9; go_simp; try with_reducible rfl)
      (try simp only [PU, Act.put])
      refine tkQ 5 (v := ?_) rfl hH ?_
      (try simp only [PU, Act.put])
      refine tkK 6 (v := ?_) rfl ?hy hH ?_
      case hy => (intro w9_ hS9; have t := (hS9.1.blk HK4.out HNI.out).cell; clear hS9; go_simp; try with_reducible rfl)
      (try simp only [PU, Act.put])
      refine tkQ 7 (v := ?_) rfl hH ?_
      (try simp only [PU, Act.put])
      refine nxH 8 (by kernel_rfl) rfl (fun K hK => ?_)
      go_simp
      refine (HOP.out _ hX).mono ?_
      rintro en wb_ ⟨rfl, hne, hbb, hfo, h6⟩
      refine hK.out _ _ ⟨(Fr.of hX).trans hfo, h6⟩ (fun hH => ?_)
      clear hK
      (try simp only [PU, Act.put])
      refine nxH 9 (by kernel_rfl) rfl (fun K hK => ?_)
      go_simp
      refine (HCF.out _ hne _).mono ?_
      rintro en wc_ ⟨rfl, rfl⟩
      dsimp only
      exact ⟨rfl, rfl, hbb⟩
    | ok σ1 =>
      unfold OpP at HOP
      dsimp only at HOP HQ3
      go_wp2_with fail
      refine wp_region_held_drew (S := fun W => Fr (RO S R r) w4 W ∧ W.cell? ⟨r, 6, none⟩ = some (.pointer (some ⟨R.st, 0, none⟩))) (by kernel_rfl) (⟨(Fr.refl _ _).drew, HR4.out.cell6⟩) (fun hH => ?_)
      refine wpAnyH_atN ?_
      intro wa hwa
      have hX : Below w4.heap.size w4 wa := by rw [hwa]; exact (Below.refl _ _).drew
      replace hH := (show Fr (RO S R r) w4 wa ∧ wa.cell? ⟨r, 6, none⟩ = some (.pointer (some ⟨R.st, 0, none⟩)) by rw [hwa]; exact hH)
      clear hwa
      refine tkQ 0 (v := ?_) rfl hH ?_
      (try simp only [PU, Act.put])
      refine tkQ 1 (v := ?_) rfl hH ?_
      (try simp only [PU, Act.put])
      refine tkQ 2 (v := ?_) rfl hH ?_
      (try simp only [PU, Act.put])
      refine tkQ 3 (v := ?_) rfl hH ?_
      (try simp only [PU, Act.put])
      refine tkK 4 (v := ?_) rfl ?hy hH ?_
      case hy => (intro w9_ hS9; have t := hS9.2; clear hS9; go_simp; try with_reducible rfl)
      (try simp only [PU, Act.put])
      refine tkQ 5 (v := ?_) rfl hH ?_
      (try simp only [PU, Act.put])
      refine tkK 6 (v := ?_) rfl ?hy hH ?_
      case hy => (intro w9_ hS9; have t := (hS9.1.blk HK4.out HNI.out).cell; clear hS9; go_simp; try with_reducible rfl)
      (try simp only [PU, Act.put])
      refine tkQ 7 (v := ?_) rfl hH ?_
      (try simp only [PU, Act.put])
      refine nxH 8 (by kernel_rfl) rfl (fun K hK => ?_)
      go_simp
      refine (HOP.out _ hX).mono ?_
      rintro en wb_ ⟨rfl, ⟨S5, hra, hx5⟩, hfo, h6⟩
      refine hK.out _ _ ⟨(Fr.of hX).trans hfo, h6⟩ (fun hH => ?_)
      clear hK
      (try simp only [PU, Act.put])
      have HRA := Lib.hid hra; have HX5 := Lib.hid hx5
      clear hra hx5 hfo h6
      refine nxH 9 (by kernel_rfl) rfl (fun K hK => ?_)
      go_simp
      refine (HC0.out _).mono ?_
      rintro en wc_ ⟨rfl, rfl⟩
      refine hK.out _ _ hH (fun hH => ?_)
      clear hK
      (try simp only [PU, Act.put])
      refine wpAnyH_done (by kernel_rfl) ?_ _
      have HR5 := Lib.hid (HRA.out _ (m + 1) (openM_ok HR4.out.ok (fun h => absurd (show (3 : Int) = 1 from h) (by decide)) (by simp) HQO.out) HM1.out (by have := HR4.out.m0; omega))
      have HX6 : Hid (S.Ext S5 w1) := Lib.hid ⟨HX5.out.1, fun k hk => HX5.out.2 k (Nat.lt_of_lt_of_le hk (Nat.le_trans HF4.out.size hX.size))⟩
      have HF5 := Lib.hid (HF4.out.trans hH.1)
      clear hX hH HRA HX5 HOP HR4 HF4 HK4
      obtain ⟨z_1, T_1, F_1⟩ := (HKP.out _ HF5.out).open_
      obtain ⟨c0, c1, c2, c3⟩ := HC1.out _ HR5.out.base
      have HC := Lib.hid (HBL.out _ S5 σ1 f _ _ HR5.out HFN'.out)
      obtain ⟨QB, hQB⟩ : ∃ QB, MB σ1 f = QB := ⟨_, rfl⟩
      unfold Mo.seq at HQ3
      rw [hQB] at HC HQ3
      clear hQB
      go_wp2_with fail
      cases QB with
      | error e4 =>
        obtain rfl : QT = .error e4 := HQ3.out.symm
        unfold RunP FailE at HC
        dsimp only at HC
        refine HC.out.mono ?_
        rintro en w7 ⟨rfl, hbw7⟩
        have HBw7 := Lib.hid hbw7
        clear hbw7
        go_wp2_with fail
        exact ⟨rfl, rfl, HBw7.out⟩
      | ok r4 =>
        obtain ⟨σ2, f2⟩ := r4
        unfold RunP at HC
        dsimp only at HC HQ3
        refine HC.out.mono ?_
        rintro en w7 ⟨rfl, S7, kd7, m7, hr7, hx7, hf7⟩
        have HR7 := Lib.hid hr7
        have HF7 := Lib.hid (RO.fr HX6.out HF5.out hf7)
        have HX7 := Lib.hid (HX6.out.trans hx7 HF5.out.size)
        clear hr7 hx7 hf7 HC z_1 T_1 F_1 c0 c1 c2 c3 HX6 HF5 HR5
        go_wp2_with fail
        cases f2 with
        | zero =>
          obtain rfl : QT = .error 18 := HQ3.out.symm
          have HC := Lib.hid (c_stepRF HR7.out)
          unfold FailE at HC
          refine HC.out.mono ?_
          rintro en w8 ⟨rfl, hbw8⟩
          have HBw8 := Lib.hid hbw8
          clear hbw8
          go_wp2_with fail
          exact ⟨rfl, rfl, HBw8.out⟩
        | succ f3 =>
          refine (c_stepR HR7.out).mono ?_
          rintro en w8 ⟨rfl, hr8, hf8⟩
          have HR8 := Lib.hid hr8
          have HF8 : Hid (Fr (RO S R r) w1 w8) := Lib.hid (RO.fr HX7.out HF7.out (hf8.mono fun k hk => .inr (.inl hk)))
          have HX8 := HX7
          have HNI' : Hid (¬ RO S7 R r bi) := Lib.hid (RO.keep HX7.out HK1.out.lt HNI.out)
          clear hr8 hf8 HR7
          have HQ5 : Hid ((match closeM nm 0 σ2 with | .error e => (.error e : Except Int (PSt × Nat)) | .ok σ' => .ok (σ', f3)) = QT) := Lib.hid (by rw [← HQ3.out]; rfl)
          clear HQ3
          have HK4 := Lib.hid (HKP.out w8 HF8.out)
          have HOP : Hid (∀ W, Below w8.heap.size w8 W → Calls Tryz.prog 106 #[.pointer (some ⟨R.st, 0, none⟩), .string nm, .int .i64 0] W fun e w' => OpP w0 B0 W r R S7 fuel f3 (closeM nm 0 σ2) e w') := Lib.hid fun W hW => c_Close1 (HR8.out.next hW HR8.out.B) nm 0
          obtain ⟨QO, hQO⟩ : ∃ QO, closeM nm 0 σ2 = QO := ⟨_, rfl⟩
          rw [hQO] at HOP HQ5
          replace HQO := Lib.hid hQO
          clear hQO
          cases QO with
          | error eo =>
            obtain rfl : QT = .error eo := HQ5.out.symm
            unfold OpP at HOP
            dsimp only at HOP
            go_wp2_with fail
            refine wp_region_held_drew (S := fun W => Fr (RO S7 R r) w8 W ∧ W.cell? ⟨r, 6, none⟩ = some (.pointer (some ⟨R.st, 0, none⟩))) (by kernel_rfl) (⟨(Fr.refl _ _).drew, HR8.out.cell6⟩) (fun hH => ?_)
            refine wpAnyH_atN ?_
            intro wa hwa
            have hX : Below w8.heap.size w8 wa := by rw [hwa]; exact (Below.refl _ _).drew
            replace hH := (show Fr (RO S7 R r) w8 wa ∧ wa.cell? ⟨r, 6, none⟩ = some (.pointer (some ⟨R.st, 0, none⟩)) by rw [hwa]; exact hH)
            clear hwa
            refine tkQ 0 (v := ?_) rfl hH ?_
            (try simp only [PU, Act.put])
            refine tkQ 1 (v := ?_) rfl hH ?_
            (try simp only [PU, Act.put])
            refine tkQ 2 (v := ?_) rfl hH ?_
            (try simp only [PU, Act.put])
            refine tkQ 3 (v := ?_) rfl hH ?_
            (try simp only [PU, Act.put])
            refine tkK 4 (v := ?_) rfl ?hy hH ?_
            case hy => (intro w9_ hS9; have t := hS9.2; clear hS9; go_simp; try with_reducible rfl)
            (try simp only [PU, Act.put])
            refine tkQ 5 (v := ?_) rfl hH ?_
            (try simp only [PU, Act.put])
            refine tkK 6 (v := ?_) rfl ?hy hH ?_
            case hy => (intro w9_ hS9; have t := (hS9.1.blk HK4.out HNI'.out).cell; clear hS9; go_simp; try with_reducible rfl)
            (try simp only [PU, Act.put])
            refine nxH 7 (by kernel_rfl) rfl (fun K hK => ?_)
            go_simp
            refine (HOP.out _ hX).mono ?_
            rintro en wb_ ⟨rfl, hne, hbb, hfo, h6⟩
            refine hK.out _ _ ⟨(Fr.of hX).trans hfo, h6⟩ (fun hH => ?_)
            clear hK
            (try simp only [PU, Act.put])
            refine nxH 8 (by kernel_rfl) rfl (fun K hK => ?_)
            go_simp
            refine (HCF.out _ hne _).mono ?_
            rintro en wc_ ⟨rfl, rfl⟩
            dsimp only
            exact ⟨rfl, rfl, hbb⟩
          | ok σ3 =>
            obtain rfl : QT = .ok (σ3, f3) := HQ5.out.symm
            unfold OpP at HOP
            dsimp only at HOP HQ5
            go_wp2_with fail
            refine wp_region_held_drew (S := fun W => Fr (RO S7 R r) w8 W ∧ W.cell? ⟨r, 6, none⟩ = some (.pointer (some ⟨R.st, 0, none⟩))) (by kernel_rfl) (⟨(Fr.refl _ _).drew, HR8.out.cell6⟩) (fun hH => ?_)
            refine wpAnyH_atN ?_
            intro wa hwa
            have hX : Below w8.heap.size w8 wa := by rw [hwa]; exact (Below.refl _ _).drew
            replace hH := (show Fr (RO S7 R r) w8 wa ∧ wa.cell? ⟨r, 6, none⟩ = some (.pointer (some ⟨R.st, 0, none⟩)) by rw [hwa]; exact hH)
            clear hwa
            refine tkQ 0 (v := ?_) rfl hH ?_
            (try simp only [PU, Act.put])
            refine tkQ 1 (v := ?_) rfl hH ?_
            (try simp only [PU, Act.put])
            refine tkQ 2 (v := ?_) rfl hH ?_
            (try simp only [PU, Act.put])
            refine tkQ 3 (v := ?_) rfl hH ?_
            (try simp only [PU, Act.put])
            refine tkK 4 (v := ?_) rfl ?hy hH ?_
            case hy => (intro w9_ hS9; have t := hS9.2; clear hS9; go_simp; try with_reducible rfl)
            (try simp only [PU, Act.put])
            refine tkQ 5 (v := ?_) rfl hH ?_
            (try simp only [PU, Act.put])
            refine tkK 6 (v := ?_) rfl ?hy hH ?_
            case hy => (intro w9_ hS9; have t := (hS9.1.blk HK4.out HNI'.out).cell; clear hS9; go_simp; try with_reducible rfl)
            (try simp only [PU, Act.put])
            refine nxH 7 (by kernel_rfl) rfl (fun K hK => ?_)
            go_simp
            refine (HOP.out _ hX).mono ?_
            rintro en wb_ ⟨rfl, ⟨S5, hra, hx5⟩, hfo, h6⟩
            refine hK.out _ _ ⟨(Fr.of hX).trans hfo, h6⟩ (fun hH => ?_)
            clear hK
            (try simp only [PU, Act.put])
            have HRA := Lib.hid hra; have HX5 := Lib.hid hx5
            clear hra hx5 hfo h6
            refine nxH 8 (by kernel_rfl) rfl (fun K hK => ?_)
            go_simp
            refine (HC0.out _).mono ?_
            rintro en wc_ ⟨rfl, rfl⟩
            refine hK.out _ _ hH (fun hH => ?_)
            clear hK
            (try simp only [PU, Act.put])
            refine wpAnyH_done (by kernel_rfl) ?_ _
            have HR9 := Lib.hid (HRA.out kd7 m7 (closeM_ok HR8.out.ok HQO.out) HR8.out.fm HR8.out.m0)
            have HX9 : Hid (S.Ext S5 w1) := Lib.hid (HX8.out.trans ⟨HX5.out.1, fun k hk => HX5.out.2 k (Nat.lt_of_lt_of_le hk hX.size)⟩ HF8.out.size)
            have HF9 := Lib.hid (RO.fr HX8.out HF8.out hH.1)
            clear hX hH HRA HX5 HOP HK4
            go_wp2_with fail
            refine bodyPost_end (results_none rfl _ _ _) rfl ?_
            exact ⟨rfl, S5, kd7, m7, HR9.out, HXW.out _ HX9.out, HF1.out.trans HF9.out⟩
end
end
end Go.Proofs.YtakfdnnlhjhcfaaGreatDoor
