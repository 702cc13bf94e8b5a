/- WhIb WhIe. -/
import Derived.Test.YtakfdnnlhjhcfaaGreatDoorZWhEn
import Derived.BigRegion
import Derived.Deep.DeepCutAuto
set_option linter.unusedVariables false
set_option linter.unusedSimpArgs false
set_option linter.unusedSimpArgs false
set_option maxRecDepth 100000
set_option maxHeartbeats 4000000
namespace Bk
open Go Go.RowKit
def Sq.cok (procs : List Pr) : Sq → Prop
  | .nil => True
  | .upd _ _ _ r | .swp _ _ r | .stk _ _ _ r | .tap _ _ r => r.cok procs
  | .cal _ s _ r => (∃ u, procs.find? (fun p => p.nm.toList == s.toList) = some u) ∧ r.cok procs
  | .ifs _ a b _ r | .frm _ a b _ r => a.cok procs ∧ b.cok procs ∧ r.cok procs
  | .loc _ _ b _ r | .lst _ b r => b.cok procs ∧ r.cok procs
theorem Sq.cok_tl {procs : List Pr} {s : Sq} (h : s.cok procs) : s.tl.cok procs := by
  cases s <;> simp only [Sq.cok, Sq.tl] at h ⊢ <;> first | exact h | exact h.2 | exact h.2.2
theorem Sq.cok_drop {procs : List Pr} : ∀ (n : Nat) {s : Sq}, s.cok procs → (Sq.drop n s).cok procs
  | 0, _, h => h
  | n + 1, s, h => by rw [← Sq.drop_tl]; exact Sq.cok_tl (Sq.cok_drop n h)
def restM (procs : List Pr) (n : Nat) (inner : Bool → Sq → Mo) (back : Bool) (s : Sq) (j : Nat) : Mo :=
  if back then backM procs n inner s (s.len - j) else execS procs n inner false (s.drop j)
def itI (back : Bool) (s : Sq) (j : Nat) : Nat := if back then s.len - 1 - j else j
theorem restM_0 (procs : List Pr) (n : Nat) (inner : Bool → Sq → Mo) (back : Bool) (s : Sq) : execS procs n inner back s = restM procs n inner back s 0 := by
  unfold restM
  cases back
  · rfl
  · exact execS_back procs n inner _ s rfl
theorem restM_end (procs : List Pr) (n : Nat) (inner : Bool → Sq → Mo) (back : Bool) (s : Sq) : restM procs n inner back s s.len = okM := by
  unfold restM
  cases back
  · have : (s.drop s.len) = .nil := Sq.nil_of_len (by rw [Sq.len_drop]; omega)
    simp only [Bool.false_eq_true, if_false]
    rw [this]; rfl
  · simp only [if_true, Nat.sub_self]; rfl
theorem restM_step (procs : List Pr) (n : Nat) (inner : Bool → Sq → Mo) (back : Bool) (s : Sq) (j : Nat) (hj : j < s.len) : restM procs n inner back s j = (headM procs n inner back (s.drop (itI back s j))).seq (restM procs n inner back s (j + 1)) := by
  unfold restM itI
  cases back
  · simp only [Bool.false_eq_true, if_false]
    rw [execS_eq _ _ _ _ _ (by rw [Sq.len_drop]; omega), Sq.drop_tl]; rfl
  · simp only [if_true]
    obtain ⟨k, hk⟩ : ∃ k, s.len - j = k + 1 := ⟨s.len - j - 1, by omega⟩
    rw [hk, show s.len - 1 - j = k by omega, show s.len - (j + 1) = k by omega]
    rfl
theorem itI_lt {back : Bool} {s : Sq} {j : Nat} (hj : j < s.len) : itI back s j < s.len := by
  unfold itI; cases back <;> simp <;> omega
theorem headM_le {procs : List Pr} {n : Nat} {back : Bool} {s : Sq} {σ σ' : PSt} {f f' : Nat} (hf : f < n + 1) (h : headM procs n (execP procs n) back s σ f = .ok (σ', f')) : f' ≤ f := by
  have h1 : execS procs n (execP procs n) back (s.put .nil) = headM procs n (execP procs n) back s := by
    cases s <;> first | rfl | (cases back <;> first | exact (Mo.seq_ok _) | rfl)
  rw [← h1] at h
  exact (Fuels.execS procs n (execP procs n) (fun b s => Fuels.execP procs n b s) back _ σ f hf σ' f' h).1
end Bk
namespace Go.Proofs.YtakfdnnlhjhcfaaGreatDoor
section
open Go.RowKit Bk
section
variable {w0 w w' : World} {B0 r fuel f m : Nat} {R : Rn} {S : Sv} {σ : PSt} {kd : Nat → Int}
theorem RAt.nro (h : RAt w0 B0 w r R S σ fuel f kd m) {b : Nat} (hb : w.heap.size ≤ b) : ¬ RO S R r b := fun hr => by
  obtain ⟨g, cp, n, xs, e1, e2, _, _, _⟩ := h.ent
  rcases hr with hr | hr | hr
  · have := (h.on.new b hr).2; omega
  · have := h.blk.lt; omega
  · have := own_lt' e2 hr; omega
theorem RO.keep {S' : Sv} {b : Nat} (hx : S.Ext S' w) (hb : b < w.heap.size) (h : ¬ RO S R r b) : ¬ RO S' R r b := fun hr => by
  refine h ?_
  unfold RO at *
  rwa [hx.2 b hb] at hr
def BlkC (w0 : World) (B0 r : Nat) (R : Rn) (fuel : Nat) (procs : List Pr) (n : Nat) : Prop :=
  ∀ (w : World) (S : Sv) (σ : PSt) (f : Nat) (kd : Nat → Int) (m : Nat), RAt w0 B0 w r R S σ fuel f kd m → f < n → ∀ (back : Bool) (d : Nat) (s : Sq) (x : Nd), SqAt w0 B0 d s x → KV w0 B0 (d + 1) x → s.cok procs →
    Calls Tryz.prog 44 #[.pointer (some ⟨r, 0, none⟩), .agg #[.int .u8 x.k, .int .i64 x.num, .string x.nm, .slice x.A x.n x.cap], .bool back] w fun en w' => RunP w0 B0 w r R S fuel (execP procs n back s σ f) en w'
def StmtC (w0 : World) (B0 r : Nat) (R : Rn) (fuel : Nat) (procs : List Pr) (n : Nat) : Prop :=
  ∀ (w : World) (S : Sv) (σ : PSt) (f : Nat) (kd : Nat → Int) (m : Nat), RAt w0 B0 w r R S σ fuel f kd m → f < n + 1 → ∀ (back : Bool) (d : Nat) (s : Sq) (x : Nd), StAt w0 B0 d s x → KV w0 B0 d x → s.cok procs →
    Calls Tryz.prog 67 #[.pointer (some ⟨r, 0, none⟩), .agg #[.int .u8 x.k, .int .i64 x.num, .string x.nm, .slice x.A x.n x.cap], .bool back] w fun en w' => RunP w0 B0 w r R S fuel (headM procs n (execP procs n) back s σ f) en w'
theorem c_block {procs : List Pr} {n : Nat} (hs : StmtC w0 B0 r R fuel procs n) : BlkC w0 B0 r R fuel procs (n + 1) := by
  intro w S σ f kd m h hf back d s x hx hk hck
  have HS : Hid (∀ (W : World) (S : Sv) (σ : PSt) (f : Nat) (kd : Nat → Int) (m : Nat), RAt w0 B0 W r R S σ fuel f kd m → f < n + 1 → ∀ i y, i < s.len → Kid w0 B0 x i y → Calls Tryz.prog 67 #[.pointer (some ⟨r, 0, none⟩), .agg #[.int .u8 y.k, .int .i64 y.num, .string y.nm, .slice y.A y.n y.cap], .bool back] W fun en w' => RunP w0 B0 W r R S fuel (headM procs n (execP procs n) back (s.drop i) σ f) en w') := Lib.hid fun W S σ f kd m h hf i y hi hy => by
    obtain ⟨y', hy', hst⟩ := hx.2.2 i hi
    obtain rfl := Kid.one hy hy'
    obtain ⟨y2, hy2, hkv⟩ := hk.2.2.2.2.2 i (by rw [hx.2.1]; exact hi)
    obtain rfl := Kid.one hy hy2
    exact hs W S σ f kd m h hf back d (s.drop i) y hst hkv (Sq.cok_drop i hck)
  have HKD : Hid (∀ i, i < s.len → ∃ y, Kid w0 B0 x i y) := Lib.hid fun i hi => let ⟨y, hy, _⟩ := hx.2.2 i hi; ⟨y, hy⟩
  obtain ⟨q, hq⟩ : ∃ q, execP procs (n + 1) back s σ f = q := ⟨_, rfl⟩
  rw [hq]
  have HQ : Hid (restM procs n (execP procs n) back s 0 σ f = q) := Lib.hid (by rw [← restM_0]; exact hq)
  have HR := Lib.hid h
  have hln : x.n = s.len := hx.2.1
  have hcap : x.n ≤ x.cap ∧ x.cap ≤ maxLen := ⟨hk.2.2.1, hk.2.2.2.1⟩
  unfold maxLen at hcap
  obtain ⟨hc1, hc2⟩ := hcap
  have hrl := h.blk.lt
  clear h hx hk hs hq hck
  obtain ⟨k, num, nm, A, nk, cap⟩ := x
  dsimp only at *
  have HLN := Lib.hid hln
  clear hln
  go_enter Tryz.func44, Tryz.ntmps44
  go_upto_region 1 with fail
  refine wp_nameE ?_
  intro w1 hw1
  have hb1 : Below w.heap.size w w1 := (by rw [hw1]; exact (by go_grown))
  have K1 : Blk w1 w.heap.size 26 #[.int .u8 k, .int .i64 num, .string nm, .slice A nk cap] := (by rw [hw1]; exact blkA)
  have HK1 := Lib.hid K1; have HB1 := Lib.hid hb1
  have hs1 := hb1.size
  clear hw1 hb1
  obtain ⟨z_1, T_1, F_1⟩ := K1.open_
  have hw1 : IntKind.i64.wrap ((nk : Int) - 1) = (nk : Int) - 1 := by
    by_cases h0 : nk = 0
    · subst h0; decide
    · exact wrap_small _ (by omega) (by omega)
  go_wp2_with fail
  have HR1 : Hid (RAt w0 B0 w1 r R S σ fuel f kd m) := Lib.hid (HR.out.next HB1.out HR.out.B)
  have HNO : Hid (¬ RO S R r w.heap.size) := Lib.hid (HR.out.nro (Nat.le_refl _))
  clear T_1 z_1 F_1 K1
  go_loopw [15] (fun v15 wr => ∃ (j : Nat) (S' : Sv) (σ' : PSt) (f' : Nat) (kd' : Nat → Int) (m' : Nat), j ≤ nk ∧ v15 = .int .i64 j ∧ RAt w0 B0 wr r R S' σ' fuel f' kd' m' ∧ f' ≤ f ∧ S.Ext S' w1 ∧ Fr (RO S R r) w1 wr ∧ restM procs n (execP procs n) back s j σ' f' = q) (fun v _ => nk - (intOf v).toNat)
  case atStart => exact ⟨0, S, σ, f, kd, m, Nat.zero_le _, rfl, HR1.out, Nat.le_refl _, Sv.Ext.refl _ _, Fr.refl _ _, HQ.out⟩
  case round =>
    obtain ⟨j, S', σ', f', kd', m', hj, rfl, hr, hff, hx, hfr, hrest⟩ := hrel
    have HR2 := Lib.hid hr; have HX2 := Lib.hid hx; have HF2 := Lib.hid hfr; have HQ2 := Lib.hid hrest
    have K1 := HF2.out.blk HK1.out HNO.out
    obtain ⟨z_1, T_1, F_1⟩ := K1.open_
    clear hr hx hfr hrest K1
    by_cases hjn : j < nk
    · have hjs : j < s.len := by rw [← HLN.out]; exact hjn
      have HST := Lib.hid (restM_step procs n (execP procs n) back s j hjs)
      have hil := itI_lt (back := back) hjs
      have HIB : Hid (itI back s j = if back then nk - 1 - j else j) := Lib.hid (by unfold itI; rw [HLN.out])
      obtain ⟨i, hi⟩ : ∃ i, itI back s j = i := ⟨_, rfl⟩
      rw [hi] at HST hil HIB
      obtain ⟨y, hy⟩ := HKD.out i hil
      have HY := Lib.hid hy
      have HCA := HS.out wr S' σ' f' kd' m' HR2.out (by omega) i y hil hy
      obtain ⟨q1, hq1⟩ : ∃ q1, headM procs n (execP procs n) back (s.drop i) σ' f' = q1 := ⟨_, rfl⟩
      rw [hq1] at HCA
      have HC := Lib.hid HCA
      have HQ1 := Lib.hid hq1
      have hin : i < nk := by rw [HLN.out]; exact hil
      obtain ⟨g, o, rfl, hgB, hcl⟩ := hy
      have y0 := (HR2.out.base.cell (p := ⟨g, o + i * 4, none⟩) hgB).trans (hcl 0 _ rfl)
      have y1 := (HR2.out.base.cell (p := ⟨g, o + i * 4 + 1, none⟩) hgB).trans (hcl 1 _ rfl)
      have y2 := (HR2.out.base.cell (p := ⟨g, o + i * 4 + 2, none⟩) hgB).trans (hcl 2 _ rfl)
      have y3 := (HR2.out.base.cell (p := ⟨g, o + i * 4 + 3, none⟩) hgB).trans (hcl 3 _ rfl)
      have i0 : (0 : Int) ≤ (i : Int) := by omega
      have i1 : (i : Int) < (nk : Int) := by omega
      clear hi hjs hil hq1 hcl HCA
      have hw2 : back = true → IntKind.i64.wrap ((nk : Int) - 1 - (j : Int)) = (i : Int) := fun hb => by
        have hI := HIB.out
        rw [hb, if_pos rfl] at hI
        exact (wrap_small _ (by omega) (by omega)).trans (by omega)
      have hij : back = false → i = j := fun hb => by
        have hI := HIB.out
        rw [hb] at hI
        exact hI
      have HFD : Hid (∀ S2, S'.Ext S2 wr → S.Ext S2 w1) := Lib.hid fun S2 h2 => HX2.out.trans h2 HF2.out.size
      have HFF : Hid (∀ w2, Fr (RO S' R r) wr w2 → Fr (RO S R r) w1 w2) := Lib.hid fun w2 h2 => RO.fr HX2.out HF2.out h2
      cases q1 with
      | error e =>
        obtain rfl : q = .error e := by rw [← HQ2.out, HST.out]; unfold Mo.seq; rw [HQ1.out]
        unfold RunP FailE at HC
        dsimp only at HC
        clear HQ HQ1 HQ2 HST HIB
        cases back
        · obtain rfl := hij rfl
          clear hw2 hij
          go_wp2_with fail
          refine HC.out.mono ?_
          rintro en w2 ⟨rfl, hb2⟩
          have HB2 := Lib.hid hb2
          clear hb2
          go_wp2_with fail
          exact ⟨rfl, rfl, HB2.out⟩
        · replace hw2 := hw2 rfl
          clear hij
          go_wp2_with fail
          refine HC.out.mono ?_
          rintro en w2 ⟨rfl, hb2⟩
          have HB2 := Lib.hid hb2
          clear hb2
          go_wp2_with fail
          exact ⟨rfl, rfl, HB2.out⟩
      | ok p =>
        obtain ⟨σ2, f2⟩ := p
        have HQ3 : Hid (restM procs n (execP procs n) back s (j + 1) σ2 f2 = q) := Lib.hid (by rw [← HQ2.out, HST.out]; unfold Mo.seq; rw [HQ1.out])
        have hf2 := headM_le (by omega) HQ1.out
        unfold RunP at HC
        dsimp only at HC
        clear HQ1 HQ2 HST HIB
        cases back
        · obtain rfl := hij rfl
          clear hw2 hij
          go_wp2_with fail
          refine HC.out.mono ?_
          rintro en w2 ⟨rfl, S2, kd2, m2, hr2, hx2, hf2'⟩
          have HR3 := Lib.hid hr2; have HX3 := Lib.hid hx2; have HF3 := Lib.hid hf2'
          clear hr2 hx2 hf2' T_1 z_1 F_1 y0 y1 y2 y3
          go_wp2_with fail
          exact ⟨⟨i + 1, S2, σ2, f2, kd2, m2, by omega, by first | rfl | go_num, HR3.out, by omega, HFD.out _ HX3.out, HFF.out _ HF3.out, HQ3.out⟩, (by simp [intOf]; try omega)⟩
        · replace hw2 := hw2 rfl
          clear hij
          go_wp2_with fail
          refine HC.out.mono ?_
          rintro en w2 ⟨rfl, S2, kd2, m2, hr2, hx2, hf2'⟩
          have HR3 := Lib.hid hr2; have HX3 := Lib.hid hx2; have HF3 := Lib.hid hf2'
          clear hr2 hx2 hf2' T_1 z_1 F_1 y0 y1 y2 y3
          go_wp2_with fail
          exact ⟨⟨j + 1, S2, σ2, f2, kd2, m2, by omega, by first | rfl | go_num, HR3.out, by omega, HFD.out _ HX3.out, HFF.out _ HF3.out, HQ3.out⟩, (by simp [intOf]; try omega)⟩
    · obtain rfl : j = nk := (by omega)
      obtain rfl : q = .ok (σ', f') := by rw [← HQ2.out, HLN.out, restM_end]; rfl
      clear HS HKD HLN
      go_wp2_with fail
      refine bodyPost_end (results_none rfl _ _ _) rfl ?_
      exact ⟨rfl, S', kd', m', HR2.out, ⟨HX2.out.1, fun k hk => HX2.out.2 k (by omega)⟩, (Fr.of HB1.out).trans HF2.out⟩
end
end
section
open Go.RowKit Bk
theorem results_cell_cell {P : Program} {fn : Func} {p u : Tmp} {ty : TypeId} (h : fn.results = #[.cell p ty, .cell u ty]) (tmps : Array Value) (w : World) (g g2 : Nat) (t t2 : TypeId) (cs cs2 : Array Value) (d : TypeDesc)
    (hp : tmps.getD p undef = .pointer (some ⟨g, 0, none⟩)) (hq : tmps.getD u undef = .pointer (some ⟨g2, 0, none⟩)) (hg : Blk w g t cs) (hg2 : Blk w g2 t2 cs2) (hu : P.underlying ty = some d) (hd : (match d with | .struct _ | .array _ _ => true | _ => false) = true) (hi : (P.info? ty).map (·.size) = some cs.size) (hi2 : (P.info? ty).map (·.size) = some cs2.size) :
    (results fn tmps).run P w = .ok (.tuple #[.agg cs, .agg cs2]) w := by
  simp only [results, h]
  simp only [Array.getD_eq_getD_getElem?] at hp hq
  simp [Sem.run_bind, Result.andThen, hp, hq, asAddr, run_loadVar_row w g t ty cs (0, 0) d hg hu hd hi, run_loadVar_row w g2 t2 ty cs2 (0, 0) d hg2 hu hd hi2]
theorem then_name {K : Act → World → Prop} {Q : Exit → Act → World → Prop} {x : Exit} {a : Act} {w : World} (h : ∀ w', w' = w → Exit.then K Q x a w') : Exit.then K Q x a w := h w rfl
theorem wpAnyH_atW {P : Program} {md : Region.Mode} {ops : Array Oper} {Q : Exit → Act → World → Prop} {S : World → Prop} {fuel : Nat} {listed : Array Bool} {a : Act} {w : World} (h : ∀ w', w' = w → wpAnyH P md ops Q S fuel listed a w') : wpAnyH P md ops Q S fuel listed a w := h w rfl
theorem info_node4 : (Tryz.prog.info? 26).map (·.size) = some 4 := by kernel_rfl
section
variable {w0 w w' : World} {B0 r fuel f m : Nat} {R : Rn} {S : Sv} {σ : PSt} {kd : Nat → Int}
theorem e_ends0 {x y z : Nd} (hy : Kid w0 B0 x 0 y) (hz : Kid w0 B0 x (x.n - 1) z) (hn : 0 < x.n) (hn2 : x.n ≤ 8) (hb : Below B0 w0 w) (hB : B0 ≤ w.heap.size) :
    Calls Tryz.prog 125 #[.agg #[.int .u8 x.k, .int .i64 x.num, .string x.nm, .slice x.A x.n x.cap], .bool false] w fun e w' => e = .returned (.tuple #[.agg #[.int .u8 y.k, .int .i64 y.num, .string y.nm, .slice y.A y.n y.cap], .agg #[.int .u8 z.k, .int .i64 z.num, .string z.nm, .slice z.A z.n z.cap]]) ∧ Below w.heap.size w w' := by
  obtain ⟨yk, ynum, ynm, yA, yn, yc⟩ := y
  obtain ⟨zk, znum, znm, zA, zn, zc⟩ := z
  obtain ⟨gk, ok, hA, hc⟩ := Kid.at2 (hy.upS hb hB)
  obtain ⟨gk', ok', hA', hc'⟩ := Kid.at2 (hz.upS hb hB)
  rw [hA] at hA'
  injection hA' with hA'
  injection hA' with e1 e2 _
  subst e1; subst e2
  obtain ⟨y0, y1, y2, y3⟩ := hc w (Below.refl _ _)
  obtain ⟨z0, z1, z2, z3⟩ := hc' w (Below.refl _ _)
  obtain ⟨gg, og, hgA, hgB, _⟩ := hy
  rw [hA] at hgA
  injection hgA with hgA
  injection hgA with e1 e2 _
  subst e1; subst e2
  have hgl : gk < w.heap.size := by omega
  have hw1 : IntKind.i64.wrap ((x.n : Int) - 1) = ((x.n - 1 : Nat) : Int) := (wrap_small _ (by omega) (by omega)).trans (by omega)
  obtain ⟨l, hl⟩ : ∃ l, x.n - 1 = l := ⟨_, rfl⟩
  have hln : l < x.n := by omega
  rw [hl] at z0 z1 z2 z3 hw1
  clear hz hc hc' hl hb
  obtain ⟨k, num, nm, A, n, cap⟩ := x
  dsimp only at *
  subst hA
  have l0 : (0 : Int) ≤ (l : Int) := by omega
  have l1 : (l : Int) < (n : Int) := by omega
  have l2 : (0 : Int) < (n : Int) := by omega
  rw [Nat.zero_mul, Nat.add_zero] at y0 y1 y2 y3
  have HY : Hid (∀ W, Below w.heap.size w W → W.cell? ⟨gk, ok, none⟩ = some (.int .u8 yk) ∧ W.cell? ⟨gk, ok + 1, none⟩ = some (.int .i64 ynum) ∧ W.cell? ⟨gk, ok + 2, none⟩ = some (.string ynm) ∧ W.cell? ⟨gk, ok + 3, none⟩ = some (.slice yA yn yc)) := Lib.hid fun W hW => ⟨(hW.cell (p := ⟨gk, ok, none⟩) hgl).trans y0, (hW.cell (p := ⟨gk, ok + 1, none⟩) hgl).trans y1, (hW.cell (p := ⟨gk, ok + 2, none⟩) hgl).trans y2, (hW.cell (p := ⟨gk, ok + 3, none⟩) hgl).trans y3⟩
  have HZ : Hid (∀ W, Below w.heap.size w W → W.cell? ⟨gk, ok + l * 4, none⟩ = some (.int .u8 zk) ∧ W.cell? ⟨gk, ok + l * 4 + 1, none⟩ = some (.int .i64 znum) ∧ W.cell? ⟨gk, ok + l * 4 + 2, none⟩ = some (.string znm) ∧ W.cell? ⟨gk, ok + l * 4 + 3, none⟩ = some (.slice zA zn zc)) := Lib.hid fun W hW => ⟨(hW.cell (p := ⟨gk, ok + l * 4, none⟩) hgl).trans z0, (hW.cell (p := ⟨gk, ok + l * 4 + 1, none⟩) hgl).trans z1, (hW.cell (p := ⟨gk, ok + l * 4 + 2, none⟩) hgl).trans z2, (hW.cell (p := ⟨gk, ok + l * 4 + 3, none⟩) hgl).trans z3⟩
  clear y0 y1 y2 y3 z0 z1 z2 z3
  go_enter Tryz.func125, Tryz.ntmps125
  go_upto_region 1 with fail
  refine wp_nameE ?_
  intro w1 hw1'
  have hb1 : Below w.heap.size w w1 := (by rw [hw1']; exact (by go_grown))
  have K1 : Blk w1 w.heap.size 26 #[.int .u8 k, .int .i64 num, .string nm, .slice (some ⟨gk, ok, none⟩) n cap] := (by rw [hw1']; exact blkA)
  have K2 : Blk w1 (w.heap.size + 1) 26 #[.int .u8 0, .int .i64 0, .string ⟨#[]⟩, .slice none 0 0] := (by rw [hw1']; exact (Blk.new' (by simp) _ _).alloc _)
  have K3 : Blk w1 (w.heap.size + 1 + 1) 26 #[.int .u8 0, .int .i64 0, .string ⟨#[]⟩, .slice none 0 0] := (by rw [hw1']; exact Blk.new' (by simp) _ _)
  have HB1 := Lib.hid hb1; have HK2 := Lib.hid K2; have HK3 := Lib.hid K3
  obtain ⟨y0, y1, y2, y3⟩ := HY.out w1 hb1
  obtain ⟨z0, z1, z2, z3⟩ := HZ.out w1 hb1
  have hs1 := hb1.size
  have hgl1 : gk < w1.heap.size := Nat.lt_of_lt_of_le hgl hs1
  clear hw1' hb1 K2 K3
  obtain ⟨z_1, T_1, F_1⟩ := K1.open_
  clear K1
  go_cut [6, 7] (fun v6 v7 wx => ∃ b6 b7 : Nat, v6 = .pointer (some ⟨b6, 0, none⟩) ∧ v7 = .pointer (some ⟨b7, 0, none⟩) ∧ Blk wx b6 26 #[.int .u8 yk, .int .i64 ynum, .string ynm, .slice yA yn yc] ∧ Blk wx b7 26 #[.int .u8 zk, .int .i64 znum, .string znm, .slice zA zn zc] ∧ w1.heap.size ≤ b6 ∧ w1.heap.size ≤ b7 ∧ Below w1.heap.size w1 wx)
  case first =>
    go_region
    focus
      go_wp2_with fail
      go_meet
      exact ⟨w1.heap.size, w1.heap.size + 1, rfl, rfl, ((Blk.new _ _ _).alloc _).drew, (Blk.new' (by simp) _ _).drew, Nat.le_refl _, Nat.le_succ _, by go_grown⟩
    focus
      go_wp2_with fail
      go_meet
      exact ⟨w1.heap.size + 1, w1.heap.size, rfl, rfl, (Blk.new' (by simp) _ _).drew, ((Blk.new _ _ _).alloc _).drew, Nat.le_succ _, Nat.le_refl _, by go_grown⟩
  case rest =>
    obtain ⟨b6, b7, rfl, rfl, K6, K7, h6, h7, hbc⟩ := hcut
    have HBC := Lib.hid hbc
    have h4 := HK3.out.lt
    have K4 := HK2.out.next hbc; have K5 := HK3.out.next hbc
    have HOM : Hid (∀ w', Fr (fun k => k = w.heap.size + 1 ∨ k = w.heap.size + 1 + 1) wc w' → Below w.heap.size w w') := Lib.hid fun w' hf => (HB1.out.next hbc).trans (hf.below (by have := (HB1.out.next hbc).size; omega) fun k hk => by omega)
    have hb54 : ¬ (w.heap.size + 1 + 1 = w.heap.size + 1) := by omega
    have hb45 : ¬ (w.heap.size + 1 = w.heap.size + 1 + 1) := by omega
    replace h6 : ¬ (b6 = w.heap.size + 1 ∨ b6 = w.heap.size + 1 + 1) := by omega
    replace h7 : ¬ (b7 = w.heap.size + 1 ∨ b7 = w.heap.size + 1 + 1) := by omega
    clear HK2 HK3 HBC hbc T_1 z_1 F_1 y0 y1 y2 y3 z0 z1 z2 z3 HY HZ hgl1 hs1 hgl hgB HB1 h4 hw1 hln l0 l1 l2 hn hn2 hB
    generalize w.heap.size + 1 + 1 = b5 at *
    generalize w.heap.size + 1 = b4 at *
    have HK4 := Lib.hid K4; have HK5 := Lib.hid K5
    obtain ⟨z_4, T_4, F_4⟩ := K4.open_
    obtain ⟨z_5, T_5, F_5⟩ := K5.open_
    replace K6 := Lib.hid K6; replace K7 := Lib.hid K7
    clear K4 K5
    go_wp2_with fail
    refine wp_region_held_drew (S := fun W => Fr (fun k => k = b4 ∨ k = b5) wc W) (by kernel_rfl) ((Fr.refl _ _).drew) (fun hH => ?_)
    refine tkK 0 (v := ?_) rfl ?hy hH ?_
    case hy => (intro w9_ hS9; have t := (hS9.blk K6.out h6).cell; clear hS9; go_simp; try with_reducible rfl)
    (try simp only [PU, Act.put])
    refine tkK 1 (v := ?_) rfl ?hy hH ?_
    case hy => (intro w9_ hS9; have t := (hS9.blk K7.out h7).cell; clear hS9; go_simp; try with_reducible rfl)
    (try simp only [PU, Act.put])
    refine nxH 2 (by kernel_rfl) rfl (fun K hK => ?_)
    go_simp
    refine hK.out _ _ ?h1 (fun hH => ?_)
    case h1 => (repeat (first | exact Fr.refl _ _ | apply Fr.drew | (refine Fr.set ?_ ?_ _; rotate_left; first | exact Or.inl rfl | exact Or.inr rfl)))
    clear hK
    (try simp only [PU, Act.put])
    refine wpAnyH_atW ?_
    intro V hV
    have S0 : Fr (fun k => k = b4 ∨ k = b5) wc V := (by rw [hV]; exact hH)
    have B4 : Blk V b4 26 #[.int .u8 yk, .int .i64 ynum, .string ynm, .slice yA yn yc] := (by rw [hV]; simpa using ((((HK4.out.set_ 0 _).set_ 1 _).set_ 2 _).set_ 3 _).drew)
    have F4 : Fr (fun k => k = b4) wc V := (by rw [hV]; repeat (first | exact Fr.refl _ _ | apply Fr.drew | (refine Fr.set ?_ ?_ _; rotate_left; exact rfl)))
    have B5 := F4.blk HK5.out hb54
    have HB4 := Lib.hid B4; have HB5 := Lib.hid B5
    clear hV hH F4 T_4 z_4 F_4 T_5 z_5 F_5 B4 HK4 HK5
    obtain ⟨z_5, T_5, F_5⟩ := B5.open_
    clear B5
    replace hH := S0
    clear S0
    refine nxH 3 (by kernel_rfl) rfl (fun K hK => ?_)
    go_simp
    refine hK.out _ _ ?h1 (fun hH => ?_)
    case h1 => (repeat (first | exact hH | apply Fr.drew | (refine Fr.set ?_ ?_ _; rotate_left; exact Or.inr rfl)))
    clear hK
    (try simp only [PU, Act.put])
    refine wpAnyH_done (by kernel_rfl) ?_ _
    refine then_name ?_
    intro V2 hV2
    have B5 : Blk V2 b5 26 #[.int .u8 zk, .int .i64 znum, .string znm, .slice zA zn zc] := (by rw [hV2]; simpa using (((HB5.out.set_ 0 _).set_ 1 _).set_ 2 _).set_ 3 _)
    have F5 : Fr (fun k => k = b5) V V2 := (by rw [hV2]; repeat (first | exact Fr.refl _ _ | (refine Fr.set ?_ ?_ _; rotate_left; exact rfl)))
    have B4 := F5.blk HB4.out hb45
    have HF := Lib.hid (HOM.out V2 (by rw [hV2]; exact hH))
    have H4 := Lib.hid B4; have H5 := Lib.hid B5
    clear hV2 hH F5 B4 B5 HB4 HB5 T_5 z_5 F_5 HOM K6 K7
    go_wp2_with fail
    (try simp only [Exit.inBlock, Exit.then])
    refine bodyPost_ret_by (results_cell_cell rfl _ _ b4 b5 _ _ _ _ _ rfl rfl H4.out H5.out Tryz.underlying26 rfl (by rw [info_node4]; rfl) (by rw [info_node4]; rfl)) rfl ?_
    exact ⟨rfl, HF.out⟩
theorem e_ends1 {x y z : Nd} (hy : Kid w0 B0 x 0 y) (hz : Kid w0 B0 x (x.n - 1) z) (hn : 0 < x.n) (hn2 : x.n ≤ 8) (hb : Below B0 w0 w) (hB : B0 ≤ w.heap.size) :
    Calls Tryz.prog 125 #[.agg #[.int .u8 x.k, .int .i64 x.num, .string x.nm, .slice x.A x.n x.cap], .bool true] w fun e w' => e = .returned (.tuple #[.agg #[.int .u8 z.k, .int .i64 z.num, .string z.nm, .slice z.A z.n z.cap], .agg #[.int .u8 y.k, .int .i64 y.num, .string y.nm, .slice y.A y.n y.cap]]) ∧ Below w.heap.size w w' := by
  obtain ⟨yk, ynum, ynm, yA, yn, yc⟩ := y
  obtain ⟨zk, znum, znm, zA, zn, zc⟩ := z
  obtain ⟨gk, ok, hA, hc⟩ := Kid.at2 (hy.upS hb hB)
  obtain ⟨gk', ok', hA', hc'⟩ := Kid.at2 (hz.upS hb hB)
  rw [hA] at hA'
  injection hA' with hA'
  injection hA' with e1 e2 _
  subst e1; subst e2
  obtain ⟨y0, y1, y2, y3⟩ := hc w (Below.refl _ _)
  obtain ⟨z0, z1, z2, z3⟩ := hc' w (Below.refl _ _)
  obtain ⟨gg, og, hgA, hgB, _⟩ := hy
  rw [hA] at hgA
  injection hgA with hgA
  injection hgA with e1 e2 _
  subst e1; subst e2
  have hgl : gk < w.heap.size := by omega
  have hw1 : IntKind.i64.wrap ((x.n : Int) - 1) = ((x.n - 1 : Nat) : Int) := (wrap_small _ (by omega) (by omega)).trans (by omega)
  obtain ⟨l, hl⟩ : ∃ l, x.n - 1 = l := ⟨_, rfl⟩
  have hln : l < x.n := by omega
  rw [hl] at z0 z1 z2 z3 hw1
  clear hz hc hc' hl hb
  obtain ⟨k, num, nm, A, n, cap⟩ := x
  dsimp only at *
  subst hA
  have l0 : (0 : Int) ≤ (l : Int) := by omega
  have l1 : (l : Int) < (n : Int) := by omega
  have l2 : (0 : Int) < (n : Int) := by omega
  rw [Nat.zero_mul, Nat.add_zero] at y0 y1 y2 y3
  have HY : Hid (∀ W, Below w.heap.size w W → W.cell? ⟨gk, ok, none⟩ = some (.int .u8 yk) ∧ W.cell? ⟨gk, ok + 1, none⟩ = some (.int .i64 ynum) ∧ W.cell? ⟨gk, ok + 2, none⟩ = some (.string ynm) ∧ W.cell? ⟨gk, ok + 3, none⟩ = some (.slice yA yn yc)) := Lib.hid fun W hW => ⟨(hW.cell (p := ⟨gk, ok, none⟩) hgl).trans y0, (hW.cell (p := ⟨gk, ok + 1, none⟩) hgl).trans y1, (hW.cell (p := ⟨gk, ok + 2, none⟩) hgl).trans y2, (hW.cell (p := ⟨gk, ok + 3, none⟩) hgl).trans y3⟩
  have HZ : Hid (∀ W, Below w.heap.size w W → W.cell? ⟨gk, ok + l * 4, none⟩ = some (.int .u8 zk) ∧ W.cell? ⟨gk, ok + l * 4 + 1, none⟩ = some (.int .i64 znum) ∧ W.cell? ⟨gk, ok + l * 4 + 2, none⟩ = some (.string znm) ∧ W.cell? ⟨gk, ok + l * 4 + 3, none⟩ = some (.slice zA zn zc)) := Lib.hid fun W hW => ⟨(hW.cell (p := ⟨gk, ok + l * 4, none⟩) hgl).trans z0, (hW.cell (p := ⟨gk, ok + l * 4 + 1, none⟩) hgl).trans z1, (hW.cell (p := ⟨gk, ok + l * 4 + 2, none⟩) hgl).trans z2, (hW.cell (p := ⟨gk, ok + l * 4 + 3, none⟩) hgl).trans z3⟩
  clear y0 y1 y2 y3 z0 z1 z2 z3
  go_enter Tryz.func125, Tryz.ntmps125
  go_upto_region 1 with fail
  refine wp_nameE ?_
  intro w1 hw1'
  have hb1 : Below w.heap.size w w1 := (by rw [hw1']; exact (by go_grown))
  have K1 : Blk w1 w.heap.size 26 #[.int .u8 k, .int .i64 num, .string nm, .slice (some ⟨gk, ok, none⟩) n cap] := (by rw [hw1']; exact blkA)
  have K2 : Blk w1 (w.heap.size + 1) 26 #[.int .u8 0, .int .i64 0, .string ⟨#[]⟩, .slice none 0 0] := (by rw [hw1']; exact (Blk.new' (by simp) _ _).alloc _)
  have K3 : Blk w1 (w.heap.size + 1 + 1) 26 #[.int .u8 0, .int .i64 0, .string ⟨#[]⟩, .slice none 0 0] := (by rw [hw1']; exact Blk.new' (by simp) _ _)
  have HB1 := Lib.hid hb1; have HK2 := Lib.hid K2; have HK3 := Lib.hid K3
  obtain ⟨y0, y1, y2, y3⟩ := HY.out w1 hb1
  obtain ⟨z0, z1, z2, z3⟩ := HZ.out w1 hb1
  have hs1 := hb1.size
  have hgl1 : gk < w1.heap.size := Nat.lt_of_lt_of_le hgl hs1
  clear hw1' hb1 K2 K3
  obtain ⟨z_1, T_1, F_1⟩ := K1.open_
  clear K1
  go_cut [6, 7] (fun v6 v7 wx => ∃ b6 b7 : Nat, v6 = .pointer (some ⟨b6, 0, none⟩) ∧ v7 = .pointer (some ⟨b7, 0, none⟩) ∧ Blk wx b6 26 #[.int .u8 yk, .int .i64 ynum, .string ynm, .slice yA yn yc] ∧ Blk wx b7 26 #[.int .u8 zk, .int .i64 znum, .string znm, .slice zA zn zc] ∧ w1.heap.size ≤ b6 ∧ w1.heap.size ≤ b7 ∧ Below w1.heap.size w1 wx)
  case first =>
    go_region
    focus
      go_wp2_with fail
      go_meet
      exact ⟨w1.heap.size, w1.heap.size + 1, rfl, rfl, ((Blk.new _ _ _).alloc _).drew, (Blk.new' (by simp) _ _).drew, Nat.le_refl _, Nat.le_succ _, by go_grown⟩
    focus
      go_wp2_with fail
      go_meet
      exact ⟨w1.heap.size + 1, w1.heap.size, rfl, rfl, (Blk.new' (by simp) _ _).drew, ((Blk.new _ _ _).alloc _).drew, Nat.le_succ _, Nat.le_refl _, by go_grown⟩
  case rest =>
    obtain ⟨b6, b7, rfl, rfl, K6, K7, h6, h7, hbc⟩ := hcut
    have HBC := Lib.hid hbc
    have h4 := HK3.out.lt
    have K4 := HK2.out.next hbc; have K5 := HK3.out.next hbc
    have HOM : Hid (∀ w', Fr (fun k => k = w.heap.size + 1 ∨ k = w.heap.size + 1 + 1) wc w' → Below w.heap.size w w') := Lib.hid fun w' hf => (HB1.out.next hbc).trans (hf.below (by have := (HB1.out.next hbc).size; omega) fun k hk => by omega)
    have hb54 : ¬ (w.heap.size + 1 + 1 = w.heap.size + 1) := by omega
    have hb45 : ¬ (w.heap.size + 1 = w.heap.size + 1 + 1) := by omega
    replace h6 : ¬ (b6 = w.heap.size + 1 ∨ b6 = w.heap.size + 1 + 1) := by omega
    replace h7 : ¬ (b7 = w.heap.size + 1 ∨ b7 = w.heap.size + 1 + 1) := by omega
    clear HK2 HK3 HBC hbc T_1 z_1 F_1 y0 y1 y2 y3 z0 z1 z2 z3 HY HZ hgl1 hs1 hgl hgB HB1 h4 hw1 hln l0 l1 l2 hn hn2 hB
    generalize w.heap.size + 1 + 1 = b5 at *
    generalize w.heap.size + 1 = b4 at *
    have HK4 := Lib.hid K4; have HK5 := Lib.hid K5
    obtain ⟨z_4, T_4, F_4⟩ := K4.open_
    obtain ⟨z_5, T_5, F_5⟩ := K5.open_
    replace K6 := Lib.hid K6; replace K7 := Lib.hid K7
    clear K4 K5
    go_wp2_with fail
    refine wp_region_held_drew (S := fun W => Fr (fun k => k = b4 ∨ k = b5) wc W) (by kernel_rfl) ((Fr.refl _ _).drew) (fun hH => ?_)
    refine tkK 0 (v := ?_) rfl ?hy hH ?_
    case hy => (intro w9_ hS9; have t := (hS9.blk K7.out h7).cell; clear hS9; go_simp; try with_reducible rfl)
    (try simp only [PU, Act.put])
    refine tkK 1 (v := ?_) rfl ?hy hH ?_
    case hy => (intro w9_ hS9; have t := (hS9.blk K6.out h6).cell; clear hS9; go_simp; try with_reducible rfl)
    (try simp only [PU, Act.put])
    refine nxH 2 (by kernel_rfl) rfl (fun K hK => ?_)
    go_simp
    refine hK.out _ _ ?h1 (fun hH => ?_)
    case h1 => (repeat (first | exact Fr.refl _ _ | apply Fr.drew | (refine Fr.set ?_ ?_ _; rotate_left; first | exact Or.inl rfl | exact Or.inr rfl)))
    clear hK
    (try simp only [PU, Act.put])
    refine wpAnyH_atW ?_
    intro V hV
    have S0 : Fr (fun k => k = b4 ∨ k = b5) wc V := (by rw [hV]; exact hH)
    have B4 : Blk V b4 26 #[.int .u8 zk, .int .i64 znum, .string znm, .slice zA zn zc] := (by rw [hV]; simpa using ((((HK4.out.set_ 0 _).set_ 1 _).set_ 2 _).set_ 3 _).drew)
    have F4 : Fr (fun k => k = b4) wc V := (by rw [hV]; repeat (first | exact Fr.refl _ _ | apply Fr.drew | (refine Fr.set ?_ ?_ _; rotate_left; exact rfl)))
    have B5 := F4.blk HK5.out hb54
    have HB4 := Lib.hid B4; have HB5 := Lib.hid B5
    clear hV hH F4 T_4 z_4 F_4 T_5 z_5 F_5 B4 HK4 HK5
    obtain ⟨z_5, T_5, F_5⟩ := B5.open_
    clear B5
    replace hH := S0
    clear S0
    refine nxH 3 (by kernel_rfl) rfl (fun K hK => ?_)
    go_simp
    refine hK.out _ _ ?h1 (fun hH => ?_)
    case h1 => (repeat (first | exact hH | apply Fr.drew | (refine Fr.set ?_ ?_ _; rotate_left; exact Or.inr rfl)))
    clear hK
    (try simp only [PU, Act.put])
    refine wpAnyH_done (by kernel_rfl) ?_ _
    refine then_name ?_
    intro V2 hV2
    have B5 : Blk V2 b5 26 #[.int .u8 yk, .int .i64 ynum, .string ynm, .slice yA yn yc] := (by rw [hV2]; simpa using (((HB5.out.set_ 0 _).set_ 1 _).set_ 2 _).set_ 3 _)
    have F5 : Fr (fun k => k = b5) V V2 := (by rw [hV2]; repeat (first | exact Fr.refl _ _ | (refine Fr.set ?_ ?_ _; rotate_left; exact rfl)))
    have B4 := F5.blk HB4.out hb45
    have HF := Lib.hid (HOM.out V2 (by rw [hV2]; exact hH))
    have H4 := Lib.hid B4; have H5 := Lib.hid B5
    clear hV2 hH F5 B4 B5 HB4 HB5 T_5 z_5 F_5 HOM K6 K7
    go_wp2_with fail
    (try simp only [Exit.inBlock, Exit.then])
    refine bodyPost_ret_by (results_cell_cell rfl _ _ b4 b5 _ _ _ _ _ rfl rfl H4.out H5.out Tryz.underlying26 rfl (by rw [info_node4]; rfl) (by rw [info_node4]; rfl)) rfl ?_
    exact ⟨rfl, HF.out⟩
theorem e_ends {x y z : Nd} (hy : Kid w0 B0 x 0 y) (hz : Kid w0 B0 x (x.n - 1) z) (hn : 0 < x.n) (hn2 : x.n ≤ 8) (back : Bool) (hb : Below B0 w0 w) (hB : B0 ≤ w.heap.size) :
    Calls Tryz.prog 125 #[.agg #[.int .u8 x.k, .int .i64 x.num, .string x.nm, .slice x.A x.n x.cap], .bool back] w fun e w' => e = .returned (.tuple #[if back then .agg #[.int .u8 z.k, .int .i64 z.num, .string z.nm, .slice z.A z.n z.cap] else .agg #[.int .u8 y.k, .int .i64 y.num, .string y.nm, .slice y.A y.n y.cap], if back then .agg #[.int .u8 y.k, .int .i64 y.num, .string y.nm, .slice y.A y.n y.cap] else .agg #[.int .u8 z.k, .int .i64 z.num, .string z.nm, .slice z.A z.n z.cap]]) ∧ Below w.heap.size w w' := by
  cases back
  · exact e_ends0 hy hz hn hn2 hb hB
  · exact e_ends1 hy hz hn hn2 hb hB
end
end
end Go.Proofs.YtakfdnnlhjhcfaaGreatDoor
