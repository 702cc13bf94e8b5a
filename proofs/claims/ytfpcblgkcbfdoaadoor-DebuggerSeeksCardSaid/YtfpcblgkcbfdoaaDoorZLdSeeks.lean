/- The walk of the law DebuggerSeeks. -/
import Derived.Test.YtfpcblgkcbfdoaaDoorDbY
import Derived.Test.YtfpcblgkcbfdoaaDoorZOpenU8
set_option linter.unusedVariables false
set_option linter.unusedSimpArgs false
set_option maxRecDepth 100000
namespace Bk
open Go Go.RowKit
/-- The machines of the first steps lie side by side in a row of cells. -/
structure StRow (w : World) (D : Nat → Prop) (code : Prg) (M : Mach) (k : Nat) (xs : List Value) : Prop where
  len : xs.length = k * 25
  el : ∀ i, i < k → ∃ vm vs vc vi vo sv, (∀ j, j < 25 → xs[i * 25 + j]? = (mcells (tr code M i) vm vs vc vi vo)[j]?) ∧ MLs w D (tr code M i) vm vs vc vi vo sv
theorem StRow.keep {w w' : World} {D D' : Nat → Prop} {code : Prg} {M : Mach} {k : Nat} {xs : List Value} (h : StRow w D code M k xs) (hk : ∀ b o, D b → w'.cell? ⟨b, o, none⟩ = w.cell? ⟨b, o, none⟩) (hD : ∀ k, D k → D' k) (hd : ∀ k, D' k → k < w'.heap.size) : StRow w' D' code M k xs :=
  ⟨h.len, fun i hi => let ⟨a, b, c, d, e, f, h1, h2⟩ := h.el i hi; ⟨a, b, c, d, e, f, h1, h2.keep hk hD hd⟩⟩
theorem StRow.add {w : World} {D : Nat → Prop} {code : Prg} {M : Mach} {k : Nat} {xs : List Value} (h : StRow w D code M k xs) {vm vs vc vi vo : Value} {sv : List Value} (hl : MLs w D (tr code M k) vm vs vc vi vo sv) : StRow w D code M (k + 1) (xs ++ mcells (tr code M k) vm vs vc vi vo) := by
  have h25 : (mcells (tr code M k) vm vs vc vi vo).length = 25 := Go.Proofs.YtfpcblgkcbfdoaaDoor.mc_len _ _ _ _ _ _ hl.rl
  refine ⟨by rw [List.length_append, h.len, h25]; omega, fun i hi => ?_⟩
  rcases Nat.lt_succ_iff_lt_or_eq.1 hi with h' | rfl
  · obtain ⟨a, b, c, d, e, f, h1, h2⟩ := h.el i h'
    exact ⟨a, b, c, d, e, f, fun j hj => by rw [List.getElem?_append_left (by rw [h.len]; omega)]; exact h1 j hj, h2⟩
  · refine ⟨vm, vs, vc, vi, vo, sv, fun j hj => ?_, hl⟩
    rw [List.getElem?_append_right (by rw [h.len]; omega), h.len]
    congr 1; omega
theorem StRow.rd {w : World} {D : Nat → Prop} {code : Prg} {M : Mach} {k : Nat} {xs : List Value} (h : StRow w D code M k xs) {base g cap : Nat} {e : TypeId} (ho : w.ownsRow base e 25 (.slice (some ⟨g, 0, none⟩) k cap) k xs) {i : Nat} (hi : i < k) :
    ∃ vm vs vc vi vo sv, MRd w D g (i * 25) (tr code M i) vm vs vc vi vo sv := by
  obtain ⟨a, b, c, d, e, f, h1, h2⟩ := h.el i hi
  have h25 : (mcells (tr code M i) a b c d e).length = 25 := Go.Proofs.YtfpcblgkcbfdoaaDoor.mc_len _ _ _ _ _ _ h2.rl
  refine ⟨a, b, c, d, e, f, h2.rl, (ho.lt g rfl).2, fun j hj => ?_, h2.m, h2.s, h2.l, h2.d⟩
  have hx := h1 j hj
  rw [List.getElem?_eq_getElem (by omega : j < (mcells (tr code M i) a b c d e).length)] at hx ⊢
  have := ho.cells (g := g) rfl _ _ hx
  rw [Addr.add_lit, Nat.zero_add] at this
  exact this
theorem MAt.otherF {w w' : World} {P : Pl} {M : Mach} (h : MAt w P M) {O : Nat → Prop} (hf : Fr O w w') (h1 : ¬ O P.b) (h2 : ¬ O P.gm) (h3 : ¬ O P.gs) (hx : ∀ k, O k → P.fx k) {fx : Nat → Prop} (f1 : ∀ k, fx k → P.fx k ∨ w.heap.size ≤ k) (f2 : ∀ k, fx k → k < w'.heap.size) : MAt w' { P with fx := fx } M := by
  obtain ⟨vm, vs, vc, vi, vo, sv, h⟩ := h
  have h' := h.other hf h1 h2 h3 hx
  refine ⟨vm, vs, vc, vi, vo, sv, h'.hoff, h'.rl, h'.blk, h'.m, h'.s, h'.gm, h'.gs, h'.am, h'.as_, ?_, f2⟩
  refine h.l.keep (fun b o hd => hf.cell hd.1 (fun ho => hd.2 (.inr (.inr (.inr (hx b ho))))) o) fun k hk => ⟨Nat.lt_of_lt_of_le hk.1 hf.size, fun ho => ?_⟩
  rcases ho with e | e | e | e
  · exact hk.2 (.inl e)
  · exact hk.2 (.inr (.inl e))
  · exact hk.2 (.inr (.inr (.inl e)))
  · rcases f1 k e with e | e
    · exact hk.2 (.inr (.inr (.inr e)))
    · have := hk.1; omega
end Bk
namespace Go.Proofs.YtfpcblgkcbfdoaaDoor
open Go.RowKit Bk
theorem built_sl {M : Mach} {vm vs vc vi vo : Value} (hr : M.r.length = 16) (h0 : vm.oneCell' = true) (h1 : vs.oneCell' = true) (h2 : vc.oneCell' = true) (h3 : vi.oneCell' = true) (h4 : vo.oneCell' = true) :
    Tryd.prog.builtSlice 30 1 [(0, Value.agg (mcells M vm vs vc vi vo).toArray)] = some (mcells M vm vs vc vi vo).toArray := by
  obtain ⟨pc, dir, r, m, s, calls, fp, sb, inp, out⟩ := M
  obtain ⟨r0, r1, r2, r3, r4, r5, r6, r7, r8, r9, r10, r11, r12, r13, r14, r15, e⟩ := list16 hr
  dsimp only at e
  subst e
  kernel_rfl
theorem info_machS : (Tryd.prog.info? 30).map (fun i => (i.zero, i.size, i.bytes)) = some (some (.agg #[.int .i64 0, .int .i64 0, .int .i64 0, .int .i64 0, .int .i64 0, .int .i64 0, .int .i64 0, .int .i64 0, .int .i64 0, .int .i64 0, .int .i64 0, .int .i64 0, .int .i64 0, .int .i64 0, .int .i64 0, .int .i64 0, .int .i64 0, .int .i64 0, .slice none 0 0, .slice none 0 0, .slice none 0 0, .int .i64 0, .int .i64 0, .slice none 0 0, .slice none 0 0]), 25, 280) := by kernel_rfl
theorem rd_built {w : World} {D : Nat → Prop} {b off : Nat} {M : Mach} {vm vs vc vi vo : Value} {sv : List Value} (h : MRd w D b off M vm vs vc vi vo sv) :
    Tryd.prog.builtSlice 30 1 [(0, Value.agg (mcells M vm vs vc vi vo).toArray)] = some (mcells M vm vs vc vi vo).toArray := by
  obtain ⟨_, _, rfl, _⟩ := h.m; obtain ⟨_, _, rfl, _⟩ := h.s; obtain ⟨_, _, rfl, _⟩ := h.l.2.1; obtain ⟨_, _, rfl, _⟩ := h.l.2.2.1; obtain ⟨_, _, rfl, _⟩ := h.l.2.2.2
  exact built_sl h.rl rfl rfl rfl rfl rfl
theorem wpList_bsM {ops : Array Oper} {o : Oper} {Q : Exit → Act → World → Prop} {rest : List Oper} {a : Act} {w w0 : World} {D : Nat → Prop} {b off k : Nat} {M : Mach} {vm vs vc vi vo : Value} {sv : List Value} (h : MRd w0 D b off M vm vs vc vi vo sv)
    (hg : o.guard = none) (ho : o.op = .buildSlice 58 1 #[(0, .tmp k)]) (he : a.eval (.tmp k) = .agg (mcells M vm vs vc vi vo).toArray)
    (hk : wpList Tryd.prog ops Q rest (a.put o.dst (.slice (some ⟨w.heap.size, 0, none⟩) 1 1)) (w.alloc (.cells (mcells M vm vs vc vi vo).toArray 30))) : wpList Tryd.prog ops Q (o :: rest) a w := by
  refine Go.Great.wpList_buildSliceTo hg 58 30 1 _ ho _ rfl _ rfl Tryd.underlying58 _ ?_ hk
  have e : (Array.map (fun x : Nat × Operand => match x with | (i, x) => (i, a.eval x)) #[(0, Operand.tmp k)]).toList = [(0, Value.agg (mcells M vm vs vc vi vo).toArray)] := by simp [he]
  rw [e]
  exact rd_built h
theorem rdm {w : World} {D : Nat → Prop} {b off : Nat} {M : Mach} {vm vs vc vi vo : Value} {sv : List Value} (h : MRd w D b off M vm vs vc vi vo sv) : ∀ u ∈ mcells M vm vs vc vi vo, u.oneCell' = true := by
  obtain ⟨_, _, rfl, _⟩ := h.m; obtain ⟨_, _, rfl, _⟩ := h.s; obtain ⟨_, _, rfl, _⟩ := h.l.2.1; obtain ⟨_, _, rfl, _⟩ := h.l.2.2.1; obtain ⟨_, _, rfl, _⟩ := h.l.2.2.2
  exact mc_one rfl rfl rfl rfl rfl
theorem blk_next {w w' : World} {B g : Nat} {t : TypeId} {cs : Array Value} (h : Blk w g t cs) (hb : Below B w w') (hg : g < B) : Blk w' g t cs := (hb.block g hg).trans h
theorem Env.fx {w : World} {P : Pl} {A : Option Addr} {n : Nat} {code : Prg} (h : Env w P A n code) (fx : Nat → Prop) : Env w { P with fx := fx } A n code := ⟨h.hC, h.hw, h.hT, h.hG, h.hl⟩
set_option maxHeartbeats 16000000 in
theorem c_lawDebuggerSeeks (A : Option Addr) (n cap : Nat) (im : Img) (M : Mach) (vm vs vc vi vo : Value) (sv : List Value) (w : World) (hC : Rd w (· < w.heap.size) 5 A n (codeCells im.code)) (hw : CodeWf im.code) (hL : MLs w (· < w.heap.size) M vm vs vc vi vo sv) (hwf : MWf M) (hl : ∀ l ∈ M.s, l.length ≤ 17592186043904) (hTab : TableAt w) (l : List Nat) (vl : Value) (hl8 : ∀ y ∈ l, y ≤ 255) (hS : Sl w (· < w.heap.size) 1 vl l.length (u8Cells l)) :
    Calls Tryd.prog 6 #[.agg #[.slice A n cap, .int .i64 im.mem, .int .i64 im.stacks], .agg (mcells M vm vs vc vi vo).toArray, vl] w fun e w' => e = .returned (.bool true) ∧ Below w.heap.size w w' := by
  obtain ⟨v, hv⟩ : ∃ v, okD im M = v := ⟨_, rfl⟩
  have HOK := Lib.hid hv; clear hv
  have HS := Lib.hid hS; have H8 := Lib.hid hl8
  obtain ⟨Al, cl, rfl, _⟩ := hS
  clear hl8
  have hnn : n = im.code.length := by have := hC.1; rw [codeCells_length] at this; omega
  have HC := Lib.hid hC; have HT := Lib.hid hTab; have HL := Lib.hid hL; have HLL := Lib.hid hl; have HN := Lib.hid hnn; have HWF := Lib.hid hwf
  clear hC hTab hL hl hnn hwf
  go_enter Tryd.func6, Tryd.ntmps6
  go_upto_region 1 with fail
  refine wp_nameY ?_
  intro w1 hw1
  have hB_w1 : Below w.heap.size w w1 := by rw [hw1]; exact (by repeat' (first | (with_reducible assumption) | (with_reducible exact Below.refl _ _) | (with_reducible refine Below.alloc ?_ ?_ _) | (with_reducible refine Bk.drewN_ ?_ _) | (with_reducible refine Below.drew ?_) | (with_reducible refine Below.setCell ?_ ?_ _) | go_size))
  have K_1 : Blk w1 w.heap.size 24 #[.slice A n cap, .int .i64 im.mem, .int .i64 im.stacks] := by rw [hw1]; exact (by repeat' (first | with_reducible assumption | (refine Blk.new' ?_ _ _; simp; done) | refine Blk.alloc ?_ _ | refine Blk.drewN ?_ _ | refine Blk.drew ?_))
  have KM : Blk w1 (w.heap.size + 1) 30 (mcells M vm vs vc vi vo).toArray := by rw [hw1]; exact (by repeat' (first | with_reducible assumption | (refine Blk.new' ?_ _ _; simp; done) | refine Blk.alloc ?_ _ | refine Blk.drewN ?_ _ | refine Blk.drew ?_))
  have HM := Lib.hid ((HL.out.next hB_w1).at_ KM)
  have zz : w1.heap.size = w.heap.size + 2 := by rw [hw1]; simp
  clear hw1 KM
  obtain ⟨z_1, T_1, F_1⟩ := K_1.open_; have H_1 := Lib.hid K_1; clear K_1
  go_wp2_with fail
  refine (c_awake33 _ (HT.out.next hB_w1)).mono ?_
  rintro e w2 ⟨rfl, hb2⟩
  have hB_w2 := hB_w1.next hb2
  replace HM := Lib.hid (HM.out.next hb2)
  have K_1 : Blk w2 (w.heap.size) 24 #[.slice A n cap, .int .i64 im.mem, .int .i64 im.stacks] := Blk.next (by repeat' (first | with_reducible exact H_1.out | with_reducible exact K0_1 | (refine Blk.new' ?_ _ _; simp; done) | with_reducible refine Blk.alloc ?_ _ | with_reducible refine Blk.drewN ?_ _ | with_reducible refine Blk.drew ?_)) hb2; (try clear H_1); (try clear T_1); (try clear z_1); (try clear F_1); obtain ⟨z_1, T_1, F_1⟩ := K_1.open_; have H_1 := Lib.hid K_1; clear K_1
  have z2 := hb2.size
  clear hb2
  go_wp2_with (refine wpList_loadG 30 rfl rfl rfl (load_mach HM.out) ?_; simp only [Act.put, List.setIfInBounds_toArray, List.set_cons_succ, List.set_cons_zero])
  cases v with
  | false =>
    refine (c_MadeNone A n cap im M vm vs vc vi vo sv w2 (Rd.upL HC.out hB_w2) hw (MLs.up HL.out hB_w2) HWF.out HLL.out (HT.out.next hB_w2) HOK.out).mono ?_
    rintro e w3 ⟨rfl, hb3⟩
    have hB_w3 := hB_w2.next hb3
    clear hb3
    go_wp2_with fail
    go_ret
    exact ⟨rfl, hB_w3⟩
  | true =>
    refine (c_MadeOk A n cap im M vm vs vc vi vo sv w2 (Rd.upL HC.out hB_w2) hw (MLs.up HL.out hB_w2) HWF.out HLL.out (HT.out.next hB_w2) HOK.out).mono ?_
    rintro e w3 ⟨P, A', n', cap', rfl, hV, hA, hO, hfx, hR, hb3⟩
    have hB_w3 := hB_w2.next hb3
    replace HM := Lib.hid (HM.out.next hb3)
    have K_1 : Blk w3 (w.heap.size) 24 #[.slice A n cap, .int .i64 im.mem, .int .i64 im.stacks] := Blk.next (by repeat' (first | with_reducible exact H_1.out | with_reducible exact K0_1 | (refine Blk.new' ?_ _ _; simp; done) | with_reducible refine Blk.alloc ?_ _ | with_reducible refine Blk.drewN ?_ _ | with_reducible refine Blk.drew ?_)) hb3; (try clear H_1); (try clear T_1); (try clear z_1); (try clear F_1); obtain ⟨z_1, T_1, F_1⟩ := K_1.open_; have H_1 := Lib.hid K_1; clear K_1
    obtain ⟨hg, hck, hf⟩ := okD.facts HOK.out
    have hsm := Sm25.of hg
    have HVE : Hid (VEnv im M 70) := Lib.hid (VEnv.sm hsm hck hw HWF.out hf (by decide))
    have HSM := Lib.hid hsm
    have HV := Lib.hid hV; have HA := Lib.hid hA; have HO := Lib.hid hO; have HFX := Lib.hid hfx; have HR := Lib.hid hR
    have z3 := hb3.size
    have zb2 := hB_w2.size
    have BEL : Hid (∀ wz, Fr P.O w3 wz → Below w.heap.size w wz) := Lib.hid fun wz hf => hB_w3.trans (hf.below (B := w.heap.size) (by omega) (fun k hk => by have := (hO k hk).1; omega))
    have HNO : Hid (∀ k, k < w2.heap.size → ¬ P.O k) := Lib.hid fun k hk ho => by have := (hO k ho).1; omega
    have HM3 := Lib.hid HM.out
    have H3_1 := Lib.hid H_1.out
    clear hV hA hO hfx hR hb3 hg hck hf hsm HM
    by_cases h10 : 10 < l.length
    · have h10' : (10 : Int) < (l.length : Int) := by omega
      go_wp2_with fail
      go_ret
      exact ⟨rfl, hB_w3⟩
    have h10' : ¬ (10 : Int) < (l.length : Int) := by omega
    obtain ⟨K, ee, hK60, hltK, hstK⟩ : ∃ (K : Nat) (ee : Int), K ≤ 60 ∧ (∀ i, i < K → te im.code M i = 0) ∧ ((K = 60 ∧ ee = 0) ∨ (K < 60 ∧ te im.code M K = ee ∧ ee ≠ 0)) := by
      rcases reach im.code M 60 with h | ⟨k, h1, h2, h3⟩
      · exact ⟨60, 0, Nat.le_refl _, h, .inl ⟨rfl, rfl⟩⟩
      · exact ⟨k, _, by omega, h2, .inr ⟨h1, rfl, h3⟩⟩
    have HLT := Lib.hid hltK; have HST := Lib.hid hstK
    clear hltK hstK
    obtain ⟨im25, li25, lz25, ls25, lb25⟩ := info_parts info_machS
    go_wp2_with fail
    refine (c_Clone HM3.out (HVE.out.bd 0 (by omega))).mono ?_
    rintro e w4 ⟨bx0, gm0, gs0, rfl, r1, r2, r3, ⟨vma, vsa, vca, via, voa, sva, hcl⟩, hb4⟩
    have hB_w4 := hB_w3.next hb4
    have HO4 := Lib.hid (hcl.own r2 r3).mls
    have HRD4 := Lib.hid hcl.rd
    have HRDX := HRD4
    have HRL := Lib.hid hcl.rl
    have hlt4 : bx0 < w4.heap.size := hcl.lt
    have K_1 : Blk w4 (w.heap.size) 24 #[.slice A n cap, .int .i64 im.mem, .int .i64 im.stacks] := Blk.next (by repeat' (first | with_reducible exact H_1.out | with_reducible exact K0_1 | (refine Blk.new' ?_ _ _; simp; done) | with_reducible refine Blk.alloc ?_ _ | with_reducible refine Blk.drewN ?_ _ | with_reducible refine Blk.drew ?_)) hb4; (try clear H_1); (try clear T_1); (try clear z_1); (try clear F_1); obtain ⟨z_1, T_1, F_1⟩ := K_1.open_; have H_1 := Lib.hid K_1; clear K_1
    have HM4 := Lib.hid (HM3.out.next hb4)
    have z4 := hb4.size
    have hb34 := hb4
    clear hcl hb4 r1 r2 r3
    go_wp2_with (first | (refine wpList_loadG 30 rfl rfl rfl (load_mach HRD4.out) ?_; simp only [Act.put, List.setIfInBounds_toArray, List.set_cons_succ, List.set_cons_zero]) | (refine wpList_bsM (HRDX.out) rfl rfl rfl ?_; simp only [Act.put, List.setIfInBounds_toArray, List.set_cons_succ, List.set_cons_zero]))
    refine calls_nameY ?_
    intro w5 hw5
    have hb5 : Below w4.heap.size w4 w5 := by rw [hw5]; exact (by repeat' (first | (with_reducible assumption) | (with_reducible exact Below.refl _ _) | (with_reducible refine Below.alloc ?_ ?_ _) | (with_reducible refine Bk.drewN_ ?_ _) | (with_reducible refine Below.drew ?_) | (with_reducible refine Below.setCell ?_ ?_ _) | go_size))
    have K5 : Blk w5 w4.heap.size 30 (mcells M vma vsa vca via voa).toArray := by rw [hw5]; exact (by repeat' (first | with_reducible assumption | (refine Blk.new' ?_ _ _; simp; done) | refine Blk.alloc ?_ _ | refine Blk.drewN ?_ _ | refine Blk.drew ?_))
    have z5 : w4.heap.size < w5.heap.size := K5.lt
    have h25 : (mcells M vma vsa vca via voa).length = 25 := mc_len _ _ _ _ _ _ HRL.out
    have HOW5 : Hid (w5.ownsRow w3.heap.size 30 25 (.slice (some ⟨w4.heap.size, 0, none⟩) 1 1) 1 (mcells M vma vsa vca via voa)) := Lib.hid ⟨by rw [h25], .inr ⟨w4.heap.size, 1, _, rfl, z4, K5, Nat.le_refl _, by decide, by simp [h25], by rw [show 1 * 25 = (mcells M vma vsa vca via voa).length from h25.symm]; simp⟩⟩
    have HST5 : Hid (StRow w5 (fun k => w3.heap.size ≤ k ∧ k < w4.heap.size) im.code M 1 (mcells M vma vsa vca via voa)) := Lib.hid (StRow.add (xs := []) ⟨rfl, fun i hi => absurd hi (Nat.not_lt_zero _)⟩ (HO4.out.next hb5))
    have HM5 := Lib.hid (HM4.out.next hb5)
    have K_1 : Blk w5 (w.heap.size) 24 #[.slice A n cap, .int .i64 im.mem, .int .i64 im.stacks] := Blk.next (by repeat' (first | with_reducible exact H_1.out | with_reducible exact K0_1 | (refine Blk.new' ?_ _ _; simp; done) | with_reducible refine Blk.alloc ?_ _ | with_reducible refine Blk.drewN ?_ _ | with_reducible refine Blk.drew ?_)) hb5; (try clear H_1); (try clear T_1); (try clear z_1); (try clear F_1); obtain ⟨z_1, T_1, F_1⟩ := K_1.open_; have H_1 := Lib.hid K_1; clear K_1
    have hb35 := hb34.next hb5
    clear hw5 K5 hb5 hb34 HM4 HO4 HRD4 HRDX HRL h25
    refine (c_Clone HM5.out (HVE.out.bd 0 (by omega))).mono ?_
    rintro e w6 ⟨bx, gmx, gsx, rfl, rx1, rx2, rx3, hcl, hb6⟩
    obtain ⟨X, hX⟩ : ∃ X : Pl, X = ⟨bx, 30, [], [], 0, gmx, gsx, (· < w5.heap.size)⟩ := ⟨_, rfl⟩
    have HX6 : Hid (MAt w6 X (tr im.code M 0)) := Lib.hid (by rw [hX]; exact hcl)
    have hXb : X.b = bx := by rw [hX]
    have hXo : X.off = 0 := by rw [hX]
    have hx6 : ∀ k, X.O k → w5.heap.size ≤ k ∧ k < w6.heap.size := by
      obtain ⟨_, _, _, _, _, _, hb'⟩ := HX6.out
      have c1 := hb'.lt; have c2 := hb'.gm; have c3 := hb'.gs
      rw [hX] at c1 c2 c3
      dsimp only at c1 c2 c3
      intro k ho
      rw [hX] at ho; rcases ho with e | e | e <;> (dsimp only at e; omega)
    have HXO := Lib.hid hx6
    have HXF : Hid (X.fx = (· < w5.heap.size)) := Lib.hid (by rw [hX])
    have hb36 := hb35.next hb6
    have HOW6 := Lib.hid (own_below HOW5.out hb6 (Nat.le_refl _))
    have HST6 := Lib.hid (HST5.out.keep (w' := w6) (D' := fun k => w3.heap.size ≤ k ∧ k < w6.heap.size ∧ k ≠ w4.heap.size ∧ ¬ X.O k) (fun b o hd => hb6.cell (p := ⟨b, o, none⟩) (by have := hd.2; show b < w5.heap.size; omega)) (fun k hk => ⟨hk.1, by have := hb6.size; have := hk.2; omega, by have := hk.2; omega, fun ho => by have := (hx6 k ho).1; have := hk.2; omega⟩) (fun k hk => hk.2.1))
    have z6 := hb6.size
    have HI3 := Lib.hid H3_1.out
    have HBW : Hid (∀ wz, Below w3.heap.size w3 wz → Below w.heap.size w wz) := Lib.hid fun wz h => hB_w3.next h
    have ENV : Hid (∀ wz, Below w3.heap.size w3 wz → Env wz X A n im.code) := Lib.hid fun wz hf => Env.oldV HC.out hw HT.out (by have := HSM.out.c; omega) (hB_w3.next hf) (fun k hk ho => by have := (hx6 k ho).1; omega)
    have HB36 := Lib.hid hb36
    clear hX hcl hb6 hb35 hb36 hx6 T_1 z_1 F_1 H_1 HOW5 HST5 HM5 rx1 rx2 rx3
    go_wp2_with fail
    go_loopg [8, 9] 61 (fun k v8 v9 wr => ∃ (i g cp : Nat) (xs : List Value) (fx : Nat → Prop), i + k = 61 ∧ i ≤ K ∧ v8 = .slice (some ⟨g, 0, none⟩) (i + 1) cp ∧ v9 = .int .i64 0 ∧ wr.ownsRow w3.heap.size 30 25 (.slice (some ⟨g, 0, none⟩) (i + 1) cp) (i + 1) xs ∧ StRow wr (fun k => w3.heap.size ≤ k ∧ k < wr.heap.size ∧ k ≠ g ∧ ¬ X.O k) im.code M (i + 1) xs ∧ MAt wr { X with fx := fx } (tr im.code M i) ∧ (fx g ∧ ¬ X.O g) ∧ Below w3.heap.size w3 wr ∧ w6.heap.size ≤ wr.heap.size)
    case atStart => exact ⟨0, w4.heap.size, 1, _, _, rfl, Nat.zero_le _, rfl, rfl, HOW6.out, HST6.out, HX6.out, ⟨by rw [HXF.out]; exact z5, fun ho => by have := (HXO.out _ ho).1; omega⟩, HB36.out, Nat.le_refl _⟩
    case round =>
      obtain ⟨i, g, cp, xs, fx, hik, hiK, rfl, rfl, how, hst, hX, hg, hbr, h6r⟩ := hrel
      obtain ⟨Y, hY⟩ : ∃ Y : Pl, Y = { X with fx := fx } := ⟨_, rfl⟩
      rw [← hY] at hX
      have hYb : Y.b = bx := by rw [hY]; exact hXb
      have hYo : Y.off = 0 := by rw [hY]; exact hXo
      have hYO : Y.O = X.O := by rw [hY]; rfl
      have ENVY : Hid (∀ wz, Below w3.heap.size w3 wz → Env wz Y A n im.code) := Lib.hid (by rw [hY]; exact fun wz hf => Env.fx (ENV.out wz hf) fx)
      have HYX : Hid (∀ f, ({ Y with fx := f } : Pl) = { X with fx := f }) := Lib.hid (fun f => by rw [hY])
      have HYF : Hid (Y.fx = fx) := Lib.hid (by rw [hY])
      have HYO := Lib.hid hYO
      clear hY hYO
      have HOWr := Lib.hid how; have HSTr := Lib.hid hst; have HXr := Lib.hid hX; have HGr := Lib.hid hg; have HBr := Lib.hid hbr; have HIK := Lib.hid hik
      obtain ⟨q, hq⟩ : ∃ q : Nat, q = i + 1 := ⟨_, rfl⟩
      have q0 : q ≤ 61 := by omega
      have hgl : g < wr.heap.size := (how.lt g rfl).2
      have hg3 : w3.heap.size ≤ g := (how.lt g rfl).1
      have z3r := hbr.size
      have HZ := Lib.hid hq
      rw [← hq]
      clear how hst hX hg hbr hik
      by_cases h60 : i = 60
      · have hq60 : ¬ (q : Int) ≤ 60 := by omega
        have HEE : Hid ((K = 60 ∧ ee = 0)) := Lib.hid (by rcases HST.out with h | h; exact h; omega)
        have hee0 : ee = 0 := HEE.out.2
        have hiK' : K = i := by omega
        subst hiK'
        clear hq
        go_wp2_with fail
        obtain ⟨w9, hw9⟩ : ∃ w9 : World, w9 = wr := ⟨_, rfl⟩
        subst hw9
        have H60 := Lib.hid h60
        clear h60 hq60 hee0
        have HV9 := Lib.hid (HV.out.next HBr.out); have HA9 := Lib.hid (HA.out.next HBr.out)
        have z9 := HBr.out.size
        have HQ : Hid (q = K + 1) := HZ
        have HOW9 : Hid (w9.ownsRow w3.heap.size 30 25 (.slice (some ⟨g, 0, none⟩) (K + 1) cp) (K + 1) xs) := HOWr
        have HST9 := HSTr
        have BEL2 : Hid (∀ wz, Fr P.O w9 wz → Below w.heap.size w wz) := Lib.hid fun wz hf => (HBW.out _ HBr.out).trans (hf.below (B := w.heap.size) (by omega) (fun k hk => by have := (HO.out k hk).1; omega))
        clear HOWr HSTr
        go_loopw [11, 50] (fun v11 v50 wr => ∃ (u now : Nat), u ≤ l.length ∧ v50 = .int .i64 u ∧ v11 = .int .i64 now ∧ now ≤ K ∧ DAt wr P im.code M now ∧ Fr P.O w9 wr) (fun _ v _ => l.length - (intOf v).toNat)
        case atStart => exact ⟨0, 0, Nat.zero_le _, rfl, rfl, Nat.zero_le _, HA9.out, Fr.refl _ _⟩
        case round =>
          obtain ⟨u, now, hu, rfl, rfl, hnow, ha, hfr⟩ := hrel
          have HAt := Lib.hid ha; have HFt := Lib.hid hfr
          have HVt := Lib.hid (HV9.out.fr hfr)
          clear ha hfr
          by_cases hlt : u < l.length
          · obtain ⟨_, _, ev, _, _, hR⟩ := HS.out
            injection ev with ev _ evc
            subst ev; subst evc
            obtain ⟨bl, ol, rfl, hdl, hcell⟩ := hR.2 (by omega)
            have ec := ((BEL2.out _ HFt.out).cell (p := ⟨bl, ol + u, none⟩) hdl).trans (hcell u _ (u8Cells_get l u hlt))
            have ob8 : l.getD u 0 ≤ 255 := H8.out _ (by rw [List.getD_eq_getElem?_getD, List.getElem?_eq_getElem hlt]; exact List.getElem_mem hlt)
            generalize l.getD u 0 = y at *
            have i0 : (0 : Int) ≤ (u : Int) := by omega
            have i1 : (u : Int) < (l.length : Int) := by omega
            have hbl : bl < wr.heap.size := by have := (BEL2.out _ HFt.out).size; omega
            obtain ⟨tox, hto⟩ : ∃ tox : Nat, tox = y % 61 := ⟨_, rfl⟩
            have hmod : (y : Int).tmod 61 = (tox : Int) := by rw [Int.tmod_eq_emod_of_nonneg (by omega)]; omega
            have hwy : IntKind.i64.wrap (y : Int) = (y : Int) := wrap_small _ (by omega) (by omega)
            have hto61 : tox < 61 := by omega
            clear hR hcell hdl hto
            by_cases hK : tox ≤ K
            · have hc1 : (tox : Int) < (q : Int) := by have := HQ.out; omega
              obtain ⟨now', hn'⟩ : ∃ now' : Nat, now' = tox := ⟨_, rfl⟩
              go_wp2_with fail
              refine (c_SeekOk HVt.out HVE.out (j := now) (t := tox) (by omega) (by omega) (by omega) (by omega) (fun i hi => HLT.out i (by omega)) HAt.out).mono ?_
              rintro e wk ⟨rfl, hak, hfk⟩
              have HAk := Lib.hid hak; have HVk := Lib.hid (HVt.out.fr hfk); have HFk := Lib.hid (HFt.out.trans hfk)
              have zk := HFk.out.size
              clear hak hfk
              go_wp2_with fail
              subst hn'
              obtain ⟨vmr, vsr, vcr, vir, vor, svr, hrd⟩ := StRow.rd HST9.out HOW9.out (i := now') (by have := HQ.out; omega)
              have HRDK := Lib.hid (hrd.fr HFk.out (fun ho => by have := (HO.out _ ho).2; omega) (fun k hk ho => by have := (HO.out _ ho).2; have := hk.1; omega))
              have hnq : (now' : Int) < (q : Int) := by have := HQ.out; omega
              have nw0 : (0 : Int) ≤ (now' : Int) := by omega
              clear hrd
              go_upto_region 25 with fail
              refine wp_region_held_drew (S := fun W => Below wk.heap.size wk W) (by kernel_rfl) ((Below.refl _ _).drew) (fun hH => ?_)
              refine wpAnyH_take (i := 0) (v := ?_) rfl (by kernel_rfl) (by kernel_rfl) (by kernel_rfl) (fun _ _ _ h => h) (Or.inl ⟨by rfl, ?hy⟩) hH ?_
              case hy => (intro w9_ hS9; clear hS9; go_simp; try with_reducible rfl)
              (try simp only [List.getElem_toArray, List.getElem_cons_zero, List.getElem_cons_succ, Act.put, List.setIfInBounds_toArray, List.set_cons_zero, List.set_cons_succ])
              refine wpAnyH_take (i := 2) (v := ?_) rfl (by kernel_rfl) (by kernel_rfl) (by kernel_rfl) (fun _ _ _ h => h) (Or.inl ⟨by rfl, ?hy⟩) hH ?_
              case hy => (intro w9_ hS9; clear hS9; go_simp; try with_reducible rfl)
              (try simp only [List.getElem_toArray, List.getElem_cons_zero, List.getElem_cons_succ, Act.put, List.setIfInBounds_toArray, List.set_cons_zero, List.set_cons_succ])
              refine wpAnyH_ready (rs := [1]) (by kernel_rfl) (by simp) ?_
              refine AllReadyH.cons rfl (fun K hK => ?_) (AllReadyH.nil)
              go_simp
              refine (c_DTime (HVk.out.next hH) (HAk.out.next hH)).mono ?_
              rintro e w12 ⟨rfl, hbw12⟩
              replace hH := hH.next hbw12
              clear hbw12
              refine hK.out _ _ hH (fun _ => ?_)
              clear hK
              (try simp only [List.getElem_toArray, List.getElem_cons_zero, List.getElem_cons_succ, Act.put, List.setIfInBounds_toArray, List.set_cons_zero, List.set_cons_succ])
              refine wpAnyH_take (i := 3) (v := ?_) rfl (by kernel_rfl) (by kernel_rfl) (by kernel_rfl) (fun _ _ _ h => h) (Or.inl ⟨by rfl, ?hy⟩) hH ?_
              case hy => (intro w9_ hS9; clear hS9; go_simp; try with_reducible rfl)
              (try simp only [List.getElem_toArray, List.getElem_cons_zero, List.getElem_cons_succ, Act.put, List.setIfInBounds_toArray, List.set_cons_zero, List.set_cons_succ])
              refine wpAnyH_take (i := 4) (v := ?_) rfl (by kernel_rfl) (by kernel_rfl) (by kernel_rfl) (fun _ _ _ h => h) (Or.inl ⟨by rfl, ?hy⟩) hH ?_
              case hy => (intro w9_ hS9; clear hS9; go_simp; try with_reducible rfl)
              (try simp only [List.getElem_toArray, List.getElem_cons_zero, List.getElem_cons_succ, Act.put, List.setIfInBounds_toArray, List.set_cons_zero, List.set_cons_succ])
              refine wpAnyH_take (i := 5) (v := ?_) rfl (by kernel_rfl) (by kernel_rfl) (by kernel_rfl) (fun _ _ _ h => h) (Or.inl ⟨by rfl, ?hy⟩) hH ?_
              case hy => (intro w9_ hS9; clear hS9; go_simp; try with_reducible rfl)
              (try simp only [List.getElem_toArray, List.getElem_cons_zero, List.getElem_cons_succ, Act.put, List.setIfInBounds_toArray, List.set_cons_zero, List.set_cons_succ])
              refine wpAnyH_take (i := 7) (v := ?_) rfl (by kernel_rfl) (by kernel_rfl) (by kernel_rfl) (fun _ _ _ h => h) (Or.inl ⟨by rfl, ?hy⟩) hH ?_
              case hy => (intro w9_ hS9; clear hS9; go_simp; try with_reducible rfl)
              (try simp only [List.getElem_toArray, List.getElem_cons_zero, List.getElem_cons_succ, Act.put, List.setIfInBounds_toArray, List.set_cons_zero, List.set_cons_succ])
              refine wpAnyH_take (i := 8) (v := ?_) rfl (by kernel_rfl) (by kernel_rfl) (by kernel_rfl) (fun _ _ _ h => h) (Or.inl ⟨by rfl, ?hy⟩) hH ?_
              case hy => (intro w9_ hS9; clear hS9; go_simp; try with_reducible rfl)
              (try simp only [List.getElem_toArray, List.getElem_cons_zero, List.getElem_cons_succ, Act.put, List.setIfInBounds_toArray, List.set_cons_zero, List.set_cons_succ])
              refine wpAnyH_take (i := 9) (v := ?_) rfl (by kernel_rfl) (by kernel_rfl) (by kernel_rfl) (fun _ _ _ h => h) (Or.inl ⟨by rfl, ?hy⟩) hH ?_
              case hy => (intro w9_ hS9; clear hS9; go_simp; try with_reducible rfl)
              (try simp only [List.getElem_toArray, List.getElem_cons_zero, List.getElem_cons_succ, Act.put, List.setIfInBounds_toArray, List.set_cons_zero, List.set_cons_succ])
              refine wpAnyH_take (i := 10) (v := _) rfl (by kernel_rfl) (by kernel_rfl) (by kernel_rfl) (fun _ _ _ h => h) (Or.inl ⟨by rfl, yields_load 30 (x := .tmp 79) rfl rfl (fun W hW => load_mach (HRDK.out.next hW))⟩) hH ?_
              (try simp only [List.getElem_toArray, List.getElem_cons_zero, List.getElem_cons_succ, Act.put, List.setIfInBounds_toArray, List.set_cons_zero, List.set_cons_succ])
              refine wpAnyH_ready (rs := [6]) (by kernel_rfl) (by simp) ?_
              refine AllReadyH.cons rfl (fun K hK => ?_) (AllReadyH.nil)
              go_simp
              refine (c_DMachine (HVk.out.next hH) HVE.out (j := now') (by omega) (HAk.out.next hH)).mono ?_
              rintro e wz ⟨vmz, vsz, vcz, viz, voz, svz, rfl, hOz, hbz⟩
              have HOz := Lib.hid hOz
              replace hH := hH.next hbz
              clear hOz hbz
              refine hK.out _ _ hH (fun _ => ?_)
              clear hK
              (try simp only [List.getElem_toArray, List.getElem_cons_zero, List.getElem_cons_succ, Act.put, List.setIfInBounds_toArray, List.set_cons_zero, List.set_cons_succ])
              refine wpAnyH_ready (rs := [11]) (by kernel_rfl) (by simp) ?_
              refine AllReadyH.cons rfl (fun K hK => ?_) (AllReadyH.nil)
              go_simp
              refine (c_same33 HOz.out.mls (HRDK.out.next hH).mls (HVE.out.bd now' (by omega))).mono ?_
              rintro e w14 ⟨rfl, hbw14⟩
              replace hH := hH.next hbw14
              clear hbw14
              refine hK.out _ _ hH (fun _ => ?_)
              clear hK
              (try simp only [List.getElem_toArray, List.getElem_cons_zero, List.getElem_cons_succ, Act.put, List.setIfInBounds_toArray, List.set_cons_zero, List.set_cons_succ])
              refine wpAnyH_take (i := 12) (v := ?_) rfl (by kernel_rfl) (by kernel_rfl) (by kernel_rfl) (fun _ _ _ h => h) (Or.inl ⟨by rfl, ?hy⟩) hH ?_
              case hy => (intro w9_ hS9; clear hS9; go_simp; try with_reducible rfl)
              (try simp only [List.getElem_toArray, List.getElem_cons_zero, List.getElem_cons_succ, Act.put, List.setIfInBounds_toArray, List.set_cons_zero, List.set_cons_succ])
              refine wpAnyH_take (i := 13) (v := ?_) rfl (by kernel_rfl) (by kernel_rfl) (by kernel_rfl) (fun _ _ _ h => h) (Or.inl ⟨by rfl, ?hy⟩) hH ?_
              case hy => (intro w9_ hS9; clear hS9; go_simp; try with_reducible rfl)
              (try simp only [List.getElem_toArray, List.getElem_cons_zero, List.getElem_cons_succ, Act.put, List.setIfInBounds_toArray, List.set_cons_zero, List.set_cons_succ])
              refine wpAnyH_done (by kernel_rfl) ?_ _
              go_wp2_with fail
              exact ⟨⟨u + 1, now', by omega, by go_num, rfl, by omega, HAk.out.next hH, HFk.out.next hH⟩, by simp [intOf]; omega⟩
            · exact absurd hK (by have := H60.out; omega)
          · obtain rfl : u = l.length := by omega
            go_wp2_with fail
            go_ret
            exact ⟨rfl, BEL2.out _ HFt.out⟩
      · have hq60 : (q : Int) ≤ 60 := by omega
        have K_1 : Blk wr w.heap.size 24 #[.slice A n cap, .int .i64 im.mem, .int .i64 im.stacks] := blk_next HI3.out HBr.out (by omega)
        obtain ⟨z_1, T_1, F_1⟩ := K_1.open_; have H_1 := Lib.hid K_1; clear K_1 hq
        by_cases h0 : te im.code M i = 0
        · have H0 := Lib.hid h0; clear h0
          go_wp2_with fail
          obtain ⟨_, _, _, _, _, _, hxm⟩ := HXr.out
          have hs := c_Step hxm cap im (ENVY.out _ HBr.out) HVE.out.ck (HVE.out.fit i) (HVE.out.bd i (by omega))
          rw [hYb, hYo] at hs
          refine (OnM.of hs (te_ok H0.out).symm).mono ?_
          rintro e w7 ⟨rfl, hm7, hf7⟩
          clear hxm hs
          rw [HYO.out] at hf7
          have HX7 := Lib.hid hm7
          have HF7 : Hid (Fr X.O wr w7) := Lib.hid hf7
          have hb7 : Below w3.heap.size w3 w7 := HBr.out.trans (hf7.below (B := w3.heap.size) (by omega) (fun k hk => by have := (HXO.out k hk).1; omega))
          have z7 := hf7.size
          have HB7 := Lib.hid hb7
          clear hm7 hf7 hb7 T_1 z_1 F_1 H_1
          go_wp2_with fail
          obtain ⟨_, _, _, _, _, _, hXR⟩ := MAt.rdV HX7.out
          rw [hYb, hYo] at hXR
          refine (c_Clone hXR (HVE.out.bd (i + 1) (by omega))).mono ?_
          rintro e w8 ⟨b8, g8m, g8s, rfl, r1, r2, r3, ⟨vmb, vsb, vcb, vib, vob, svb, hcl⟩, hb8⟩
          have HO8 := Lib.hid (hcl.own r2 r3).mls
          have HRD8 := Lib.hid hcl.rd
          have HRDX := HRD8
          have HRL := Lib.hid hcl.rl
          have hlt8 : b8 < w8.heap.size := hcl.lt
          have hone := rdm hcl.rd
          have h25 : (mcells (tr im.code M (i + 1)) vmb vsb vcb vib vob).length = 25 := mc_len _ _ _ _ _ _ hcl.rl
          have HONE := Lib.hid hone; have H25 := Lib.hid h25
          have z8 := hb8.size
          have HOW8 := Lib.hid (own_of_block (w' := w8) HOWr.out (fun k hk hv => by injection hv with hv; subst hv; exact (hb8.block _ (by omega)).trans (HF7.out.block _ hk HGr.out.2)))
          rw [← HZ.out] at HOW8
          have HB8 := Lib.hid (HB7.out.next hb8)
          have HX8 := Lib.hid (HX7.out.next hb8)
          have HST8 := Lib.hid (HSTr.out.keep (w' := w8) (fun b o hd => (hb8.cell (p := ⟨b, o, none⟩) (by have := hd.2.1; show b < w7.heap.size; omega)).trans (HF7.out.cell hd.2.1 hd.2.2.2 o)) (fun k hk => hk) (fun k hk => by have := hk.2.1; omega))
          clear hXR hcl hb8 r1 r2 r3 hone h25
          go_wp2_with (first | (refine wpList_loadG 30 rfl rfl rfl (load_mach HRD8.out) ?_; simp only [Act.put, List.setIfInBounds_toArray, List.set_cons_succ, List.set_cons_zero]) | (refine wpList_bsM (HRDX.out) rfl rfl rfl ?_; simp only [Act.put, List.setIfInBounds_toArray, List.set_cons_succ, List.set_cons_zero]) | (at_builtin; refine wpList_append_own_at _ rfl (.tmp 41) (.tmp 46) 58 rfl w3.heap.size 30 im25 _ 25 280 Tryd.underlying58 li25 lz25 ls25 lb25 rfl (by decide) _ _ _ rfl (HOW8.out.alloc _) ⟨w8.heap.size, 0, none⟩ 1 1 (mcells (tr im.code M (i + 1)) vmb vsb vcb vib vob) rfl (by rw [H25.out]) (cells_new' _ _ _ rfl) HONE.out (by simp [maxLen]; omega) (by omega) (by simp; omega) ?_))
          intro v10 w10 hown10 hgrow hnil hat
          obtain ⟨g', cap', rfl, hg'3, hg'l, -, -, -⟩ := own_some hown10 (by omega)
          have hg10 : g' = g ∨ g' = w8.heap.size + 1 := by
            rcases hat with h | h <;> (simp [Value.ownBlock] at h; omega)
          have hfr : Fr (· = g) w8 w10 := ⟨hgrow.os, hgrow.tape, hgrow.output, by have := hgrow.size; simp at this; omega, fun k hk ho => (hgrow.block k (by simp; omega) (by simp [Value.ownBlock]; exact ho)).trans (((Below.refl w8.heap.size w8).alloc (Nat.le_refl _) _).block k hk)⟩
          have z10 := hfr.size
          have HOW10 := Lib.hid hown10
          have HB10 := Lib.hid (HB8.out.trans (hfr.below (B := w3.heap.size) (by omega) (fun k hk => by omega)))
          have hgY : ¬ Y.O g := by rw [HYO.out]; exact HGr.out.2
          have hX10 := MAt.otherF HX8.out hfr (fun h => hgY (.inl h.symm)) (fun h => hgY (.inr (.inl h.symm))) (fun h => hgY (.inr (.inr h.symm))) (fun k hk => by rw [HYF.out]; exact hk ▸ HGr.out.1) (fx := fun k => k = g ∨ k = g') (fun k hk => hk.elim (fun h => .inl (by rw [HYF.out]; exact h ▸ HGr.out.1)) (fun h => hg10.elim (fun e => .inl (by rw [HYF.out, h, e]; exact HGr.out.1)) (fun e => .inr (by omega)))) (fun k hk => hk.elim (fun h => by omega) (fun h => by omega))
          rw [HYX.out] at hX10
          have HX10 := Lib.hid hX10
          clear hgY
          have HG10 : Hid (¬ X.O g') := Lib.hid (fun ho => hg10.elim (fun e => HGr.out.2 (e ▸ ho)) (fun e => by have := (HXO.out _ ho).2; omega))
          have HST10 := Lib.hid (StRow.add (HST8.out.keep (w' := w10) (D' := fun k => w3.heap.size ≤ k ∧ k < w10.heap.size ∧ k ≠ g' ∧ ¬ X.O k) (fun b o hd => hfr.cell (by have := hd.2.1; omega) (fun e => hd.2.2.1 e) o) (fun k hk => ⟨hk.1, by have := hk.2.1; omega, fun e => hg10.elim (fun e' => hk.2.2.1 (e.trans e')) (fun e' => by have := hk.2.1; omega), hk.2.2.2⟩) (fun k hk => hk.2.1)) (HO8.out.keep (w' := w10) (D' := fun k => w3.heap.size ≤ k ∧ k < w10.heap.size ∧ k ≠ g' ∧ ¬ X.O k) (fun b o hd => hfr.cell (by have := hd.2; omega) (fun e => by have := hd.1; omega) o) (fun k hk => ⟨by have := hk.1; omega, by have := hk.2; omega, fun e => hg10.elim (fun e' => by have := hk.1; omega) (fun e' => by have := hk.2; omega), fun ho => by have := (HXO.out _ ho).2; have := hk.1; omega⟩) (fun k hk => hk.2.1)))
          have hq1 : q + 1 = i + 1 + 1 := by have := HZ.out; omega
          rw [hq1] at HOW10
          rw [hq1]
          clear hown10 hgrow hnil hat hX10 hq1
          go_wp2_with fail
          go_roundg (60 - i)
          case measure => have := HIK.out; omega
          case rel => exact ⟨i + 1, g', cap', _, _, by omega, by rcases HST.out with h | h; omega; rcases Nat.lt_or_ge i K with h' | h'; omega; exact absurd (by rw [show K = i by omega] at h; exact h.2.1.symm.trans H0.out) h.2.2, rfl, rfl, HOW10.out, HST10.out, HX10.out, ⟨.inr rfl, HG10.out⟩, HB10.out, by omega⟩
        · have hiK' : K = i := by
            rcases Nat.lt_or_ge i K with h' | h'
            · exact absurd (HLT.out i h') h0
            · omega
          subst hiK'
          have HEE : Hid (te im.code M K = ee ∧ ee ≠ 0 ∧ K < 60) := Lib.hid (by rcases HST.out with h | h; omega; exact ⟨h.2.1, h.2.2, h.1⟩)
          have h5 : (ee != 0) = true := by simpa using HEE.out.2.1
          have hst := te_err h0
          rw [HEE.out.1] at hst
          have HTE := Lib.hid hst
          clear h0 hst
          go_wp2_with fail
          obtain ⟨_, _, _, _, _, _, hxm⟩ := HXr.out
          have hs := c_Step hxm cap im (ENVY.out _ HBr.out) HVE.out.ck (HVE.out.fit K) (HVE.out.bd K (by omega))
          rw [hYb, hYo] at hs
          refine (OnM.of hs HTE.out.symm).mono ?_
          rintro e w9 ⟨rfl, hm7, hf7⟩
          clear hxm hs
          rw [HYO.out] at hf7
          have HF7 : Hid (Fr X.O wr w9) := Lib.hid hf7
          have z7 := hf7.size
          have HBr9 : Hid (Below w3.heap.size w3 w9) := Lib.hid (HBr.out.trans (hf7.below (B := w3.heap.size) (by omega) (fun k hk => by have := (HXO.out k hk).1; omega)))
          have HOWr9 := Lib.hid (own_of_block (w' := w9) HOWr.out (fun k hk hv => by injection hv with hv; subst hv; exact HF7.out.block _ hk HGr.out.2))
          have HSTr9 := Lib.hid (HSTr.out.keep (w' := w9) (D' := fun k => w3.heap.size ≤ k ∧ k < w9.heap.size ∧ k ≠ g ∧ ¬ X.O k) (fun b o hd => HF7.out.cell hd.2.1 hd.2.2.2 o) (fun k hk => ⟨hk.1, by have := hk.2.1; omega, hk.2.2⟩) (fun k hk => hk.2.1))
          clear HOWr HSTr HBr HXr hm7 hf7 T_1 z_1 F_1 H_1 HF7
          have HOWr := HOWr9; have HSTr := HSTr9; have HBr := HBr9
          clear HOWr9 HSTr9 HBr9
          have hgl9 : g < w9.heap.size := by omega
          go_wp2_with fail
          have HV9 := Lib.hid (HV.out.next HBr.out); have HA9 := Lib.hid (HA.out.next HBr.out)
          have z9 := HBr.out.size
          have HQ : Hid (q = K + 1) := HZ
          have HOW9 : Hid (w9.ownsRow w3.heap.size 30 25 (.slice (some ⟨g, 0, none⟩) (K + 1) cp) (K + 1) xs) := HOWr
          have HST9 := HSTr
          have BEL2 : Hid (∀ wz, Fr P.O w9 wz → Below w.heap.size w wz) := Lib.hid fun wz hf => (HBW.out _ HBr.out).trans (hf.below (B := w.heap.size) (by omega) (fun k hk => by have := (HO.out k hk).1; omega))
          clear HOWr HSTr
          go_loopw [11, 50] (fun v11 v50 wr => ∃ (u now : Nat), u ≤ l.length ∧ v50 = .int .i64 u ∧ v11 = .int .i64 now ∧ now ≤ K ∧ DAt wr P im.code M now ∧ Fr P.O w9 wr) (fun _ v _ => l.length - (intOf v).toNat)
          case atStart => exact ⟨0, 0, Nat.zero_le _, rfl, rfl, Nat.zero_le _, HA9.out, Fr.refl _ _⟩
          case round =>
            obtain ⟨u, now, hu, rfl, rfl, hnow, ha, hfr⟩ := hrel
            have HAt := Lib.hid ha; have HFt := Lib.hid hfr
            have HVt := Lib.hid (HV9.out.fr hfr)
            clear ha hfr
            by_cases hlt : u < l.length
            · obtain ⟨_, _, ev, _, _, hR⟩ := HS.out
              injection ev with ev _ evc
              subst ev; subst evc
              obtain ⟨bl, ol, rfl, hdl, hcell⟩ := hR.2 (by omega)
              have ec := ((BEL2.out _ HFt.out).cell (p := ⟨bl, ol + u, none⟩) hdl).trans (hcell u _ (u8Cells_get l u hlt))
              have ob8 : l.getD u 0 ≤ 255 := H8.out _ (by rw [List.getD_eq_getElem?_getD, List.getElem?_eq_getElem hlt]; exact List.getElem_mem hlt)
              generalize l.getD u 0 = y at *
              have i0 : (0 : Int) ≤ (u : Int) := by omega
              have i1 : (u : Int) < (l.length : Int) := by omega
              have hbl : bl < wr.heap.size := by have := (BEL2.out _ HFt.out).size; omega
              obtain ⟨tox, hto⟩ : ∃ tox : Nat, tox = y % 61 := ⟨_, rfl⟩
              have hmod : (y : Int).tmod 61 = (tox : Int) := by rw [Int.tmod_eq_emod_of_nonneg (by omega)]; omega
              have hwy : IntKind.i64.wrap (y : Int) = (y : Int) := wrap_small _ (by omega) (by omega)
              have hto61 : tox < 61 := by omega
              clear hR hcell hdl hto
              by_cases hK : tox ≤ K
              · have hc1 : (tox : Int) < (q : Int) := by have := HQ.out; omega
                obtain ⟨now', hn'⟩ : ∃ now' : Nat, now' = tox := ⟨_, rfl⟩
                go_wp2_with fail
                refine (c_SeekOk HVt.out HVE.out (j := now) (t := tox) (by omega) (by omega) (by omega) (by omega) (fun i hi => HLT.out i (by omega)) HAt.out).mono ?_
                rintro e wk ⟨rfl, hak, hfk⟩
                have HAk := Lib.hid hak; have HVk := Lib.hid (HVt.out.fr hfk); have HFk := Lib.hid (HFt.out.trans hfk)
                have zk := HFk.out.size
                clear hak hfk
                go_wp2_with fail
                subst hn'
                obtain ⟨vmr, vsr, vcr, vir, vor, svr, hrd⟩ := StRow.rd HST9.out HOW9.out (i := now') (by have := HQ.out; omega)
                have HRDK := Lib.hid (hrd.fr HFk.out (fun ho => by have := (HO.out _ ho).2; omega) (fun k hk ho => by have := (HO.out _ ho).2; have := hk.1; omega))
                have hnq : (now' : Int) < (q : Int) := by have := HQ.out; omega
                have nw0 : (0 : Int) ≤ (now' : Int) := by omega
                clear hrd
                go_upto_region 25 with fail
                refine wp_region_held_drew (S := fun W => Below wk.heap.size wk W) (by kernel_rfl) ((Below.refl _ _).drew) (fun hH => ?_)
                refine wpAnyH_take (i := 0) (v := ?_) rfl (by kernel_rfl) (by kernel_rfl) (by kernel_rfl) (fun _ _ _ h => h) (Or.inl ⟨by rfl, ?hy⟩) hH ?_
                case hy => (intro w9_ hS9; clear hS9; go_simp; try with_reducible rfl)
                (try simp only [List.getElem_toArray, List.getElem_cons_zero, List.getElem_cons_succ, Act.put, List.setIfInBounds_toArray, List.set_cons_zero, List.set_cons_succ])
                refine wpAnyH_take (i := 2) (v := ?_) rfl (by kernel_rfl) (by kernel_rfl) (by kernel_rfl) (fun _ _ _ h => h) (Or.inl ⟨by rfl, ?hy⟩) hH ?_
                case hy => (intro w9_ hS9; clear hS9; go_simp; try with_reducible rfl)
                (try simp only [List.getElem_toArray, List.getElem_cons_zero, List.getElem_cons_succ, Act.put, List.setIfInBounds_toArray, List.set_cons_zero, List.set_cons_succ])
                refine wpAnyH_ready (rs := [1]) (by kernel_rfl) (by simp) ?_
                refine AllReadyH.cons rfl (fun K hK => ?_) (AllReadyH.nil)
                go_simp
                refine (c_DTime (HVk.out.next hH) (HAk.out.next hH)).mono ?_
                rintro e w12 ⟨rfl, hbw12⟩
                replace hH := hH.next hbw12
                clear hbw12
                refine hK.out _ _ hH (fun _ => ?_)
                clear hK
                (try simp only [List.getElem_toArray, List.getElem_cons_zero, List.getElem_cons_succ, Act.put, List.setIfInBounds_toArray, List.set_cons_zero, List.set_cons_succ])
                refine wpAnyH_take (i := 3) (v := ?_) rfl (by kernel_rfl) (by kernel_rfl) (by kernel_rfl) (fun _ _ _ h => h) (Or.inl ⟨by rfl, ?hy⟩) hH ?_
                case hy => (intro w9_ hS9; clear hS9; go_simp; try with_reducible rfl)
                (try simp only [List.getElem_toArray, List.getElem_cons_zero, List.getElem_cons_succ, Act.put, List.setIfInBounds_toArray, List.set_cons_zero, List.set_cons_succ])
                refine wpAnyH_take (i := 4) (v := ?_) rfl (by kernel_rfl) (by kernel_rfl) (by kernel_rfl) (fun _ _ _ h => h) (Or.inl ⟨by rfl, ?hy⟩) hH ?_
                case hy => (intro w9_ hS9; clear hS9; go_simp; try with_reducible rfl)
                (try simp only [List.getElem_toArray, List.getElem_cons_zero, List.getElem_cons_succ, Act.put, List.setIfInBounds_toArray, List.set_cons_zero, List.set_cons_succ])
                refine wpAnyH_take (i := 5) (v := ?_) rfl (by kernel_rfl) (by kernel_rfl) (by kernel_rfl) (fun _ _ _ h => h) (Or.inl ⟨by rfl, ?hy⟩) hH ?_
                case hy => (intro w9_ hS9; clear hS9; go_simp; try with_reducible rfl)
                (try simp only [List.getElem_toArray, List.getElem_cons_zero, List.getElem_cons_succ, Act.put, List.setIfInBounds_toArray, List.set_cons_zero, List.set_cons_succ])
                refine wpAnyH_take (i := 7) (v := ?_) rfl (by kernel_rfl) (by kernel_rfl) (by kernel_rfl) (fun _ _ _ h => h) (Or.inl ⟨by rfl, ?hy⟩) hH ?_
                case hy => (intro w9_ hS9; clear hS9; go_simp; try with_reducible rfl)
                (try simp only [List.getElem_toArray, List.getElem_cons_zero, List.getElem_cons_succ, Act.put, List.setIfInBounds_toArray, List.set_cons_zero, List.set_cons_succ])
                refine wpAnyH_take (i := 8) (v := ?_) rfl (by kernel_rfl) (by kernel_rfl) (by kernel_rfl) (fun _ _ _ h => h) (Or.inl ⟨by rfl, ?hy⟩) hH ?_
                case hy => (intro w9_ hS9; clear hS9; go_simp; try with_reducible rfl)
                (try simp only [List.getElem_toArray, List.getElem_cons_zero, List.getElem_cons_succ, Act.put, List.setIfInBounds_toArray, List.set_cons_zero, List.set_cons_succ])
                refine wpAnyH_take (i := 9) (v := ?_) rfl (by kernel_rfl) (by kernel_rfl) (by kernel_rfl) (fun _ _ _ h => h) (Or.inl ⟨by rfl, ?hy⟩) hH ?_
                case hy => (intro w9_ hS9; clear hS9; go_simp; try with_reducible rfl)
                (try simp only [List.getElem_toArray, List.getElem_cons_zero, List.getElem_cons_succ, Act.put, List.setIfInBounds_toArray, List.set_cons_zero, List.set_cons_succ])
                refine wpAnyH_take (i := 10) (v := _) rfl (by kernel_rfl) (by kernel_rfl) (by kernel_rfl) (fun _ _ _ h => h) (Or.inl ⟨by rfl, yields_load 30 (x := .tmp 79) rfl rfl (fun W hW => load_mach (HRDK.out.next hW))⟩) hH ?_
                (try simp only [List.getElem_toArray, List.getElem_cons_zero, List.getElem_cons_succ, Act.put, List.setIfInBounds_toArray, List.set_cons_zero, List.set_cons_succ])
                refine wpAnyH_ready (rs := [6]) (by kernel_rfl) (by simp) ?_
                refine AllReadyH.cons rfl (fun K hK => ?_) (AllReadyH.nil)
                go_simp
                refine (c_DMachine (HVk.out.next hH) HVE.out (j := now') (by omega) (HAk.out.next hH)).mono ?_
                rintro e wz ⟨vmz, vsz, vcz, viz, voz, svz, rfl, hOz, hbz⟩
                have HOz := Lib.hid hOz
                replace hH := hH.next hbz
                clear hOz hbz
                refine hK.out _ _ hH (fun _ => ?_)
                clear hK
                (try simp only [List.getElem_toArray, List.getElem_cons_zero, List.getElem_cons_succ, Act.put, List.setIfInBounds_toArray, List.set_cons_zero, List.set_cons_succ])
                refine wpAnyH_ready (rs := [11]) (by kernel_rfl) (by simp) ?_
                refine AllReadyH.cons rfl (fun K hK => ?_) (AllReadyH.nil)
                go_simp
                refine (c_same33 HOz.out.mls (HRDK.out.next hH).mls (HVE.out.bd now' (by omega))).mono ?_
                rintro e w14 ⟨rfl, hbw14⟩
                replace hH := hH.next hbw14
                clear hbw14
                refine hK.out _ _ hH (fun _ => ?_)
                clear hK
                (try simp only [List.getElem_toArray, List.getElem_cons_zero, List.getElem_cons_succ, Act.put, List.setIfInBounds_toArray, List.set_cons_zero, List.set_cons_succ])
                refine wpAnyH_take (i := 12) (v := ?_) rfl (by kernel_rfl) (by kernel_rfl) (by kernel_rfl) (fun _ _ _ h => h) (Or.inl ⟨by rfl, ?hy⟩) hH ?_
                case hy => (intro w9_ hS9; clear hS9; go_simp; try with_reducible rfl)
                (try simp only [List.getElem_toArray, List.getElem_cons_zero, List.getElem_cons_succ, Act.put, List.setIfInBounds_toArray, List.set_cons_zero, List.set_cons_succ])
                refine wpAnyH_take (i := 13) (v := ?_) rfl (by kernel_rfl) (by kernel_rfl) (by kernel_rfl) (fun _ _ _ h => h) (Or.inl ⟨by rfl, ?hy⟩) hH ?_
                case hy => (intro w9_ hS9; clear hS9; go_simp; try with_reducible rfl)
                (try simp only [List.getElem_toArray, List.getElem_cons_zero, List.getElem_cons_succ, Act.put, List.setIfInBounds_toArray, List.set_cons_zero, List.set_cons_succ])
                refine wpAnyH_done (by kernel_rfl) ?_ _
                go_wp2_with fail
                exact ⟨⟨u + 1, now', by omega, by go_num, rfl, by omega, HAk.out.next hH, HFk.out.next hH⟩, by simp [intOf]; omega⟩
              · have hc1 : ¬ (tox : Int) < (q : Int) := by have := HQ.out; omega
                have HE9 : Hid (te im.code M K = ee ∧ ee ≠ 0) := Lib.hid (by rcases HST.out with h | h; omega; exact h.2)
                have hs := c_SeekErr HVt.out HVE.out (j := now) (t := tox) (k := K) (by omega) (by omega) (by omega) (by omega) (by omega) (fun i hi => HLT.out i hi) HE9.out.1 HE9.out.2 HAt.out
                have HSS := Lib.hid hs
                clear hs
                obtain ⟨now', hn'⟩ : ∃ now' : Nat, now' = now := ⟨_, rfl⟩
                go_wp2_with fail
                refine (HSS.out).mono ?_
                rintro e wk ⟨rfl, hak, hfk⟩
                have HAk := Lib.hid hak; have HVk := Lib.hid (HVt.out.fr hfk); have HFk := Lib.hid (HFt.out.trans hfk)
                have zk := HFk.out.size
                clear hak hfk
                go_wp2_with fail
                subst hn'
                obtain ⟨vmr, vsr, vcr, vir, vor, svr, hrd⟩ := StRow.rd HST9.out HOW9.out (i := now') (by have := HQ.out; omega)
                have HRDK := Lib.hid (hrd.fr HFk.out (fun ho => by have := (HO.out _ ho).2; omega) (fun k hk ho => by have := (HO.out _ ho).2; have := hk.1; omega))
                have hnq : (now' : Int) < (q : Int) := by have := HQ.out; omega
                have nw0 : (0 : Int) ≤ (now' : Int) := by omega
                clear hrd
                go_upto_region 25 with fail
                refine wp_region_held_drew (S := fun W => Below wk.heap.size wk W) (by kernel_rfl) ((Below.refl _ _).drew) (fun hH => ?_)
                refine wpAnyH_take (i := 0) (v := ?_) rfl (by kernel_rfl) (by kernel_rfl) (by kernel_rfl) (fun _ _ _ h => h) (Or.inl ⟨by rfl, ?hy⟩) hH ?_
                case hy => (intro w9_ hS9; clear hS9; go_simp; try with_reducible rfl)
                (try simp only [List.getElem_toArray, List.getElem_cons_zero, List.getElem_cons_succ, Act.put, List.setIfInBounds_toArray, List.set_cons_zero, List.set_cons_succ])
                refine wpAnyH_take (i := 2) (v := ?_) rfl (by kernel_rfl) (by kernel_rfl) (by kernel_rfl) (fun _ _ _ h => h) (Or.inl ⟨by rfl, ?hy⟩) hH ?_
                case hy => (intro w9_ hS9; clear hS9; go_simp; try with_reducible rfl)
                (try simp only [List.getElem_toArray, List.getElem_cons_zero, List.getElem_cons_succ, Act.put, List.setIfInBounds_toArray, List.set_cons_zero, List.set_cons_succ])
                refine wpAnyH_ready (rs := [1]) (by kernel_rfl) (by simp) ?_
                refine AllReadyH.cons rfl (fun K hK => ?_) (AllReadyH.nil)
                go_simp
                refine (c_DTime (HVk.out.next hH) (HAk.out.next hH)).mono ?_
                rintro e w12 ⟨rfl, hbw12⟩
                replace hH := hH.next hbw12
                clear hbw12
                refine hK.out _ _ hH (fun _ => ?_)
                clear hK
                (try simp only [List.getElem_toArray, List.getElem_cons_zero, List.getElem_cons_succ, Act.put, List.setIfInBounds_toArray, List.set_cons_zero, List.set_cons_succ])
                refine wpAnyH_take (i := 3) (v := ?_) rfl (by kernel_rfl) (by kernel_rfl) (by kernel_rfl) (fun _ _ _ h => h) (Or.inl ⟨by rfl, ?hy⟩) hH ?_
                case hy => (intro w9_ hS9; clear hS9; go_simp; try with_reducible rfl)
                (try simp only [List.getElem_toArray, List.getElem_cons_zero, List.getElem_cons_succ, Act.put, List.setIfInBounds_toArray, List.set_cons_zero, List.set_cons_succ])
                refine wpAnyH_take (i := 4) (v := ?_) rfl (by kernel_rfl) (by kernel_rfl) (by kernel_rfl) (fun _ _ _ h => h) (Or.inl ⟨by rfl, ?hy⟩) hH ?_
                case hy => (intro w9_ hS9; clear hS9; go_simp; try with_reducible rfl)
                (try simp only [List.getElem_toArray, List.getElem_cons_zero, List.getElem_cons_succ, Act.put, List.setIfInBounds_toArray, List.set_cons_zero, List.set_cons_succ])
                refine wpAnyH_take (i := 5) (v := ?_) rfl (by kernel_rfl) (by kernel_rfl) (by kernel_rfl) (fun _ _ _ h => h) (Or.inl ⟨by rfl, ?hy⟩) hH ?_
                case hy => (intro w9_ hS9; clear hS9; go_simp; try with_reducible rfl)
                (try simp only [List.getElem_toArray, List.getElem_cons_zero, List.getElem_cons_succ, Act.put, List.setIfInBounds_toArray, List.set_cons_zero, List.set_cons_succ])
                refine wpAnyH_take (i := 7) (v := ?_) rfl (by kernel_rfl) (by kernel_rfl) (by kernel_rfl) (fun _ _ _ h => h) (Or.inl ⟨by rfl, ?hy⟩) hH ?_
                case hy => (intro w9_ hS9; clear hS9; go_simp; try with_reducible rfl)
                (try simp only [List.getElem_toArray, List.getElem_cons_zero, List.getElem_cons_succ, Act.put, List.setIfInBounds_toArray, List.set_cons_zero, List.set_cons_succ])
                refine wpAnyH_take (i := 8) (v := ?_) rfl (by kernel_rfl) (by kernel_rfl) (by kernel_rfl) (fun _ _ _ h => h) (Or.inl ⟨by rfl, ?hy⟩) hH ?_
                case hy => (intro w9_ hS9; clear hS9; go_simp; try with_reducible rfl)
                (try simp only [List.getElem_toArray, List.getElem_cons_zero, List.getElem_cons_succ, Act.put, List.setIfInBounds_toArray, List.set_cons_zero, List.set_cons_succ])
                refine wpAnyH_take (i := 9) (v := ?_) rfl (by kernel_rfl) (by kernel_rfl) (by kernel_rfl) (fun _ _ _ h => h) (Or.inl ⟨by rfl, ?hy⟩) hH ?_
                case hy => (intro w9_ hS9; clear hS9; go_simp; try with_reducible rfl)
                (try simp only [List.getElem_toArray, List.getElem_cons_zero, List.getElem_cons_succ, Act.put, List.setIfInBounds_toArray, List.set_cons_zero, List.set_cons_succ])
                refine wpAnyH_take (i := 10) (v := _) rfl (by kernel_rfl) (by kernel_rfl) (by kernel_rfl) (fun _ _ _ h => h) (Or.inl ⟨by rfl, yields_load 30 (x := .tmp 79) rfl rfl (fun W hW => load_mach (HRDK.out.next hW))⟩) hH ?_
                (try simp only [List.getElem_toArray, List.getElem_cons_zero, List.getElem_cons_succ, Act.put, List.setIfInBounds_toArray, List.set_cons_zero, List.set_cons_succ])
                refine wpAnyH_ready (rs := [6]) (by kernel_rfl) (by simp) ?_
                refine AllReadyH.cons rfl (fun K hK => ?_) (AllReadyH.nil)
                go_simp
                refine (c_DMachine (HVk.out.next hH) HVE.out (j := now') (by omega) (HAk.out.next hH)).mono ?_
                rintro e wz ⟨vmz, vsz, vcz, viz, voz, svz, rfl, hOz, hbz⟩
                have HOz := Lib.hid hOz
                replace hH := hH.next hbz
                clear hOz hbz
                refine hK.out _ _ hH (fun _ => ?_)
                clear hK
                (try simp only [List.getElem_toArray, List.getElem_cons_zero, List.getElem_cons_succ, Act.put, List.setIfInBounds_toArray, List.set_cons_zero, List.set_cons_succ])
                refine wpAnyH_ready (rs := [11]) (by kernel_rfl) (by simp) ?_
                refine AllReadyH.cons rfl (fun K hK => ?_) (AllReadyH.nil)
                go_simp
                refine (c_same33 HOz.out.mls (HRDK.out.next hH).mls (HVE.out.bd now' (by omega))).mono ?_
                rintro e w14 ⟨rfl, hbw14⟩
                replace hH := hH.next hbw14
                clear hbw14
                refine hK.out _ _ hH (fun _ => ?_)
                clear hK
                (try simp only [List.getElem_toArray, List.getElem_cons_zero, List.getElem_cons_succ, Act.put, List.setIfInBounds_toArray, List.set_cons_zero, List.set_cons_succ])
                refine wpAnyH_take (i := 12) (v := ?_) rfl (by kernel_rfl) (by kernel_rfl) (by kernel_rfl) (fun _ _ _ h => h) (Or.inl ⟨by rfl, ?hy⟩) hH ?_
                case hy => (intro w9_ hS9; clear hS9; go_simp; try with_reducible rfl)
                (try simp only [List.getElem_toArray, List.getElem_cons_zero, List.getElem_cons_succ, Act.put, List.setIfInBounds_toArray, List.set_cons_zero, List.set_cons_succ])
                refine wpAnyH_take (i := 13) (v := ?_) rfl (by kernel_rfl) (by kernel_rfl) (by kernel_rfl) (fun _ _ _ h => h) (Or.inl ⟨by rfl, ?hy⟩) hH ?_
                case hy => (intro w9_ hS9; clear hS9; go_simp; try with_reducible rfl)
                (try simp only [List.getElem_toArray, List.getElem_cons_zero, List.getElem_cons_succ, Act.put, List.setIfInBounds_toArray, List.set_cons_zero, List.set_cons_succ])
                refine wpAnyH_done (by kernel_rfl) ?_ _
                go_wp2_with fail
                exact ⟨⟨u + 1, now', by omega, by go_num, rfl, by omega, HAk.out.next hH, HFk.out.next hH⟩, by simp [intOf]; omega⟩
            · obtain rfl : u = l.length := by omega
              go_wp2_with fail
              go_ret
              exact ⟨rfl, BEL2.out _ HFt.out⟩
end Go.Proofs.YtfpcblgkcbfdoaaDoor
