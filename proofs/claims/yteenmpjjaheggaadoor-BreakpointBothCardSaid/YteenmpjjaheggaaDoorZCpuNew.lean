/- cpu.New of a valid image. -/
import Derived.Test.YteenmpjjaheggaaDoorCpV
import Derived.Test.YteenmpjjaheggaaDoorFr
import Derived.Test.YteenmpjjaheggaaDoorCpX
set_option linter.unusedVariables false
set_option linter.unusedSimpArgs false
set_option maxRecDepth 100000
set_option maxHeartbeats 8000000
set_option maxRecDepth 100000
namespace Bk
open Go Go.RowKit
/-- A new machine. -/
def newM (mm ss : Nat) (l : List Int) : Mach := ⟨0, 1, List.replicate 16 0, List.replicate mm 0, List.replicate ss [], [], 0, 0, l, []⟩
/-- A machine by value whose cells and stacks lie in rows of its own, all of it in blocks from B on. -/
def MOwn (w : World) (B : Nat) (M : Mach) (vm vs vc vi vo : Value) (sv : List Value) : Prop :=
  M.r.length = 16 ∧ ∃ gm gs, B ≤ gm ∧ B ≤ gs ∧ gm < w.heap.size ∧ gs < w.heap.size ∧ (0 < M.m.length → gm ≠ gs) ∧ Row w gm vm (intCells M.m) ∧ Row w gs vs sv ∧ Lists w (fun k => B ≤ k ∧ k < w.heap.size ∧ k ≠ gm ∧ k ≠ gs) M vc vi vo sv
theorem MOwn.next {w w' : World} {B : Nat} {M : Mach} {vm vs vc vi vo : Value} {sv : List Value} (h : MOwn w B M vm vs vc vi vo sv) (hb : Below w.heap.size w w') : MOwn w' B M vm vs vc vi vo sv := by
  obtain ⟨h0, gm, gs, h1, h2, h3, h4, h5, h6, h7, h8⟩ := h
  exact ⟨h0, gm, gs, h1, h2, Nat.lt_of_lt_of_le h3 hb.size, Nat.lt_of_lt_of_le h4 hb.size, h5, h6.keep fun _ => hb.block _ h3, h7.keep fun _ => hb.block _ h4, h8.keep (fun b o hd => hb.cell (p := ⟨b, o, none⟩) hd.2.1) fun k hk => ⟨hk.1, Nat.lt_of_lt_of_le hk.2.1 hb.size, hk.2.2⟩⟩
theorem MOwn.mono {w : World} {B B' : Nat} {M : Mach} {vm vs vc vi vo : Value} {sv : List Value} (h : MOwn w B M vm vs vc vi vo sv) (hB : B' ≤ B) : MOwn w B' M vm vs vc vi vo sv := by
  obtain ⟨h0, gm, gs, h1, h2, h3, h4, h5, h6, h7, h8⟩ := h
  exact ⟨h0, gm, gs, by omega, by omega, h3, h4, h5, h6, h7, h8.keep (fun _ _ _ => rfl) fun k hk => ⟨by have := hk.1; omega, hk.2⟩⟩
theorem MOwn.mls {w : World} {B : Nat} {M : Mach} {vm vs vc vi vo : Value} {sv : List Value} (h : MOwn w B M vm vs vc vi vo sv) : MLs w (fun k => B ≤ k ∧ k < w.heap.size) M vm vs vc vi vo sv := by
  obtain ⟨h0, gm, gs, h1, h2, h3, h4, h5, h6, h7, h8⟩ := h
  refine ⟨h0, ?_, ?_, h8.keep (fun _ _ _ => rfl) fun k hk => ⟨hk.1, hk.2.1⟩, fun k hk => hk.2⟩
  · have := h6.sl h3; rw [intCells_length] at this; exact this.mono fun k hk => hk ▸ ⟨h1, h3⟩
  · have := h7.sl h4; rw [h8.1.1] at this; exact this.mono fun k hk => hk ▸ ⟨h2, h4⟩
theorem MOwn.fr {w w' : World} {B : Nat} {M : Mach} {vm vs vc vi vo : Value} {sv : List Value} (h : MOwn w B M vm vs vc vi vo sv) {O : Nat → Prop} (hf : Fr O w w') (hO : ∀ k, B ≤ k → ¬ O k) : MOwn w' B M vm vs vc vi vo sv := by
  obtain ⟨h0, gm, gs, h1, h2, h3, h4, h5, h6, h7, h8⟩ := h
  exact ⟨h0, gm, gs, h1, h2, Nat.lt_of_lt_of_le h3 hf.size, Nat.lt_of_lt_of_le h4 hf.size, h5, h6.keep fun _ => hf.block _ h3 (hO _ h1), h7.keep fun _ => hf.block _ h4 (hO _ h2), h8.keep (fun b o hd => hf.cell hd.2.1 (hO _ hd.1) o) fun k hk => ⟨hk.1, Nat.lt_of_lt_of_le hk.2.1 hf.size, hk.2.2⟩⟩
theorem Fr.setRow (w : World) (g : Nat) (cs : Array Value) : Fr (· = g) w (w.setRow g cs) := ⟨rfl, rfl, rfl, by simp, fun k _ hk => setRow_other w g k cs hk⟩
/-- .. laid in a block that is none of its own: it lies there. -/
theorem MOwn.on {w : World} {B b : Nat} {t : TypeId} {M : Mach} {vm vs vc vi vo : Value} {sv : List Value} (h : MOwn w B M vm vs vc vi vo sv) (w' : World) (hw : Below w.heap.size w w') (hk : Blk w' b t (mcells M vm vs vc vi vo).toArray) (hb : b < B ∨ w.heap.size ≤ b) :
    ∃ gm gs, B ≤ gm ∧ B ≤ gs ∧ gm < w.heap.size ∧ gs < w.heap.size ∧ MOn w' ⟨b, t, [], [], 0, gm, gs, (· < B)⟩ M vm vs vc vi vo sv := by
  have h' := h.next hw
  obtain ⟨h0, gm, gs, h1, h2, h3, h4, h5, h6, h7, h8⟩ := h
  refine ⟨gm, gs, h1, h2, h3, h4, rfl, h0, by simpa using hk, h6.keep fun _ => hw.block _ h3, h7.keep fun _ => hw.block _ h4, Nat.lt_of_lt_of_le h3 hw.size, Nat.lt_of_lt_of_le h4 hw.size, fun hn => ⟨by dsimp only; omega, h5 hn⟩, fun _ => by dsimp only; omega, ?_, fun k hk => by have := hw.size; dsimp only at hk; omega⟩
  refine h8.keep (fun b o hd => hw.cell (p := ⟨b, o, none⟩) hd.2.1) fun k hk => ⟨Nat.lt_of_lt_of_le hk.2.1 hw.size, fun ho => ?_⟩
  obtain ⟨k1, k2, k3, k4⟩ := hk
  rcases ho with e | e | e | e <;> dsimp only at e <;> omega
end Bk
namespace Go.Proofs.YteenmpjjaheggaaDoor
open Go.RowKit Bk
theorem info_int8 : (Tryd.prog.info? 3).map (fun i => (i.zero, i.size, i.bytes)) = some (some (.int .i64 0), 1, 8) := by kernel_rfl
theorem info_mach25 : (Tryd.prog.info? 27).map (fun i => i.size) = some 25 := by kernel_rfl
def SNew (b g : Nat) (cs : Array Value) (t0 t : TypeId) (w : World) : Prop := Blk w b t0 cs ∧ ∃ z, Blk w g t z ∧ z.size = 25
theorem SNew.next {b g : Nat} {cs : Array Value} {t0 t : TypeId} {w w' : World} (h : SNew b g cs t0 t w) (hb : Below w.heap.size w w') : SNew b g cs t0 t w' := by
  obtain ⟨h1, z, h2, h3⟩ := h
  exact ⟨h1.next hb, z, h2.next hb, h3⟩
theorem SNew.row {b g : Nat} {cs cells : Array Value} {t0 t : TypeId} {w : World} (h : SNew b g cs t0 t w) (hne : b ≠ g) (hs : cells.size = 25) : SNew b g cs t0 t (w.setRow g cells) := by
  obtain ⟨h1, z, h2, h3⟩ := h
  exact ⟨(setRow_other _ _ _ _ hne).trans h1, _, setRow_heap _ _ _ _ _ _ h2, hs⟩
theorem wpAnyH_at {P : Program} {md : Region.Mode} {ops : Array Oper} {Q : Exit → Act → World → Prop} {S : World → Prop} {fuel : Nat} {listed : Array Bool} {a : Act} {w : World} (h : ∀ w', w' = w → wpAnyH P md ops Q S fuel listed a w') : wpAnyH P md ops Q S fuel listed a w := h w rfl
theorem results_cell_row2 {P : Program} {fn : Func} {p u : Tmp} {ty : TypeId} (h : fn.results = #[.cell p ty, .tmp u]) (tmps : Array Value) (w : World) (g : Nat) (t : TypeId) (cs : Array Value) (d : TypeDesc)
    (hp : tmps.getD p undef = .pointer (some ⟨g, 0, none⟩)) (hg : Blk w g t cs) (hu : P.underlying ty = some d) (hd : (match d with | .struct _ | .array _ _ => true | _ => false) = true) (hi : (P.info? ty).map (·.size) = some cs.size) :
    (results fn tmps).run P w = .ok (.tuple #[.agg cs, tmps.getD u undef]) w := by
  rw [results_cell_tmp h, hp]
  simp [asAddr, run_loadVar_row w g t ty cs (0, 0) d hg hu hd hi]
theorem rowMade {w : World} {n : Nat} {t : TypeId} {z : Value} {xs : List Value} (hx : xs = List.replicate n z) : Row (w.alloc (.cells (madeCells #[z] n) t)) w.heap.size (.slice (some ⟨w.heap.size, 0, none⟩) n n) xs := by
  subst hx
  refine ⟨_, n, by simp, by simp, (fun e => by cases e), fun hn => ⟨rfl, t, _, Blk.new _ _ _, fun j u hu => ?_⟩⟩
  rw [← hu, ← Array.getElem?_toList]
  congr 1
  simp [madeCells]
  rw [List.eq_replicate_iff]
  refine ⟨by simp, fun b hb => ?_⟩
  obtain ⟨x, _, rfl⟩ := List.mem_map.1 hb
  simp [Nat.mod_one]
theorem c_NewG {w : World} {A : Option Addr} {n cap mm ss : Nat} {code : Prg} (hv : (⟨code, mm, ss⟩ : Img).valid = true) (hm : mm ≤ 16384) (hs : ss ≤ 16384) (hC : Rd w (· < w.heap.size) 5 A n (codeCells code)) (hw : CodeWf code) (hTab : TableAt w)
    {D : Nat → Prop} {v : Value} {l : List Int} (hI : Sl w D 1 v l.length (intCells l)) (hD : ∀ k, D k → k < w.heap.size) (hl : l.length ≤ 4096) :
    Calls Tryd.prog 30 #[.agg #[.slice A n cap, .int .i64 (mm : Int), .int .i64 (ss : Int)], v] w fun e w' => ∃ vm vs vi sv, e = .returned (.tuple #[.agg (mcells (newM mm ss l) vm vs (.slice none 0 0) vi (.slice none 0 0)).toArray, .int .i64 0]) ∧ MOwn w' w.heap.size (newM mm ss l) vm vs (.slice none 0 0) vi (.slice none 0 0) sv ∧ Below w.heap.size w w' := by
  have HI := Lib.hid hI; have HT := Lib.hid hTab; have HC := Lib.hid hC; have HV := Lib.hid hv
  obtain ⟨Ai, ci, rfl, _⟩ := hI
  obtain ⟨i0, hi0, hz0, hs0, hb0⟩ := info_parts info_ints
  have mkS : ∀ W : World, (Instr.makeSlice 24 (.int .i64 (ss : Int)) (.int .i64 (ss : Int))).run Tryd.prog W = .ok (.slice (some ⟨W.heap.size, 0, none⟩) ss ss) (W.alloc (.cells (madeCells #[.slice none 0 0] ss) 23)) := fun W => by
    have := run_make_rowN (P := Tryd.prog) 24 23 i0 _ Tryd.underlying24 hi0 hz0 .i64 .i64 ss ss (Nat.le_refl _) (by rw [hb0]; omega) (by omega) W
    rw [hs0, Nat.mul_one] at this; exact this
  obtain ⟨i1, hi1, hz1, hs1, hb1⟩ := info_parts info_int8
  have mkM : ∀ W : World, (Instr.makeSlice 23 (.int .i64 (mm : Int)) (.int .i64 (mm : Int))).run Tryd.prog W = .ok (.slice (some ⟨W.heap.size, 0, none⟩) mm mm) (W.alloc (.cells (madeCells #[.int .i64 0] mm) 3)) := fun W => by
    have := run_make_rowN (P := Tryd.prog) 23 3 i1 _ Tryd.underlying23 hi1 hz1 .i64 .i64 mm mm (Nat.le_refl _) (by rw [hb1]; omega) (by omega) W
    rw [hs1, Nat.mul_one] at this; exact this
  have hl' : decide (4096 < (l.length : Int)) = false := by simp; omega
  clear hi0 hz0 hs0 hb0 hi1 hz1 hs1 hb1 hC hTab hv
  go_enter Tryd.func30, Tryd.ntmps30
  go_wp2_with fail
  refine (c_imValid' A n cap ⟨code, mm, ss⟩ HV.out _ (HC.out.next (by go_grown)) hw (HT.out.next (by go_grown))).mono ?_
  rintro e w2 ⟨rfl, hb2⟩
  have hB_w2 : Below w.heap.size w w2 := Below.next (by go_grown) hb2
  have K_1 : Blk w2 (w.heap.size) 32 #[.slice A n cap, .int .i64 (mm : Int), .int .i64 (ss : Int)] := Blk.next (by repeat' (first | with_reducible exact H_1.out | with_reducible exact K0_1 | (refine Blk.new' ?_ _ _; simp; done) | with_reducible refine Blk.alloc ?_ _ | with_reducible refine Blk.drewN ?_ _ | with_reducible refine Blk.drew ?_)) hb2; (try clear H_1); (try clear T_1); (try clear z_1); (try clear F_1); obtain ⟨z_1, T_1, F_1⟩ := K_1.open_; have H_1 := Lib.hid K_1; clear K_1
  have KZ : Blk w2 (w.heap.size + 1) 27 #[.int .i64 0, .int .i64 0, .int .i64 0, .int .i64 0, .int .i64 0, .int .i64 0, .int .i64 0, .int .i64 0, .int .i64 0, .int .i64 0, .int .i64 0, .int .i64 0, .int .i64 0, .int .i64 0, .int .i64 0, .int .i64 0, .int .i64 0, .int .i64 0, .slice none 0 0, .slice none 0 0, .slice none 0 0, .int .i64 0, .int .i64 0, .slice none 0 0, .slice none 0 0] := Blk.next (by repeat' (first | assumption | exact Blk.new' (by simp) _ _ | apply Blk.alloc | apply Blk.drew)) hb2
  have HZ := Lib.hid KZ
  clear hb2 KZ
  have hzM : w.heap.size + 1 < w2.heap.size := HZ.out.lt
  go_wp2_with fail
  refine wp_region_held_drew (S := SNew w.heap.size (w.heap.size + 1) #[.slice A n cap, .int .i64 (mm : Int), .int .i64 (ss : Int)] 32 27) (by kernel_rfl) ⟨H_1.out.drew, _, HZ.out.drew, rfl⟩ (fun hH => ?_)
  refine wpAnyH_take (i := 0) (v := ?_) rfl (by kernel_rfl) (by kernel_rfl) (by kernel_rfl) (fun _ _ _ h => h) (Or.inl ⟨by rfl, ?hy⟩) (by assumption) ?_
  case hy => (intro w9 hS9; have T9 := hS9.1.cell; clear hS9; go_simp; try with_reducible rfl)
  (try simp only [Act.put, Bk.PU])
  refine wpAnyH_take (i := 1) (v := ?_) rfl (by kernel_rfl) (by kernel_rfl) (by kernel_rfl) (fun _ _ _ h => h) (Or.inl ⟨by rfl, ?hy⟩) (by assumption) ?_
  case hy => (intro w9 hS9; have T9 := hS9.1.cell; clear hS9; go_simp; try with_reducible rfl)
  (try simp only [Act.put, Bk.PU])
  refine wpAnyH_take (i := 3) (v := ?_) rfl (by kernel_rfl) (by kernel_rfl) (by kernel_rfl) (fun _ _ _ h => h) (Or.inl ⟨by rfl, ?hy⟩) (by assumption) ?_
  case hy => (intro w9 hS9; have T9 := hS9.1.cell; clear hS9; go_simp; try with_reducible rfl)
  (try simp only [Act.put, Bk.PU])
  refine wpAnyH_take (i := 4) (v := ?_) rfl (by kernel_rfl) (by kernel_rfl) (by kernel_rfl) (fun _ _ _ h => h) (Or.inl ⟨by rfl, ?hy⟩) (by assumption) ?_
  case hy => (intro w9 hS9; have T9 := hS9.1.cell; clear hS9; go_simp; try with_reducible rfl)
  (try simp only [Act.put, Bk.PU])
  refine wpAnyH_take (i := 6) (v := ?_) rfl (by kernel_rfl) (by kernel_rfl) (by kernel_rfl) (fun _ _ _ h => h) (Or.inl ⟨by rfl, ?hy⟩) (by assumption) ?_
  case hy => (intro w9 hS9; have T9 := hS9.1.cell; clear hS9; go_simp; try with_reducible rfl)
  (try simp only [Act.put, Bk.PU])
  refine wpAnyH_at ?_
  intro W0 hW0
  have S0 : SNew w.heap.size (w.heap.size + 1) #[.slice A n cap, .int .i64 (mm : Int), .int .i64 (ss : Int)] 32 27 W0 := by rw [hW0]; exact hH
  have B0 : Below w.heap.size w W0 := by rw [hW0]; exact (by go_grown)
  have z20 : w2.heap.size ≤ W0.heap.size := by rw [hW0]; exact Nat.le_refl _
  have z12 : w.heap.size + 1 < w2.heap.size := hzM
  have zw2 : w.heap.size ≤ w2.heap.size := by omega
  have Z0 : w.heap.size + 1 < W0.heap.size := by rw [hW0]; exact hzM
  clear hH hW0
  refine wpAnyH_ready (rs := [2, 5, 7]) (by kernel_rfl) (by simp) ?_
  refine AllReadyH.cons rfl (fun K hK => ?_) ?_
  · go_simp
    refine hK.out _ _ (S0.next ((Below.refl _ _).alloc (Nat.le_refl _) _)) (fun hH => ?_)
    clear hK
    (try simp only [Act.put, Bk.PU])
    refine wpAnyH_at ?_
    intro W1 hW1
    have b1 : Below W0.heap.size W0 W1 := by rw [hW1]; exact (Below.refl _ _).alloc (Nat.le_refl _) _
    have S1 := S0.next b1
    have f2 : Row W1 W0.heap.size (.slice (some ⟨W0.heap.size, 0, none⟩) mm mm) (intCells (List.replicate mm 0)) := by rw [hW1]; exact rowMade (by simp [intCells])
    have g2 : W0.heap.size < W1.heap.size := by rw [hW1]; simp
    clear hH hW1
    refine wpAnyH_ready (rs := [5, 7]) (by kernel_rfl) (by simp) ?_
    refine AllReadyH.cons rfl (fun K hK => ?_) ?_
    · go_simp
      refine hK.out _ _ (S1.next ((Below.refl _ _).alloc (Nat.le_refl _) _)) (fun hH => ?_)
      clear hK
      (try simp only [Act.put, Bk.PU])
      refine wpAnyH_at ?_
      intro W2 hW2
      have b2 : Below W1.heap.size W1 W2 := by rw [hW2]; exact (Below.refl _ _).alloc (Nat.le_refl _) _
      have S2 := S1.next b2
      have f5 : Row W2 W1.heap.size (.slice (some ⟨W1.heap.size, 0, none⟩) ss ss) (List.replicate ss (.slice none 0 0)) := by rw [hW2]; exact rowMade rfl
      have g5 : W1.heap.size < W2.heap.size := by rw [hW2]; simp
      clear hH hW2
      refine wpAnyH_ready (rs := [7]) (by kernel_rfl) (by simp) ?_
      refine AllReadyH.cons rfl (fun K hK => ?_) ?_
      · go_simp
        go_at_call 33
        refine (c_CloneI (HI.out.keep (D' := (· < W2.heap.size)) (fun b o hd => cell_up (hD _ hd) ((B0.next b1).next b2)) (fun k hk => Nat.lt_of_lt_of_le (hD k hk) ((B0.next b1).next b2).size)) (by omega)).mono ?_
        rintro e W3 ⟨v7, rfl, ho7, b3⟩
        obtain ⟨A7, c7, rfl⟩ := own_form ho7
        (try go_simp)
        refine hK.out _ _ (S2.next b3) (fun hH => ?_)
        clear hK
        (try simp only [Act.put, Bk.PU])
        have S3 := S2.next b3
        have f7 := Sl.of_own ho7
        have g7 := b3.size
        clear hH ho7
        have RM := f2.keep (w' := W3) (fun _ => (b2.next b3).block _ g2)
        have RS := f5.keep (w' := W3) (fun _ => b3.block _ g5)
        have RI := f7.keep (w' := W3) (D' := fun k => W2.heap.size ≤ k ∧ k < W3.heap.size) (fun b o hd => cell_up hd.2 (Below.refl _ _)) (fun _ h => h)
        have bW := (B0.next b1).next (b2.next b3)
        have z1 := b1.size; have z2 := b2.size; have z3 := b3.size; have z0 := B0.size
        have hO : MOwn W3 w2.heap.size (newM mm ss l) (.slice (some ⟨W0.heap.size, 0, none⟩) mm mm) (.slice (some ⟨W1.heap.size, 0, none⟩) ss ss) (.slice none 0 0) (.slice A7 l.length c7) (.slice none 0 0) (List.replicate ss (.slice none 0 0)) := by
          refine ⟨rfl, W0.heap.size, W1.heap.size, by omega, by omega, by omega, by omega, fun _ => by omega, RM, RS, ⟨by simp [newM], fun k hk => ?_⟩, Sl.nil, RI.mono fun k hk => ⟨by omega, by omega, by omega, by omega⟩, Sl.nil⟩
          simp only [newM, List.length_replicate] at hk
          refine ⟨.slice none 0 0, by rw [List.getElem?_replicate, if_pos hk], ?_⟩
          have e : (newM mm ss l).s.getD k [] = [] := by simp [newM, List.getD_eq_getElem?_getD, List.getElem?_replicate, hk]
          rw [e]; exact Sl.nil
        clear RM RS RI f2 f5 f7
        have HO := Lib.hid hO; clear hO
        refine wpAnyH_ready (rs := [8]) (by kernel_rfl) (by simp) ?_; refine AllReadyH.cons rfl (fun K hK => ?_) (AllReadyH.nil); go_simp; refine hK.out _ _ S3 (fun hH => ?_); clear hK hH; (try simp only [Act.put, Bk.PU]); obtain ⟨_, zz, hzz, hzs⟩ := id S3; have HZZ := Lib.hid hzz; refine wpAnyH_ready (rs := [9]) (by kernel_rfl) (by simp) ?_; refine AllReadyH.cons rfl (fun K hK => ?_) (AllReadyH.nil); rw [if_pos (by rfl)]; refine wp_store_row 27 _ _ rfl (w.heap.size + 1) _ rfl rfl 27 zz HZZ.out (by rw [info_mach25]; rfl) hzs (by simp [Value.oneCell']) ?_; refine hK.out _ _ (SNew.row S3 (by omega) rfl) (fun hH => ?_); clear hK; (try simp only [Act.put, Bk.PU]); refine wpAnyH_ready (rs := [10]) (by kernel_rfl) (by simp) ?_; refine AllReadyH.cons rfl (fun K hK => ?_) (AllReadyH.nil); go_simp; refine hK.out _ _ hH (fun hH => ?_); clear hK hH; (try simp only [Act.put, Bk.PU]); refine wpAnyH_done (by kernel_rfl) ?_ _; generalize hw9 : World.setRow W3 (w.heap.size + 1) _ = w9; have hO9 : MOwn w9 w.heap.size (newM mm ss l) (.slice (some ⟨W0.heap.size, 0, none⟩) mm mm) (.slice (some ⟨W1.heap.size, 0, none⟩) ss ss) (.slice none 0 0) (.slice A7 l.length c7) (.slice none 0 0) (List.replicate ss (.slice none 0 0)) := (by rw [← hw9]; exact (HO.out.fr (Fr.setRow _ _ _) (fun k hk => by omega)).mono (by omega)); have hB9 : Below w.heap.size w w9 := (by rw [← hw9]; exact ((Fr.of bW).trans ((Fr.setRow _ _ _).mono (O' := (· = w.heap.size + 1)) (fun k hk => hk))).below (Nat.le_refl _) (fun k hk => by omega)); have HKF : Hid (Blk w9 (w.heap.size + 1) 27 (mcells (newM mm ss l) (.slice (some ⟨W0.heap.size, 0, none⟩) mm mm) (.slice (some ⟨W1.heap.size, 0, none⟩) ss ss) (.slice none 0 0) (.slice A7 l.length c7) (.slice none 0 0)).toArray) := (by rw [← hw9]; exact Lib.hid (setRow_heap _ _ _ _ _ _ HZZ.out)); clear hw9 HZZ hzz hzs; go_wp2_with fail; (try simp only [Exit.inBlock, Exit.then]); refine bodyPost_ret_by (results_cell_row2 rfl _ _ (w.heap.size + 1) _ _ _ rfl HKF.out Tryd.underlying27 rfl (by rw [info_mach25]; rfl)) rfl ?_; exact ⟨_, _, _, _, rfl, hO9, hB9⟩
      exact AllReadyH.nil
    refine AllReadyH.cons rfl (fun K hK => ?_) ?_
    · go_simp
      go_at_call 33
      refine (c_CloneI (HI.out.keep (D' := (· < W1.heap.size)) (fun b o hd => cell_up (hD _ hd) (B0.next b1)) (fun k hk => Nat.lt_of_lt_of_le (hD k hk) (B0.next b1).size)) (by omega)).mono ?_
      rintro e W2 ⟨v7, rfl, ho7, b2⟩
      obtain ⟨A7, c7, rfl⟩ := own_form ho7
      (try go_simp)
      refine hK.out _ _ (S1.next b2) (fun hH => ?_)
      clear hK
      (try simp only [Act.put, Bk.PU])
      have S2 := S1.next b2
      have f7 := Sl.of_own ho7
      have g7 := b2.size
      clear hH ho7
      refine wpAnyH_ready (rs := [5]) (by kernel_rfl) (by simp) ?_
      refine AllReadyH.cons rfl (fun K hK => ?_) ?_
      · go_simp
        refine hK.out _ _ (S2.next ((Below.refl _ _).alloc (Nat.le_refl _) _)) (fun hH => ?_)
        clear hK
        (try simp only [Act.put, Bk.PU])
        refine wpAnyH_at ?_
        intro W3 hW3
        have b3 : Below W2.heap.size W2 W3 := by rw [hW3]; exact (Below.refl _ _).alloc (Nat.le_refl _) _
        have S3 := S2.next b3
        have f5 : Row W3 W2.heap.size (.slice (some ⟨W2.heap.size, 0, none⟩) ss ss) (List.replicate ss (.slice none 0 0)) := by rw [hW3]; exact rowMade rfl
        have g5 : W2.heap.size < W3.heap.size := by rw [hW3]; simp
        clear hH hW3
        have RM := f2.keep (w' := W3) (fun _ => (b2.next b3).block _ g2)
        have RS := f5.keep (w' := W3) (fun _ => (Below.refl _ _).block _ g5)
        have RI := f7.keep (w' := W3) (D' := fun k => W1.heap.size ≤ k ∧ k < W2.heap.size) (fun b o hd => cell_up hd.2 b3) (fun _ h => h)
        have bW := (B0.next b1).next (b2.next b3)
        have z1 := b1.size; have z2 := b2.size; have z3 := b3.size; have z0 := B0.size
        have hO : MOwn W3 w2.heap.size (newM mm ss l) (.slice (some ⟨W0.heap.size, 0, none⟩) mm mm) (.slice (some ⟨W2.heap.size, 0, none⟩) ss ss) (.slice none 0 0) (.slice A7 l.length c7) (.slice none 0 0) (List.replicate ss (.slice none 0 0)) := by
          refine ⟨rfl, W0.heap.size, W2.heap.size, by omega, by omega, by omega, by omega, fun _ => by omega, RM, RS, ⟨by simp [newM], fun k hk => ?_⟩, Sl.nil, RI.mono fun k hk => ⟨by omega, by omega, by omega, by omega⟩, Sl.nil⟩
          simp only [newM, List.length_replicate] at hk
          refine ⟨.slice none 0 0, by rw [List.getElem?_replicate, if_pos hk], ?_⟩
          have e : (newM mm ss l).s.getD k [] = [] := by simp [newM, List.getD_eq_getElem?_getD, List.getElem?_replicate, hk]
          rw [e]; exact Sl.nil
        clear RM RS RI f2 f5 f7
        have HO := Lib.hid hO; clear hO
        refine wpAnyH_ready (rs := [8]) (by kernel_rfl) (by simp) ?_; refine AllReadyH.cons rfl (fun K hK => ?_) (AllReadyH.nil); go_simp; refine hK.out _ _ S3 (fun hH => ?_); clear hK hH; (try simp only [Act.put, Bk.PU]); obtain ⟨_, zz, hzz, hzs⟩ := id S3; have HZZ := Lib.hid hzz; refine wpAnyH_ready (rs := [9]) (by kernel_rfl) (by simp) ?_; refine AllReadyH.cons rfl (fun K hK => ?_) (AllReadyH.nil); rw [if_pos (by rfl)]; refine wp_store_row 27 _ _ rfl (w.heap.size + 1) _ rfl rfl 27 zz HZZ.out (by rw [info_mach25]; rfl) hzs (by simp [Value.oneCell']) ?_; refine hK.out _ _ (SNew.row S3 (by omega) rfl) (fun hH => ?_); clear hK; (try simp only [Act.put, Bk.PU]); refine wpAnyH_ready (rs := [10]) (by kernel_rfl) (by simp) ?_; refine AllReadyH.cons rfl (fun K hK => ?_) (AllReadyH.nil); go_simp; refine hK.out _ _ hH (fun hH => ?_); clear hK hH; (try simp only [Act.put, Bk.PU]); refine wpAnyH_done (by kernel_rfl) ?_ _; generalize hw9 : World.setRow W3 (w.heap.size + 1) _ = w9; have hO9 : MOwn w9 w.heap.size (newM mm ss l) (.slice (some ⟨W0.heap.size, 0, none⟩) mm mm) (.slice (some ⟨W2.heap.size, 0, none⟩) ss ss) (.slice none 0 0) (.slice A7 l.length c7) (.slice none 0 0) (List.replicate ss (.slice none 0 0)) := (by rw [← hw9]; exact (HO.out.fr (Fr.setRow _ _ _) (fun k hk => by omega)).mono (by omega)); have hB9 : Below w.heap.size w w9 := (by rw [← hw9]; exact ((Fr.of bW).trans ((Fr.setRow _ _ _).mono (O' := (· = w.heap.size + 1)) (fun k hk => hk))).below (Nat.le_refl _) (fun k hk => by omega)); have HKF : Hid (Blk w9 (w.heap.size + 1) 27 (mcells (newM mm ss l) (.slice (some ⟨W0.heap.size, 0, none⟩) mm mm) (.slice (some ⟨W2.heap.size, 0, none⟩) ss ss) (.slice none 0 0) (.slice A7 l.length c7) (.slice none 0 0)).toArray) := (by rw [← hw9]; exact Lib.hid (setRow_heap _ _ _ _ _ _ HZZ.out)); clear hw9 HZZ hzz hzs; go_wp2_with fail; (try simp only [Exit.inBlock, Exit.then]); refine bodyPost_ret_by (results_cell_row2 rfl _ _ (w.heap.size + 1) _ _ _ rfl HKF.out Tryd.underlying27 rfl (by rw [info_mach25]; rfl)) rfl ?_; exact ⟨_, _, _, _, rfl, hO9, hB9⟩
      exact AllReadyH.nil
    exact AllReadyH.nil
  refine AllReadyH.cons rfl (fun K hK => ?_) ?_
  · go_simp
    refine hK.out _ _ (S0.next ((Below.refl _ _).alloc (Nat.le_refl _) _)) (fun hH => ?_)
    clear hK
    (try simp only [Act.put, Bk.PU])
    refine wpAnyH_at ?_
    intro W1 hW1
    have b1 : Below W0.heap.size W0 W1 := by rw [hW1]; exact (Below.refl _ _).alloc (Nat.le_refl _) _
    have S1 := S0.next b1
    have f5 : Row W1 W0.heap.size (.slice (some ⟨W0.heap.size, 0, none⟩) ss ss) (List.replicate ss (.slice none 0 0)) := by rw [hW1]; exact rowMade rfl
    have g5 : W0.heap.size < W1.heap.size := by rw [hW1]; simp
    clear hH hW1
    refine wpAnyH_ready (rs := [2, 7]) (by kernel_rfl) (by simp) ?_
    refine AllReadyH.cons rfl (fun K hK => ?_) ?_
    · go_simp
      refine hK.out _ _ (S1.next ((Below.refl _ _).alloc (Nat.le_refl _) _)) (fun hH => ?_)
      clear hK
      (try simp only [Act.put, Bk.PU])
      refine wpAnyH_at ?_
      intro W2 hW2
      have b2 : Below W1.heap.size W1 W2 := by rw [hW2]; exact (Below.refl _ _).alloc (Nat.le_refl _) _
      have S2 := S1.next b2
      have f2 : Row W2 W1.heap.size (.slice (some ⟨W1.heap.size, 0, none⟩) mm mm) (intCells (List.replicate mm 0)) := by rw [hW2]; exact rowMade (by simp [intCells])
      have g2 : W1.heap.size < W2.heap.size := by rw [hW2]; simp
      clear hH hW2
      refine wpAnyH_ready (rs := [7]) (by kernel_rfl) (by simp) ?_
      refine AllReadyH.cons rfl (fun K hK => ?_) ?_
      · go_simp
        go_at_call 33
        refine (c_CloneI (HI.out.keep (D' := (· < W2.heap.size)) (fun b o hd => cell_up (hD _ hd) ((B0.next b1).next b2)) (fun k hk => Nat.lt_of_lt_of_le (hD k hk) ((B0.next b1).next b2).size)) (by omega)).mono ?_
        rintro e W3 ⟨v7, rfl, ho7, b3⟩
        obtain ⟨A7, c7, rfl⟩ := own_form ho7
        (try go_simp)
        refine hK.out _ _ (S2.next b3) (fun hH => ?_)
        clear hK
        (try simp only [Act.put, Bk.PU])
        have S3 := S2.next b3
        have f7 := Sl.of_own ho7
        have g7 := b3.size
        clear hH ho7
        have RM := f2.keep (w' := W3) (fun _ => b3.block _ g2)
        have RS := f5.keep (w' := W3) (fun _ => (b2.next b3).block _ g5)
        have RI := f7.keep (w' := W3) (D' := fun k => W2.heap.size ≤ k ∧ k < W3.heap.size) (fun b o hd => cell_up hd.2 (Below.refl _ _)) (fun _ h => h)
        have bW := (B0.next b1).next (b2.next b3)
        have z1 := b1.size; have z2 := b2.size; have z3 := b3.size; have z0 := B0.size
        have hO : MOwn W3 w2.heap.size (newM mm ss l) (.slice (some ⟨W1.heap.size, 0, none⟩) mm mm) (.slice (some ⟨W0.heap.size, 0, none⟩) ss ss) (.slice none 0 0) (.slice A7 l.length c7) (.slice none 0 0) (List.replicate ss (.slice none 0 0)) := by
          refine ⟨rfl, W1.heap.size, W0.heap.size, by omega, by omega, by omega, by omega, fun _ => by omega, RM, RS, ⟨by simp [newM], fun k hk => ?_⟩, Sl.nil, RI.mono fun k hk => ⟨by omega, by omega, by omega, by omega⟩, Sl.nil⟩
          simp only [newM, List.length_replicate] at hk
          refine ⟨.slice none 0 0, by rw [List.getElem?_replicate, if_pos hk], ?_⟩
          have e : (newM mm ss l).s.getD k [] = [] := by simp [newM, List.getD_eq_getElem?_getD, List.getElem?_replicate, hk]
          rw [e]; exact Sl.nil
        clear RM RS RI f2 f5 f7
        have HO := Lib.hid hO; clear hO
        refine wpAnyH_ready (rs := [8]) (by kernel_rfl) (by simp) ?_; refine AllReadyH.cons rfl (fun K hK => ?_) (AllReadyH.nil); go_simp; refine hK.out _ _ S3 (fun hH => ?_); clear hK hH; (try simp only [Act.put, Bk.PU]); obtain ⟨_, zz, hzz, hzs⟩ := id S3; have HZZ := Lib.hid hzz; refine wpAnyH_ready (rs := [9]) (by kernel_rfl) (by simp) ?_; refine AllReadyH.cons rfl (fun K hK => ?_) (AllReadyH.nil); rw [if_pos (by rfl)]; refine wp_store_row 27 _ _ rfl (w.heap.size + 1) _ rfl rfl 27 zz HZZ.out (by rw [info_mach25]; rfl) hzs (by simp [Value.oneCell']) ?_; refine hK.out _ _ (SNew.row S3 (by omega) rfl) (fun hH => ?_); clear hK; (try simp only [Act.put, Bk.PU]); refine wpAnyH_ready (rs := [10]) (by kernel_rfl) (by simp) ?_; refine AllReadyH.cons rfl (fun K hK => ?_) (AllReadyH.nil); go_simp; refine hK.out _ _ hH (fun hH => ?_); clear hK hH; (try simp only [Act.put, Bk.PU]); refine wpAnyH_done (by kernel_rfl) ?_ _; generalize hw9 : World.setRow W3 (w.heap.size + 1) _ = w9; have hO9 : MOwn w9 w.heap.size (newM mm ss l) (.slice (some ⟨W1.heap.size, 0, none⟩) mm mm) (.slice (some ⟨W0.heap.size, 0, none⟩) ss ss) (.slice none 0 0) (.slice A7 l.length c7) (.slice none 0 0) (List.replicate ss (.slice none 0 0)) := (by rw [← hw9]; exact (HO.out.fr (Fr.setRow _ _ _) (fun k hk => by omega)).mono (by omega)); have hB9 : Below w.heap.size w w9 := (by rw [← hw9]; exact ((Fr.of bW).trans ((Fr.setRow _ _ _).mono (O' := (· = w.heap.size + 1)) (fun k hk => hk))).below (Nat.le_refl _) (fun k hk => by omega)); have HKF : Hid (Blk w9 (w.heap.size + 1) 27 (mcells (newM mm ss l) (.slice (some ⟨W1.heap.size, 0, none⟩) mm mm) (.slice (some ⟨W0.heap.size, 0, none⟩) ss ss) (.slice none 0 0) (.slice A7 l.length c7) (.slice none 0 0)).toArray) := (by rw [← hw9]; exact Lib.hid (setRow_heap _ _ _ _ _ _ HZZ.out)); clear hw9 HZZ hzz hzs; go_wp2_with fail; (try simp only [Exit.inBlock, Exit.then]); refine bodyPost_ret_by (results_cell_row2 rfl _ _ (w.heap.size + 1) _ _ _ rfl HKF.out Tryd.underlying27 rfl (by rw [info_mach25]; rfl)) rfl ?_; exact ⟨_, _, _, _, rfl, hO9, hB9⟩
      exact AllReadyH.nil
    refine AllReadyH.cons rfl (fun K hK => ?_) ?_
    · go_simp
      go_at_call 33
      refine (c_CloneI (HI.out.keep (D' := (· < W1.heap.size)) (fun b o hd => cell_up (hD _ hd) (B0.next b1)) (fun k hk => Nat.lt_of_lt_of_le (hD k hk) (B0.next b1).size)) (by omega)).mono ?_
      rintro e W2 ⟨v7, rfl, ho7, b2⟩
      obtain ⟨A7, c7, rfl⟩ := own_form ho7
      (try go_simp)
      refine hK.out _ _ (S1.next b2) (fun hH => ?_)
      clear hK
      (try simp only [Act.put, Bk.PU])
      have S2 := S1.next b2
      have f7 := Sl.of_own ho7
      have g7 := b2.size
      clear hH ho7
      refine wpAnyH_ready (rs := [2]) (by kernel_rfl) (by simp) ?_
      refine AllReadyH.cons rfl (fun K hK => ?_) ?_
      · go_simp
        refine hK.out _ _ (S2.next ((Below.refl _ _).alloc (Nat.le_refl _) _)) (fun hH => ?_)
        clear hK
        (try simp only [Act.put, Bk.PU])
        refine wpAnyH_at ?_
        intro W3 hW3
        have b3 : Below W2.heap.size W2 W3 := by rw [hW3]; exact (Below.refl _ _).alloc (Nat.le_refl _) _
        have S3 := S2.next b3
        have f2 : Row W3 W2.heap.size (.slice (some ⟨W2.heap.size, 0, none⟩) mm mm) (intCells (List.replicate mm 0)) := by rw [hW3]; exact rowMade (by simp [intCells])
        have g2 : W2.heap.size < W3.heap.size := by rw [hW3]; simp
        clear hH hW3
        have RM := f2.keep (w' := W3) (fun _ => (Below.refl _ _).block _ g2)
        have RS := f5.keep (w' := W3) (fun _ => (b2.next b3).block _ g5)
        have RI := f7.keep (w' := W3) (D' := fun k => W1.heap.size ≤ k ∧ k < W2.heap.size) (fun b o hd => cell_up hd.2 b3) (fun _ h => h)
        have bW := (B0.next b1).next (b2.next b3)
        have z1 := b1.size; have z2 := b2.size; have z3 := b3.size; have z0 := B0.size
        have hO : MOwn W3 w2.heap.size (newM mm ss l) (.slice (some ⟨W2.heap.size, 0, none⟩) mm mm) (.slice (some ⟨W0.heap.size, 0, none⟩) ss ss) (.slice none 0 0) (.slice A7 l.length c7) (.slice none 0 0) (List.replicate ss (.slice none 0 0)) := by
          refine ⟨rfl, W2.heap.size, W0.heap.size, by omega, by omega, by omega, by omega, fun _ => by omega, RM, RS, ⟨by simp [newM], fun k hk => ?_⟩, Sl.nil, RI.mono fun k hk => ⟨by omega, by omega, by omega, by omega⟩, Sl.nil⟩
          simp only [newM, List.length_replicate] at hk
          refine ⟨.slice none 0 0, by rw [List.getElem?_replicate, if_pos hk], ?_⟩
          have e : (newM mm ss l).s.getD k [] = [] := by simp [newM, List.getD_eq_getElem?_getD, List.getElem?_replicate, hk]
          rw [e]; exact Sl.nil
        clear RM RS RI f2 f5 f7
        have HO := Lib.hid hO; clear hO
        refine wpAnyH_ready (rs := [8]) (by kernel_rfl) (by simp) ?_; refine AllReadyH.cons rfl (fun K hK => ?_) (AllReadyH.nil); go_simp; refine hK.out _ _ S3 (fun hH => ?_); clear hK hH; (try simp only [Act.put, Bk.PU]); obtain ⟨_, zz, hzz, hzs⟩ := id S3; have HZZ := Lib.hid hzz; refine wpAnyH_ready (rs := [9]) (by kernel_rfl) (by simp) ?_; refine AllReadyH.cons rfl (fun K hK => ?_) (AllReadyH.nil); rw [if_pos (by rfl)]; refine wp_store_row 27 _ _ rfl (w.heap.size + 1) _ rfl rfl 27 zz HZZ.out (by rw [info_mach25]; rfl) hzs (by simp [Value.oneCell']) ?_; refine hK.out _ _ (SNew.row S3 (by omega) rfl) (fun hH => ?_); clear hK; (try simp only [Act.put, Bk.PU]); refine wpAnyH_ready (rs := [10]) (by kernel_rfl) (by simp) ?_; refine AllReadyH.cons rfl (fun K hK => ?_) (AllReadyH.nil); go_simp; refine hK.out _ _ hH (fun hH => ?_); clear hK hH; (try simp only [Act.put, Bk.PU]); refine wpAnyH_done (by kernel_rfl) ?_ _; generalize hw9 : World.setRow W3 (w.heap.size + 1) _ = w9; have hO9 : MOwn w9 w.heap.size (newM mm ss l) (.slice (some ⟨W2.heap.size, 0, none⟩) mm mm) (.slice (some ⟨W0.heap.size, 0, none⟩) ss ss) (.slice none 0 0) (.slice A7 l.length c7) (.slice none 0 0) (List.replicate ss (.slice none 0 0)) := (by rw [← hw9]; exact (HO.out.fr (Fr.setRow _ _ _) (fun k hk => by omega)).mono (by omega)); have hB9 : Below w.heap.size w w9 := (by rw [← hw9]; exact ((Fr.of bW).trans ((Fr.setRow _ _ _).mono (O' := (· = w.heap.size + 1)) (fun k hk => hk))).below (Nat.le_refl _) (fun k hk => by omega)); have HKF : Hid (Blk w9 (w.heap.size + 1) 27 (mcells (newM mm ss l) (.slice (some ⟨W2.heap.size, 0, none⟩) mm mm) (.slice (some ⟨W0.heap.size, 0, none⟩) ss ss) (.slice none 0 0) (.slice A7 l.length c7) (.slice none 0 0)).toArray) := (by rw [← hw9]; exact Lib.hid (setRow_heap _ _ _ _ _ _ HZZ.out)); clear hw9 HZZ hzz hzs; go_wp2_with fail; (try simp only [Exit.inBlock, Exit.then]); refine bodyPost_ret_by (results_cell_row2 rfl _ _ (w.heap.size + 1) _ _ _ rfl HKF.out Tryd.underlying27 rfl (by rw [info_mach25]; rfl)) rfl ?_; exact ⟨_, _, _, _, rfl, hO9, hB9⟩
      exact AllReadyH.nil
    exact AllReadyH.nil
  refine AllReadyH.cons rfl (fun K hK => ?_) ?_
  · go_simp
    go_at_call 33
    refine (c_CloneI (HI.out.keep (D' := (· < W0.heap.size)) (fun b o hd => cell_up (hD _ hd) B0) (fun k hk => Nat.lt_of_lt_of_le (hD k hk) B0.size)) (by omega)).mono ?_
    rintro e W1 ⟨v7, rfl, ho7, b1⟩
    obtain ⟨A7, c7, rfl⟩ := own_form ho7
    (try go_simp)
    refine hK.out _ _ (S0.next b1) (fun hH => ?_)
    clear hK
    (try simp only [Act.put, Bk.PU])
    have S1 := S0.next b1
    have f7 := Sl.of_own ho7
    have g7 := b1.size
    clear hH ho7
    refine wpAnyH_ready (rs := [2, 5]) (by kernel_rfl) (by simp) ?_
    refine AllReadyH.cons rfl (fun K hK => ?_) ?_
    · go_simp
      refine hK.out _ _ (S1.next ((Below.refl _ _).alloc (Nat.le_refl _) _)) (fun hH => ?_)
      clear hK
      (try simp only [Act.put, Bk.PU])
      refine wpAnyH_at ?_
      intro W2 hW2
      have b2 : Below W1.heap.size W1 W2 := by rw [hW2]; exact (Below.refl _ _).alloc (Nat.le_refl _) _
      have S2 := S1.next b2
      have f2 : Row W2 W1.heap.size (.slice (some ⟨W1.heap.size, 0, none⟩) mm mm) (intCells (List.replicate mm 0)) := by rw [hW2]; exact rowMade (by simp [intCells])
      have g2 : W1.heap.size < W2.heap.size := by rw [hW2]; simp
      clear hH hW2
      refine wpAnyH_ready (rs := [5]) (by kernel_rfl) (by simp) ?_
      refine AllReadyH.cons rfl (fun K hK => ?_) ?_
      · go_simp
        refine hK.out _ _ (S2.next ((Below.refl _ _).alloc (Nat.le_refl _) _)) (fun hH => ?_)
        clear hK
        (try simp only [Act.put, Bk.PU])
        refine wpAnyH_at ?_
        intro W3 hW3
        have b3 : Below W2.heap.size W2 W3 := by rw [hW3]; exact (Below.refl _ _).alloc (Nat.le_refl _) _
        have S3 := S2.next b3
        have f5 : Row W3 W2.heap.size (.slice (some ⟨W2.heap.size, 0, none⟩) ss ss) (List.replicate ss (.slice none 0 0)) := by rw [hW3]; exact rowMade rfl
        have g5 : W2.heap.size < W3.heap.size := by rw [hW3]; simp
        clear hH hW3
        have RM := f2.keep (w' := W3) (fun _ => b3.block _ g2)
        have RS := f5.keep (w' := W3) (fun _ => (Below.refl _ _).block _ g5)
        have RI := f7.keep (w' := W3) (D' := fun k => W0.heap.size ≤ k ∧ k < W1.heap.size) (fun b o hd => cell_up hd.2 (b2.next b3)) (fun _ h => h)
        have bW := (B0.next b1).next (b2.next b3)
        have z1 := b1.size; have z2 := b2.size; have z3 := b3.size; have z0 := B0.size
        have hO : MOwn W3 w2.heap.size (newM mm ss l) (.slice (some ⟨W1.heap.size, 0, none⟩) mm mm) (.slice (some ⟨W2.heap.size, 0, none⟩) ss ss) (.slice none 0 0) (.slice A7 l.length c7) (.slice none 0 0) (List.replicate ss (.slice none 0 0)) := by
          refine ⟨rfl, W1.heap.size, W2.heap.size, by omega, by omega, by omega, by omega, fun _ => by omega, RM, RS, ⟨by simp [newM], fun k hk => ?_⟩, Sl.nil, RI.mono fun k hk => ⟨by omega, by omega, by omega, by omega⟩, Sl.nil⟩
          simp only [newM, List.length_replicate] at hk
          refine ⟨.slice none 0 0, by rw [List.getElem?_replicate, if_pos hk], ?_⟩
          have e : (newM mm ss l).s.getD k [] = [] := by simp [newM, List.getD_eq_getElem?_getD, List.getElem?_replicate, hk]
          rw [e]; exact Sl.nil
        clear RM RS RI f2 f5 f7
        have HO := Lib.hid hO; clear hO
        refine wpAnyH_ready (rs := [8]) (by kernel_rfl) (by simp) ?_; refine AllReadyH.cons rfl (fun K hK => ?_) (AllReadyH.nil); go_simp; refine hK.out _ _ S3 (fun hH => ?_); clear hK hH; (try simp only [Act.put, Bk.PU]); obtain ⟨_, zz, hzz, hzs⟩ := id S3; have HZZ := Lib.hid hzz; refine wpAnyH_ready (rs := [9]) (by kernel_rfl) (by simp) ?_; refine AllReadyH.cons rfl (fun K hK => ?_) (AllReadyH.nil); rw [if_pos (by rfl)]; refine wp_store_row 27 _ _ rfl (w.heap.size + 1) _ rfl rfl 27 zz HZZ.out (by rw [info_mach25]; rfl) hzs (by simp [Value.oneCell']) ?_; refine hK.out _ _ (SNew.row S3 (by omega) rfl) (fun hH => ?_); clear hK; (try simp only [Act.put, Bk.PU]); refine wpAnyH_ready (rs := [10]) (by kernel_rfl) (by simp) ?_; refine AllReadyH.cons rfl (fun K hK => ?_) (AllReadyH.nil); go_simp; refine hK.out _ _ hH (fun hH => ?_); clear hK hH; (try simp only [Act.put, Bk.PU]); refine wpAnyH_done (by kernel_rfl) ?_ _; generalize hw9 : World.setRow W3 (w.heap.size + 1) _ = w9; have hO9 : MOwn w9 w.heap.size (newM mm ss l) (.slice (some ⟨W1.heap.size, 0, none⟩) mm mm) (.slice (some ⟨W2.heap.size, 0, none⟩) ss ss) (.slice none 0 0) (.slice A7 l.length c7) (.slice none 0 0) (List.replicate ss (.slice none 0 0)) := (by rw [← hw9]; exact (HO.out.fr (Fr.setRow _ _ _) (fun k hk => by omega)).mono (by omega)); have hB9 : Below w.heap.size w w9 := (by rw [← hw9]; exact ((Fr.of bW).trans ((Fr.setRow _ _ _).mono (O' := (· = w.heap.size + 1)) (fun k hk => hk))).below (Nat.le_refl _) (fun k hk => by omega)); have HKF : Hid (Blk w9 (w.heap.size + 1) 27 (mcells (newM mm ss l) (.slice (some ⟨W1.heap.size, 0, none⟩) mm mm) (.slice (some ⟨W2.heap.size, 0, none⟩) ss ss) (.slice none 0 0) (.slice A7 l.length c7) (.slice none 0 0)).toArray) := (by rw [← hw9]; exact Lib.hid (setRow_heap _ _ _ _ _ _ HZZ.out)); clear hw9 HZZ hzz hzs; go_wp2_with fail; (try simp only [Exit.inBlock, Exit.then]); refine bodyPost_ret_by (results_cell_row2 rfl _ _ (w.heap.size + 1) _ _ _ rfl HKF.out Tryd.underlying27 rfl (by rw [info_mach25]; rfl)) rfl ?_; exact ⟨_, _, _, _, rfl, hO9, hB9⟩
      exact AllReadyH.nil
    refine AllReadyH.cons rfl (fun K hK => ?_) ?_
    · go_simp
      refine hK.out _ _ (S1.next ((Below.refl _ _).alloc (Nat.le_refl _) _)) (fun hH => ?_)
      clear hK
      (try simp only [Act.put, Bk.PU])
      refine wpAnyH_at ?_
      intro W2 hW2
      have b2 : Below W1.heap.size W1 W2 := by rw [hW2]; exact (Below.refl _ _).alloc (Nat.le_refl _) _
      have S2 := S1.next b2
      have f5 : Row W2 W1.heap.size (.slice (some ⟨W1.heap.size, 0, none⟩) ss ss) (List.replicate ss (.slice none 0 0)) := by rw [hW2]; exact rowMade rfl
      have g5 : W1.heap.size < W2.heap.size := by rw [hW2]; simp
      clear hH hW2
      refine wpAnyH_ready (rs := [2]) (by kernel_rfl) (by simp) ?_
      refine AllReadyH.cons rfl (fun K hK => ?_) ?_
      · go_simp
        refine hK.out _ _ (S2.next ((Below.refl _ _).alloc (Nat.le_refl _) _)) (fun hH => ?_)
        clear hK
        (try simp only [Act.put, Bk.PU])
        refine wpAnyH_at ?_
        intro W3 hW3
        have b3 : Below W2.heap.size W2 W3 := by rw [hW3]; exact (Below.refl _ _).alloc (Nat.le_refl _) _
        have S3 := S2.next b3
        have f2 : Row W3 W2.heap.size (.slice (some ⟨W2.heap.size, 0, none⟩) mm mm) (intCells (List.replicate mm 0)) := by rw [hW3]; exact rowMade (by simp [intCells])
        have g2 : W2.heap.size < W3.heap.size := by rw [hW3]; simp
        clear hH hW3
        have RM := f2.keep (w' := W3) (fun _ => (Below.refl _ _).block _ g2)
        have RS := f5.keep (w' := W3) (fun _ => b3.block _ g5)
        have RI := f7.keep (w' := W3) (D' := fun k => W0.heap.size ≤ k ∧ k < W1.heap.size) (fun b o hd => cell_up hd.2 (b2.next b3)) (fun _ h => h)
        have bW := (B0.next b1).next (b2.next b3)
        have z1 := b1.size; have z2 := b2.size; have z3 := b3.size; have z0 := B0.size
        have hO : MOwn W3 w2.heap.size (newM mm ss l) (.slice (some ⟨W2.heap.size, 0, none⟩) mm mm) (.slice (some ⟨W1.heap.size, 0, none⟩) ss ss) (.slice none 0 0) (.slice A7 l.length c7) (.slice none 0 0) (List.replicate ss (.slice none 0 0)) := by
          refine ⟨rfl, W2.heap.size, W1.heap.size, by omega, by omega, by omega, by omega, fun _ => by omega, RM, RS, ⟨by simp [newM], fun k hk => ?_⟩, Sl.nil, RI.mono fun k hk => ⟨by omega, by omega, by omega, by omega⟩, Sl.nil⟩
          simp only [newM, List.length_replicate] at hk
          refine ⟨.slice none 0 0, by rw [List.getElem?_replicate, if_pos hk], ?_⟩
          have e : (newM mm ss l).s.getD k [] = [] := by simp [newM, List.getD_eq_getElem?_getD, List.getElem?_replicate, hk]
          rw [e]; exact Sl.nil
        clear RM RS RI f2 f5 f7
        have HO := Lib.hid hO; clear hO
        refine wpAnyH_ready (rs := [8]) (by kernel_rfl) (by simp) ?_; refine AllReadyH.cons rfl (fun K hK => ?_) (AllReadyH.nil); go_simp; refine hK.out _ _ S3 (fun hH => ?_); clear hK hH; (try simp only [Act.put, Bk.PU]); obtain ⟨_, zz, hzz, hzs⟩ := id S3; have HZZ := Lib.hid hzz; refine wpAnyH_ready (rs := [9]) (by kernel_rfl) (by simp) ?_; refine AllReadyH.cons rfl (fun K hK => ?_) (AllReadyH.nil); rw [if_pos (by rfl)]; refine wp_store_row 27 _ _ rfl (w.heap.size + 1) _ rfl rfl 27 zz HZZ.out (by rw [info_mach25]; rfl) hzs (by simp [Value.oneCell']) ?_; refine hK.out _ _ (SNew.row S3 (by omega) rfl) (fun hH => ?_); clear hK; (try simp only [Act.put, Bk.PU]); refine wpAnyH_ready (rs := [10]) (by kernel_rfl) (by simp) ?_; refine AllReadyH.cons rfl (fun K hK => ?_) (AllReadyH.nil); go_simp; refine hK.out _ _ hH (fun hH => ?_); clear hK hH; (try simp only [Act.put, Bk.PU]); refine wpAnyH_done (by kernel_rfl) ?_ _; generalize hw9 : World.setRow W3 (w.heap.size + 1) _ = w9; have hO9 : MOwn w9 w.heap.size (newM mm ss l) (.slice (some ⟨W2.heap.size, 0, none⟩) mm mm) (.slice (some ⟨W1.heap.size, 0, none⟩) ss ss) (.slice none 0 0) (.slice A7 l.length c7) (.slice none 0 0) (List.replicate ss (.slice none 0 0)) := (by rw [← hw9]; exact (HO.out.fr (Fr.setRow _ _ _) (fun k hk => by omega)).mono (by omega)); have hB9 : Below w.heap.size w w9 := (by rw [← hw9]; exact ((Fr.of bW).trans ((Fr.setRow _ _ _).mono (O' := (· = w.heap.size + 1)) (fun k hk => hk))).below (Nat.le_refl _) (fun k hk => by omega)); have HKF : Hid (Blk w9 (w.heap.size + 1) 27 (mcells (newM mm ss l) (.slice (some ⟨W2.heap.size, 0, none⟩) mm mm) (.slice (some ⟨W1.heap.size, 0, none⟩) ss ss) (.slice none 0 0) (.slice A7 l.length c7) (.slice none 0 0)).toArray) := (by rw [← hw9]; exact Lib.hid (setRow_heap _ _ _ _ _ _ HZZ.out)); clear hw9 HZZ hzz hzs; go_wp2_with fail; (try simp only [Exit.inBlock, Exit.then]); refine bodyPost_ret_by (results_cell_row2 rfl _ _ (w.heap.size + 1) _ _ _ rfl HKF.out Tryd.underlying27 rfl (by rw [info_mach25]; rfl)) rfl ?_; exact ⟨_, _, _, _, rfl, hO9, hB9⟩
      exact AllReadyH.nil
    exact AllReadyH.nil
  exact AllReadyH.nil
end Go.Proofs.YteenmpjjaheggaaDoor
