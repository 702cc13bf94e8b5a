/- scope: the report of a fault. Printed by gen_names.py. -/
import Derived.Test.YtbijhlgdilkopaaGreatDoorZNmE
set_option linter.unusedVariables false
set_option linter.unusedSimpArgs false
set_option maxRecDepth 100000
set_option maxHeartbeats 4000000
namespace Go.Proofs.YtbijhlgdilkopaaGreatDoor
open Go.RowKit Bk
theorem info_fault : (Tryz.prog.info? 64).map (fun i => (i.zero, i.size, i.bytes)) = some (some (.agg #[.int .i64 0, .slice none 0 0, .int .i64 0, .string ⟨#[]⟩]), 4, 56) := by kernel_rfl
/-- The faults so far: the variable's block, and a row of their own. -/
structure Flt (w : World) (bf base : Nat) (q : Value) (n : Nat) : Prop where
  blk : Blk w bf 33 #[q]
  own : ∃ xs, w.ownsRow base 64 4 q n xs ∧ ∀ u ∈ xs, u.oneCell' = true
theorem Flt.next {w w' : World} {bf base : Nat} {q : Value} {n : Nat} (h : Flt w bf base q n) (hb : Below w.heap.size w w') : Flt w' bf base q n :=
  ⟨h.blk.next hb, let ⟨xs, h1, h2⟩ := h.own; ⟨xs, own_below h1 hb (Nat.le_refl _), h2⟩⟩
/-- Where a path may lie: not in the faults. -/
def Dn (bf : Nat) (q : Value) (w : World) (k : Nat) : Prop := k < w.heap.size ∧ ¬ (k = bf ∨ q.ownBlock = some k)
theorem Dn.next {bf : Nat} {q : Value} {w w' : World} {v : Value} {n : Nat} {xs : List Value} (h : Sl w (Dn bf q w) 1 v n xs) (hb : Below w.heap.size w w') : Sl w' (Dn bf q w') 1 v n xs :=
  h.keep (fun b o hd => hb.cell (p := ⟨b, o, none⟩) hd.1) (fun k hk => ⟨Nat.lt_of_lt_of_le hk.1 hb.size, hk.2⟩)
theorem Dn.emt {bf : Nat} {q q' : Value} {w w' : World} {v : Value} {n : Nat} {xs : List Value} (h : Sl w (Dn bf q w) 1 v n xs) (he : Emt bf w w' q q') : Sl w' (Dn bf q' w') 1 v n xs :=
  h.keep (fun b o hd => he.1.cell hd.1 hd.2 o) (fun k hk => ⟨Nat.lt_of_lt_of_le hk.1 he.1.size, fun ho => by
    rcases ho with ho | ho
    · exact hk.2 (.inl ho)
    · rcases he.2 with e | e
      · exact hk.2 (.inr (by rw [← e]; exact ho))
      · have := e k ho; have := hk.1; omega⟩)
theorem Fr.ofGrownN {w w' : World} {row : Option Nat} (hg : w.grownBy w' row) : Fr (fun k => row = some k) w w' := ⟨hg.os, hg.tape, hg.output, hg.size, fun k hk ho => hg.block k hk (fun e => ho e.symm)⟩
theorem sl_blk4 {w : World} {g : Nat} {t : TypeId} {u0 u1 u2 u3 : Value} (h : Blk w g t #[u0, u1, u2, u3]) : Sl w (fun _ => True) 4 (.slice (some ⟨g, 0, none⟩) 1 1) 1 [u0, u1, u2, u3] :=
  ⟨_, 1, rfl, Nat.le_refl _, (fun e => by cases e), rfl, fun _ => ⟨g, 0, rfl, trivial, fun j v hv => by rw [Nat.zero_add]; exact (h.cell j).trans (by rw [List.getElem?_toArray]; exact hv)⟩⟩
/-- What a report does. -/
def RepP (w w' : World) (bf base : Nat) (q : Value) (n : Nat) (err : Int) : Prop :=
  (err = 0 ∧ Below w.heap.size w w') ∨ ∃ q', Flt w' bf base q' (n + 1) ∧ Emt bf w w' q q'
theorem e_report {w : World} {bf base : Nat} {q : Value} {n : Nat} (hf : Flt w bf base q n) (hbl : bf < base) (hbs : base ≤ w.heap.size) (hn : n ≤ 100000) (pr err : Int) (nm : ByteArray) {v : Value} {l : List Int} (hl : l.length ≤ 1000000) (hs : Sl w (fun k => k < w.heap.size) 1 v l.length (intCells l)) :
    Calls Tryz.prog 17 #[.int .i64 pr, v, .string nm, .int .i64 err, .pointer (some ⟨bf, 0, none⟩)] w fun en w' => en = .returned (.tuple #[]) ∧ RepP w w' bf base q n err := by
  obtain ⟨hfb, xs, hown, hx1⟩ := hf
  have HF := Lib.hid hfb; have HOW := Lib.hid hown; have HX1 := Lib.hid hx1; have HS := Lib.hid hs
  obtain ⟨Aq, cq, rfl⟩ := own_form hown
  have HOB : Hid (∀ k, (Value.slice Aq n cq).ownBlock = some k → base ≤ k) := Lib.hid fun k hk => (own_gE HOW.out hk).1
  obtain ⟨z_f, T_f, F_f⟩ := hfb.open_
  clear hfb hown hx1 hs
  by_cases he : err = 0
  · subst he
    go_enter Tryz.func17, Tryz.ntmps17
    go_wp2_with fail
    refine bodyPost_end (results_none rfl _ _ _) rfl ?_
    exact ⟨rfl, .inl ⟨rfl, Below.refl _ _⟩⟩
  · have he' : (err != 0) = true := by simpa using he
    obtain ⟨i4, li, lz, lsz, lb⟩ := info_parts info_fault
    have HI := Lib.hid li; have HZ := Lib.hid lz; have HSI := Lib.hid lsz; have HBY := Lib.hid lb
    clear li lz lsz lb he T_f F_f
    go_enter Tryz.func17, Tryz.ntmps17
    go_upto_region 1 with fail
    refine wp_region_heldL (S := fun W => Fr (fun k => (Value.slice Aq n cq).ownBlock = some k) w W) 9 (by kernel_rfl) ((Fr.refl _ _).drew) (fun hH => ?_)
    refine wpAnyL_at ?_
    intro wa hwa
    have hX : Fr (fun k => (Value.slice Aq n cq).ownBlock = some k) w wa := by rw [hwa]; exact (Fr.refl _ _).drew
    have HO : wa.ownsRow base 64 4 (.slice Aq n cq) n xs := by rw [hwa]; exact own_drew HOW.out
    have HSA := Lib.hid (HS.out.keep (w' := wa) (D' := fun k => k < w.heap.size) (fun b o hd => by rw [hwa]; rfl) (fun k hk => hk))
    replace hH := hX
    clear hwa
    refine wpAnyL_take (i := 0) (v := ?_) rfl (by kernel_rfl) (by kernel_rfl) (by kernel_rfl) (by kernel_rfl) (fun _ _ _ h => h) (Or.inl ⟨by rfl, ?hy⟩) hH ?_
    case hy => (intro w9_ hS9; have t := (hS9.blk HF.out (by intro e; have := HOB.out _ e; omega)).cell; clear hS9; go_simp; try with_reducible rfl)
    (try simp only [Bk.PU, Act.put])
    refine wpAnyL_take (i := 1) (v := ?_) rfl (by kernel_rfl) (by kernel_rfl) (by kernel_rfl) (by kernel_rfl) (fun _ _ _ h => h) (Or.inl ⟨by rfl, ?hy⟩) hH ?_
    case hy => (intro w9_ hS9; clear hS9; go_simp; try with_reducible rfl)
    (try simp only [Bk.PU, Act.put])
    refine wpAnyL_take (i := 2) (v := ?_) rfl (by kernel_rfl) (by kernel_rfl) (by kernel_rfl) (by kernel_rfl) (fun _ _ _ h => h) (Or.inl ⟨by rfl, ?hy⟩) hH ?_
    case hy => (intro w9_ hS9; clear hS9; go_simp; try with_reducible rfl)
    (try simp only [Bk.PU, Act.put])
    refine wpAnyL_take (i := 4) (v := ?_) rfl (by kernel_rfl) (by kernel_rfl) (by kernel_rfl) (by kernel_rfl) (fun _ _ _ h => h) (Or.inl ⟨by rfl, ?hy⟩) hH ?_
    case hy => (intro w9_ hS9; clear hS9; go_simp; try with_reducible rfl)
    (try simp only [Bk.PU, Act.put])
    refine wpAnyL_take (i := 5) (v := ?_) rfl (by kernel_rfl) (by kernel_rfl) (by kernel_rfl) (by kernel_rfl) (fun _ _ _ h => h) (Or.inl ⟨by rfl, ?hy⟩) hH ?_
    case hy => (intro w9_ hS9; clear hS9; go_simp; try with_reducible rfl)
    (try simp only [Bk.PU, Act.put])
    refine wpAnyL_next (i := 3) rfl (by kernel_rfl) (fun K hK => ?_)
    go_simp
    refine (c_CloneI HSA.out (by omega)).mono ?_
    rintro en wb ⟨vc, rfl, hown, hbn⟩
    replace hX := hX.next hbn
    replace hH := hX
    replace HO := own_below HO hbn (Nat.le_refl _)
    obtain ⟨A_c, c_c, rfl⟩ := own_form hown
    clear hown hbn
    refine hK.out _ _ hH (fun _ => ?_)
    clear hK
    (try simp only [Bk.PU, Act.put])
    refine wpAnyL_take (i := 6) (v := ?_) rfl (by kernel_rfl) (by kernel_rfl) (by kernel_rfl) (by kernel_rfl) (fun _ _ _ h => h) (Or.inl ⟨by rfl, ?hy⟩) hH ?_
    case hy => (intro w9_ hS9; clear hS9; go_simp; try with_reducible rfl)
    (try simp only [Bk.PU, Act.put])
    refine wpAnyL_next (i := 7) rfl (by kernel_rfl) (fun K hK => ?_)
    go_simp
    replace hH := hX.alloc (.cells #[.int .i64 pr, .slice A_c l.length c_c, .int .i64 err, .string nm] 64)
    refine hK.out _ _ hH (fun _ => ?_)
    clear hK
    (try simp only [Bk.PU, Act.put])
    refine wpAnyL_at ?_
    intro wc hwn
    have hbn : Below wb.heap.size wb wc := by rw [hwn]; exact (Below.refl _ _).alloc (Nat.le_refl _) _
    have K_n : Blk wc wb.heap.size 64 #[.int .i64 pr, .slice A_c l.length c_c, .int .i64 err, .string nm] := by rw [hwn]; exact Blk.new _ _ _
    replace HO := own_below HO hbn (Nat.le_refl _)
    replace hX := hX.next hbn
    replace hH := hX
    clear hwn hbn
    refine wpAnyL_next (i := 8) rfl (by kernel_rfl) (fun K hK => ?_)
    rw [if_pos (by rfl)]
    refine wp_appS (.tmp 11) (.tmp 18) 33 rfl base 64 i4 _ 4 56 Tryz.underlying33 HI.out HZ.out HSI.out HBY.out rfl (by decide) (.slice Aq n cq) n xs (by simp [Act.eval]) HO (by simp [Act.eval]) (sl_blk4 K_n) (by intro u hu; simp at hu; rcases hu with rfl | rfl | rfl | rfl <;> rfl) (by unfold maxLen; omega) (by omega) (by have := hX.size; omega) ?_
    intro v_2 wd hown hgr hat
    have hXB := hX.size
    replace hX : Fr (fun k => (Value.slice Aq n cq).ownBlock = some k) w wd := hX.trans (Fr.ofGrownN hgr)
    replace hH := hX
    obtain ⟨A_2, c_2, rfl⟩ := own_form hown
    have HAT := Lib.hid hat
    have HXB := Lib.hid hXB
    clear hgr hat hXB
    refine hK.out _ _ hH (fun _ => ?_)
    clear hK
    (try simp only [Bk.PU, Act.put])
    refine wpAnyL_last (l := 9) rfl (by kernel_rfl) (by kernel_rfl) (fun K hK => ?_)
    have F_f : wd.frozen? ⟨bf, 0, none⟩ = false := (hX.blk HF.out (by intro e; have := HOB.out _ e; omega)).frozen 0
    have C_f : wd.cell? ⟨bf, 0, none⟩ = some (.slice Aq n cq) := (hX.blk HF.out (by intro e; have := HOB.out _ e; omega)).cell 0
    go_simp
    refine hK.out _ _ ?_
    clear hK
    (try simp only [Bk.PU, Act.put])
    have HOZ := Lib.hid hown; have HXZ := Lib.hid hX; clear hown hX hH
    go_wp2_with fail
    refine bodyPost_end (results_none rfl _ _ _) rfl ?_
    refine ⟨rfl, .inr ⟨.slice A_2 (n + 1) c_2, ⟨?_, xs ++ [.int .i64 pr, .slice A_c l.length c_c, .int .i64 err, .string nm], ?_, ?_⟩, ⟨?_, ?_⟩⟩⟩
    · simpa using (HXZ.out.blk HF.out (by intro e; have := HOB.out _ e; omega)).set_ 0 (.slice A_2 (n + 1) c_2)
    · exact own_setCell HOZ.out hbl
    · intro u hu
      rcases List.mem_append.1 hu with hu | hu
      · exact HX1.out u hu
      · simp at hu; rcases hu with rfl | rfl | rfl | rfl <;> rfl
    · exact Fr.set (HXZ.out.mono (fun k hk => .inr hk)) (.inl rfl) _
    · exact HAT.out.imp id (fun e k hk => by rw [hk] at e; have e := Option.some.inj e; have := HXB.out; omega)
/-- What the report of Check's last visit wants: its variables. -/
structure RepAt (w : World) (bf b4 b1 base : Nat) (pc : Array Value) : Prop where
  f : Blk w b4 65 #[(.func (.func 17) #[] #[.pointer (some ⟨bf, 0, none⟩)])]
  p : Blk w b1 31 pc
  h : bf < base ∧ b4 < base ∧ b1 < base ∧ b4 ≠ bf ∧ b1 ≠ bf ∧ base ≤ w.heap.size
end Go.Proofs.YtbijhlgdilkopaaGreatDoor
