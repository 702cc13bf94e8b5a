/- WhMv WhTr. -/
import Derived.Test.YtakfdnnlhjhcfaaGreatDoorZWhTq
set_option linter.unusedVariables false
set_option linter.unusedSimpArgs false
set_option linter.unusedSimpArgs false
set_option maxRecDepth 100000
set_option maxHeartbeats 4000000
namespace Go.Proofs.YtakfdnnlhjhcfaaGreatDoor
open Go.RowKit Bk
def updV (op a b : Int) : Int := if op = 40 then wrap64 (a + b) else if op = 41 then wrap64 (a - b) else xor64 a b
theorem c_Update (op x y : Int) (hop : op = 40 ∨ op = 41 ∨ op = 42) (w : World) : Calls Tryz.prog 160 #[.int .u8 op, .int .i64 x, .int .i64 y] w fun e w' => e = .returned (.tuple #[.int .i64 (updV op x y), .int .i64 0]) ∧ w = w' := by
  rcases hop with rfl | rfl | rfl
  all_goals
    go_enter Tryz.func160, Tryz.ntmps160
    go_wp2_with fail
    refine bodyPost_ret_by (results_tmp2 rfl _ _ _) rfl ?_
    exact ⟨by first | rfl | simp [updV, xor64], rfl⟩
def RetS (B : Nat) (S : Sv) (w : World) (q : Rs) (e : Ending) (w' : World) : Prop := match q with
  | .error x => e = .returned (.int .i64 x) ∧ x ≠ 0 ∧ Fr S.O w w'
  | .ok σ' => e = .returned (.int .i64 0) ∧ (∃ S', SOn w' B S' σ' ∧ S.Ext S' w) ∧ Fr S.O w w'
theorem own_frozen {w : World} {base : Nat} {t : TypeId} {n g cp : Nat} {xs : List Value} (h : w.ownsRow base t 1 (.slice (some ⟨g, 0, none⟩) n cp) n xs) (k : Nat) : w.frozen? ⟨g, k, none⟩ = false := by
  obtain ⟨cur, hb, _⟩ := own_row h
  exact hb.frozen k
section
variable {w : World} {B : Nat} {S : Sv} {σ : PSt}
theorem SOn.place (h : SOn w B S σ) {c i : Nat} {l : List Int} (hc : σ.cells[c]? = some l) (hi : i < l.length) : ∃ g cp, S.iv c = .slice (some ⟨g, 0, none⟩) l.length cp ∧ g < w.heap.size ∧ S.ro g = .items c ∧ w.cell? ⟨g, i, none⟩ = some (.int .i64 (l.getD i 0)) ∧ w.frozen? ⟨g, i, none⟩ = false := by
  have hcell := h.cells c l hc
  have ho := hcell.own
  obtain ⟨g, cp, e, _, hg, _, _, h3⟩ := own_some ho (by omega)
  rw [e] at ho
  exact ⟨g, cp, e, hg, hcell.ri g (by rw [e]; rfl), h3 i _ (intCells_get _ _ hi), own_frozen ho i⟩
theorem intCells_set (l : List Int) (i : Nat) (v : Int) : (intCells l).set i (.int .i64 v) = intCells (l.set i v) := by simp [intCells, List.map_set]
theorem SOn.write (h : SOn w B S σ) {c i g cp : Nat} {l : List Int} (hc : σ.cells[c]? = some l) (he : S.iv c = .slice (some ⟨g, 0, none⟩) l.length cp) (v : Int) : ∃ S', SOn (w.setCell ⟨g, i, none⟩ (.int .i64 v)) B S' { σ with cells := σ.cells.set c (l.set i v) } ∧ S.Ext S' w ∧ (S'.cb = S.cb ∧ S'.tb = S.tb) ∧ ∀ j, S'.iv j = S.iv j := by
  have hcell := h.cells c l hc
  have hg : S.ro g = .items c := hcell.ri g (by rw [he]; rfl)
  have hf : Fr (fun k => k = g) w (w.setCell ⟨g, i, none⟩ (.int .i64 v)) := (Fr.refl (fun k => k = g) w).set (p := ⟨g, i, none⟩) rfl _
  have ho := hcell.own
  rw [he] at ho
  have ho2 := own_set ho i (.int .i64 v)
  rw [intCells_set] at ho2
  obtain ⟨S', h1, h2, h3, h4, h5⟩ := h.cellTo hc (l' := l.set i v) (v' := S.iv c) (hf.mono fun k hk => .inr (by rw [hk]; exact hg)) (hf.blk hcell.blk (fun e => by have := hcell.rb; rw [e, hg] at this; cases this)) (by rw [he, List.length_set]; exact ho2) (fun k hk => .inl (hcell.ri k hk))
  exact ⟨S', h1, h2, h3, fun j => by by_cases hj : j = c; (subst hj; exact h4); exact h5 j hj⟩
theorem SOn.frW (h : SOn w B S σ) {g i : Nat} {c : Nat} (hg : S.ro g = .items c) (u : Value) : Fr S.O w (w.setCell ⟨g, i, none⟩ u) := (Fr.refl S.O w).set (p := ⟨g, i, none⟩) (show S.ro g ≠ .none by rw [hg]; simp) _
theorem info_int8M : (Tryz.prog.info? 3).map (fun i => (i.zero, i.size, i.bytes)) = some (some (.int .i64 0), 1, 8) := by kernel_rfl
theorem c_pushF {g i c2 n cp : Nat} {A : Option Addr} (hb : Blk w c2 127 #[.slice A n cp]) (hn : 1000 ≤ n) : Calls Tryz.prog 161 #[.int .u8 44, .pointer (some ⟨g, i, none⟩), .pointer (some ⟨c2, 0, none⟩)] w fun e w' => e = .returned (.int .i64 5) ∧ Below w.heap.size w w' := by
  have hge : decide (1000 ≤ (n : Int)) = true := by simp; omega
  obtain ⟨z_, T_, F_⟩ := hb.open_
  clear hb
  go_enter Tryz.func161, Tryz.ntmps161
  go_wp2_with fail
  go_ret
  exact ⟨rfl, by go_grown⟩
theorem c_push (h : SOn w B S σ) (hB : B ≤ w.heap.size) {c1 c2 i g cp : Nat} {l1 l2 : List Int} (hc1 : σ.cells[c1]? = some l1) (hc2 : σ.cells[c2]? = some l2) (hne : c1 ≠ c2) (he : S.iv c1 = .slice (some ⟨g, 0, none⟩) l1.length cp) (hi : i < l1.length) (hn : l2.length < 1000) :
    Calls Tryz.prog 161 #[.int .u8 44, .pointer (some ⟨g, i, none⟩), .pointer (some ⟨S.cb c2, 0, none⟩)] w fun e w' => e = .returned (.int .i64 0) ∧ (∃ S', SOn w' B S' { σ with cells := (σ.cells.set c2 (l2 ++ [l1.getD i 0])).set c1 (l1.set i 0) } ∧ S.Ext S' w) ∧ Fr S.O w w' := by
  obtain ⟨g', cp', e', hgl, hgr, hgc, hgf⟩ := h.place hc1 hi
  rw [he] at e'
  injection e' with e' _ _
  injection e' with e'
  injection e' with e' _ _
  subst e'
  have hcell := h.cells c2 l2 hc2
  have H := Lib.hid h
  have HO := Lib.hid hcell.own; have HB2 := Lib.hid hcell.blk
  have hgb : g ≠ S.cb c2 := fun e => by have := hcell.rb; rw [← e, hgr] at this; cases this
  have hrow : Hid (∀ k, (S.iv c2).ownBlock = some k → k ≠ g ∧ k ≠ S.cb c2 ∧ B ≤ k) := Lib.hid fun k hk => by
    have h1 := hcell.ri k hk
    refine ⟨fun e => ?_, fun e => ?_, (own_gE hcell.own hk).1⟩
    · subst e; rw [hgr] at h1; injection h1 with h1; exact hne h1
    · subst e; rw [hcell.rb] at h1; cases h1
  have hrb := hcell.rb
  obtain ⟨A, c, e2⟩ := own_form hcell.own
  have hge : decide (1000 ≤ (l2.length : Int)) = false := by simp; omega
  obtain ⟨i3, li, lz, ls, lb⟩ := info_parts info_int8M
  have HI := Lib.hid li; have HZ := Lib.hid lz; have HSZ := Lib.hid ls; have HBY := Lib.hid lb
  have HGC := Lib.hid hgc; have HE2 := Lib.hid e2; have HRO := Lib.hid (show S.has (S.iv c2) (.items c2) from hcell.ri)
  rw [e2] at HB2 HO hrow HRO
  obtain ⟨z_, T_, F_⟩ := HB2.out.open_
  obtain ⟨y, hy⟩ : ∃ y, l1.getD i 0 = y := ⟨_, rfl⟩
  rw [hy] at hgc HGC ⊢
  obtain ⟨n, hn2⟩ : ∃ n, l2.length = n := ⟨_, rfl⟩
  have HN := Lib.hid hn2
  rw [hn2] at hge hn HO HB2 T_ hrow HRO HE2
  generalize hcb : S.cb c2 = b at *
  have HCB := Lib.hid hcb
  clear h hcell li lz ls lb e2 hy hn2 hcb
  go_enter Tryz.func161, Tryz.ntmps161
  go_upto_region 7 with fail
  have hbl := z_
  have hnb : ¬ Value.ownBlock (.slice A n c) = some b := fun e => (hrow.out b e).2.1 rfl
  have hng : ¬ Value.ownBlock (.slice A n c) = some g := fun e => (hrow.out g e).1 rfl
  have HC : Hid (w.cell? ⟨b, 0, none⟩ = some (.slice A n c)) := Lib.hid (HB2.out.cell 0)
  have HCF : Hid (w.frozen? ⟨b, 0, none⟩ = false) := Lib.hid (HB2.out.frozen 0)
  have HGF := Lib.hid hgf
  have HLL : Hid (l2.length = n) := HN
  clear T_ z_ F_ hgc hgf
  refine wp_region_heldL (S := fun W => Fr (fun k => Value.ownBlock (.slice A n c) = some k) w W) 12 (by kernel_rfl) ((Fr.refl _ _).drew) (fun hH => ?_)
  refine wpAnyL_at ?_
  intro wa hwa
  have hX : Fr (fun k => Value.ownBlock (.slice A n c) = some k) w wa := by rw [hwa]; exact (Fr.refl _ _).drew
  have HOq := HO.out
  replace HOq : wa.ownsRow B 3 1 (.slice A n c) n (intCells l2) := by rw [hwa]; exact own_drew HOq
  replace hH := hX
  clear hwa
  refine wpAnyL_take (i := 0) (v := ?_) rfl (by kernel_rfl) (by kernel_rfl) (by kernel_rfl) (by kernel_rfl) (fun _ _ _ h => h) (Or.inl ⟨by rfl, ?hy⟩) hH ?_
  case hy => (intro w9_ hS9; clear hS9; go_simp; try with_reducible rfl)
  (try simp only [PU, Act.put])
  refine wpAnyL_take (i := 1) (v := ?_) rfl (by kernel_rfl) (by kernel_rfl) (by kernel_rfl) (by kernel_rfl) (fun _ _ _ h => h) (Or.inl ⟨by rfl, ?hy⟩) hH ?_
  case hy => (intro w9_ hS9; clear hS9; go_simp; try with_reducible rfl)
  (try simp only [PU, Act.put])
  refine wpAnyL_take (i := 2) (v := ?_) rfl (by kernel_rfl) (by kernel_rfl) (by kernel_rfl) (by kernel_rfl) (fun _ _ _ h => h) (Or.inl ⟨by rfl, ?hy⟩) hH ?_
  case hy => (intro w9_ hS9; clear hS9; go_simp; try with_reducible rfl)
  (try simp only [PU, Act.put])
  refine wpAnyL_take (i := 3) (v := ?_) rfl (by kernel_rfl) (by kernel_rfl) (by kernel_rfl) (by kernel_rfl) (fun _ _ _ h => h) (Or.inl ⟨by rfl, ?hy⟩) hH ?_
  case hy => (intro w9_ hS9; clear hS9; go_simp; try with_reducible rfl)
  (try simp only [PU, Act.put])
  refine wpAnyL_take (i := 4) (v := ?_) rfl (by kernel_rfl) (by kernel_rfl) (by kernel_rfl) (by kernel_rfl) (fun _ _ _ h => h) (Or.inl ⟨by rfl, ?hy⟩) hH ?_
  case hy => (intro w9_ hS9; have t := (hS9.cell hbl hnb 0).trans HC.out; clear hS9; go_simp; try with_reducible rfl)
  (try simp only [PU, Act.put])
  refine wpAnyL_take (i := 5) (v := ?_) rfl (by kernel_rfl) (by kernel_rfl) (by kernel_rfl) (by kernel_rfl) (fun _ _ _ h => h) (Or.inl ⟨by rfl, ?hy⟩) hH ?_
  case hy => (intro w9_ hS9; clear hS9; go_simp; try with_reducible rfl)
  (try simp only [PU, Act.put])
  refine wpAnyL_take (i := 6) (v := ?_) rfl (by kernel_rfl) (by kernel_rfl) (by kernel_rfl) (by kernel_rfl) (fun _ _ _ h => h) (Or.inl ⟨by rfl, ?hy⟩) hH ?_
  case hy => (intro w9_ hS9; clear hS9; go_simp; try with_reducible rfl)
  (try simp only [PU, Act.put])
  refine wpAnyL_take (i := 7) (v := ?_) rfl (by kernel_rfl) (by kernel_rfl) (by kernel_rfl) (by kernel_rfl) (fun _ _ _ h => h) (Or.inl ⟨by rfl, ?hy⟩) hH ?_
  case hy => (intro w9_ hS9; have t := (hS9.cell hgl hng i).trans HGC.out; clear hS9; go_simp; try with_reducible rfl)
  (try simp only [PU, Act.put])
  refine wpAnyL_next (i := 8) rfl (by kernel_rfl) (fun K hK => ?_)
  go_simp
  replace hH := hX.alloc (.cells #[.int .i64 y] 3)
  refine hK.out _ _ hH (fun _ => ?_)
  clear hK
  (try simp only [PU, Act.put])
  refine wpAnyL_at ?_
  intro wb hwn
  have hbn : Below wa.heap.size wa wb := by rw [hwn]; exact (Below.refl _ _).alloc (Nat.le_refl _) _
  have K_n : Blk wb wa.heap.size 3 #[.int .i64 y] := by rw [hwn]; exact Blk.new _ _ _
  replace HOq := own_below HOq hbn (Nat.le_refl _)
  replace hX := hX.next hbn
  replace hH := hX
  clear hwn hbn
  refine wpAnyL_next (i := 9) rfl (by kernel_rfl) (fun K hK => ?_)
  rw [if_pos (by rfl)]
  refine wp_appS (.tmp 47) (.tmp 51) 30 rfl B 3 i3 _ 1 8 Tryz.underlying30 HI.out HZ.out HSZ.out HBY.out rfl (by decide) (.slice A n c) n (intCells l2) (by simp [Act.eval]) HOq (by simp [Act.eval]) (sl_blk1 K_n) (by intro u hu; simp at hu; rcases hu with rfl; rfl) (by unfold maxLen; omega) (by omega) (by have := hX.size; omega) ?_
  intro v_2 wc hown hgr hat
  have hXB := hX.size
  replace hX : Fr (fun k => Value.ownBlock (.slice A n c) = some k) w wc := hX.trans (Fr.ofGrownN hgr)
  replace hH := hX
  obtain ⟨A_2, c_2, rfl⟩ := own_form hown
  have HAT : Hid (∀ k, Value.ownBlock (.slice A_2 (n + 1) c_2) = some k → Value.ownBlock (.slice A n c) = some k ∨ w.heap.size ≤ k) := Lib.hid (fun k hk => hat.imp (fun e => by rw [← e]; exact hk) (fun e => by rw [hk] at e; have e := Option.some.inj e; omega))
  clear hgr hat hXB
  refine hK.out _ _ hH (fun _ => ?_)
  clear hK
  (try simp only [PU, Act.put])
  refine wpAnyL_next (i := 10) rfl (by kernel_rfl) (fun K hK => ?_)
  go_simp
  refine hK.out _ _ hH (fun _ => ?_)
  clear hK
  (try simp only [PU, Act.put])
  refine wpAnyL_take (i := 11) (v := ?_) rfl (by kernel_rfl) (by kernel_rfl) (by kernel_rfl) (by kernel_rfl) (fun _ _ _ h => h) (Or.inl ⟨by rfl, ?hy⟩) hH ?_
  case hy => (intro w9_ hS9; clear hS9; go_simp; try with_reducible rfl)
  (try simp only [PU, Act.put])
  refine wpAnyL_last (l := 12) rfl (by kernel_rfl) (by kernel_rfl) (fun K hK => ?_)
  have F_f := (World.frozen?_of_block (a := ⟨b, 0, none⟩) (hX.block _ hbl hnb)).trans HCF.out
  have C_f := (hX.cell hbl hnb _).trans HC.out
  go_simp
  refine hK.out _ _ ?_
  clear hK
  (try simp only [PU, Act.put])
  have HOZ := Lib.hid hown; have HXZ := Lib.hid hX; clear hown hX hH HOq
  generalize hwd : wc.setCell ⟨b, 0, none⟩ (.slice A_2 (n + 1) c_2) = we at *
  have HWD := Lib.hid hwd
  have hFe : Fr (fun k => k = b ∨ Value.ownBlock (.slice A n c) = some k) w we := by rw [← hwd]; exact (HXZ.out.mono fun k hk => .inr hk).set (p := ⟨b, 0, none⟩) (.inl rfl) _
  have HFE := Lib.hid hFe
  have d0 := (hFe.cell (b := g) hgl (fun e => by rcases e with e | e; exact hgb e; exact hng e) i).trans HGC.out
  have g0 : we.frozen? ⟨g, i, none⟩ = false := (World.frozen?_of_block (a := ⟨g, i, none⟩) (hFe.block g hgl (fun e => by rcases e with e | e; exact hgb e; exact hng e))).trans HGF.out
  clear hwd hFe
  go_wp2_with fail
  go_ret
  have h2 : ∃ S', SOn we B S' { σ with cells := σ.cells.set c2 (l2 ++ [y]) } ∧ S.Ext S' w ∧ (S'.cb = S.cb ∧ S'.tb = S.tb) ∧ S'.iv c2 = .slice A_2 (n + 1) c_2 ∧ ∀ j, j ≠ c2 → S'.iv j = S.iv j := by
    refine H.out.cellTo hc2 (HFE.out.mono fun k hk => ?_) ?_ ?_ fun k hk => ?_
    · rcases hk with hk | hk
      · rw [hk]; exact .inl hrb
      · exact .inr (HRO.out k hk)
    · rw [HCB.out, ← HWD.out]
      simpa using (HXZ.out.blk HB2.out hnb).set_ 0 (.slice A_2 (n + 1) c_2)
    · rw [← HWD.out, List.length_append, HN.out]
      have ho := own_fr (O := fun k => k = b) HOZ.out (w' := wc.setCell ⟨b, 0, none⟩ (.slice A_2 (n + 1) c_2)) ((Fr.refl (fun k => k = b) wc).set (p := ⟨b, 0, none⟩) rfl _) (fun k hk e => by subst e; rcases HAT.out _ hk with h1 | h1; exact hnb h1; omega)
      rw [show intCells (l2 ++ [y]) = intCells l2 ++ [.int .i64 y] by simp [intCells]]
      exact ho
    · exact (HAT.out k hk).imp (fun e => HRO.out k e) id
  obtain ⟨S', q1, q2, q3, q4, q5⟩ := h2
  have hcc : ({ σ with cells := σ.cells.set c2 (l2 ++ [y]) } : PSt).cells[c1]? = some l1 := by
    show (σ.cells.set c2 (l2 ++ [y]))[c1]? = some l1
    rw [List.getElem?_set_ne (fun e => hne e.symm)]; exact hc1
  obtain ⟨S'', r1, r2, _⟩ := q1.write hcc (i := i) (by rw [q5 c1 hne]; exact he) 0
  have hFw : Fr S.O w we := HFE.out.mono fun k hk => by
    show S.ro k ≠ .none
    rcases hk with hk | hk
    · rw [hk, hrb]; simp
    · rw [HRO.out k hk]; simp
  refine ⟨rfl, ⟨S'', r1, q2.trans r2 HFE.out.size⟩, hFw.set (p := ⟨g, i, none⟩) (show S.ro g ≠ .none by rw [hgr]; simp) _⟩
theorem c_popE {g i c2 cp : Nat} {A : Option Addr} (hb : Blk w c2 127 #[.slice A 0 cp]) : Calls Tryz.prog 161 #[.int .u8 45, .pointer (some ⟨g, i, none⟩), .pointer (some ⟨c2, 0, none⟩)] w fun e w' => e = .returned (.int .i64 13) ∧ Below w.heap.size w w' := by
  obtain ⟨z_, T_, F_⟩ := hb.open_
  clear hb
  go_enter Tryz.func161, Tryz.ntmps161
  go_wp2_with fail
  go_ret
  exact ⟨rfl, by go_grown⟩
theorem c_popC {g i c2 n cp : Nat} {A : Option Addr} {y : Int} (hb : Blk w c2 127 #[.slice A n cp]) (hn : 0 < n) (hc : w.cell? ⟨g, i, none⟩ = some (.int .i64 y)) (hy : y ≠ 0) : Calls Tryz.prog 161 #[.int .u8 45, .pointer (some ⟨g, i, none⟩), .pointer (some ⟨c2, 0, none⟩)] w fun e w' => e = .returned (.int .i64 14) ∧ Below w.heap.size w w' := by
  obtain ⟨z_, T_, F_⟩ := hb.open_
  have h1 : ((n : Int) == 0) = false := beq_eq_false_iff_ne.2 (by omega)
  have h2 : (y != 0) = true := bne_iff_ne.2 hy
  clear hb
  go_enter Tryz.func161, Tryz.ntmps161
  go_wp2_with fail
  go_ret
  exact ⟨rfl, by go_grown⟩
theorem c_pop (h : SOn w B S σ) (hB : B ≤ w.heap.size) {c1 c2 i g cp : Nat} {l1 l2 : List Int} (hc1 : σ.cells[c1]? = some l1) (hc2 : σ.cells[c2]? = some l2) (hne : c1 ≠ c2) (he : S.iv c1 = .slice (some ⟨g, 0, none⟩) l1.length cp) (hi : i < l1.length) (hn : 0 < l2.length) (hn2 : l2.length ≤ 1000) (hy : l1.getD i 0 = 0) :
    Calls Tryz.prog 161 #[.int .u8 45, .pointer (some ⟨g, i, none⟩), .pointer (some ⟨S.cb c2, 0, none⟩)] w fun e w' => e = .returned (.int .i64 0) ∧ (∃ S', SOn w' B S' { σ with cells := (σ.cells.set c1 (l1.set i (l2.getLastD 0))).set c2 l2.dropLast } ∧ S.Ext S' w) ∧ Fr S.O w w' := by
  obtain ⟨g', cp', e', hgl, hgr, hgc, hgf⟩ := h.place hc1 hi
  rw [he] at e'
  injection e' with e' _ _
  injection e' with e'
  injection e' with e' _ _
  subst e'
  have hcell := h.cells c2 l2 hc2
  have H := Lib.hid h
  have HB2 := Lib.hid hcell.blk
  have hgb : g ≠ S.cb c2 := fun e => by have := hcell.rb; rw [← e, hgr] at this; cases this
  have hrb := hcell.rb
  obtain ⟨g2, c, e2, _, hg2, _, _, hcl2⟩ := own_some hcell.own hn
  have HO := Lib.hid hcell.own
  have hrg2 : S.ro g2 = .items c2 := hcell.ri g2 (by rw [e2]; rfl)
  have hgg2 : g2 ≠ g := fun e => by rw [e, hgr] at hrg2; injection hrg2 with h1; exact hne h1
  have d2 := hcl2 (l2.length - 1) _ (intCells_get _ _ (by omega))
  have hly : l2.getD (l2.length - 1) 0 = l2.getLastD 0 := by rw [List.getLastD_eq_getLast?, List.getLast?_eq_getElem?, List.getD_eq_getElem?_getD]
  rw [hly] at d2
  rw [hy] at hgc
  have HE2 := Lib.hid e2
  rw [e2] at HB2 HO
  obtain ⟨z_, T_, F_⟩ := HB2.out.open_
  obtain ⟨y, hyy⟩ : ∃ y, l2.getLastD 0 = y := ⟨_, rfl⟩
  rw [hyy] at d2 ⊢
  obtain ⟨n, hnn⟩ : ∃ n, l2.length = n + 1 := ⟨l2.length - 1, by omega⟩
  have HN := Lib.hid hnn
  rw [hnn] at d2 HB2 T_ HE2 hn2 HO
  rw [Nat.add_sub_cancel] at d2
  have hcap : n + 1 ≤ c := (own_row1 HO.out).choose_spec.2.2.2.1
  have j0 : (0 : Int) ≤ (n : Int) := by omega
  have j1 : (n : Int) < ((n + 1 : Nat) : Int) := by omega
  have j2 : (n : Int) ≤ (c : Int) := by omega
  have hz : (((n + 1 : Nat) : Int) == 0) = false := beq_eq_false_iff_ne.2 (by omega)
  have hw : IntKind.i64.wrap (n : Int) = (n : Int) := wrap_small _ (by omega) (by omega)
  generalize hcb : S.cb c2 = b at *
  have HCB := Lib.hid hcb
  clear h hcell e2 hly hyy hnn hcb hn hcl2
  go_enter Tryz.func161, Tryz.ntmps161
  go_wp2_with fail
  go_ret
  obtain ⟨S', q1, q2, q3, q4⟩ := H.out.write (i := i) hc1 he y
  have hcc : ({ σ with cells := σ.cells.set c1 (l1.set i y) } : PSt).cells[c2]? = some l2 := by
    show (σ.cells.set c1 (l1.set i y))[c2]? = some l2
    rw [List.getElem?_set_ne hne]; exact hc2
  have hF1 : Fr S.O w (w.setCell ⟨g, i, none⟩ (.int .i64 y)) := H.out.frW hgr _
  have hro : ∀ k, k < w.heap.size → S'.ro k = S.ro k := q2.2
  generalize hw1 : w.setCell ⟨g, i, none⟩ (.int .i64 y) = w1 at *
  have hcell2 := q1.cells c2 l2 hcc
  have hb1 := hcell2.blk
  rw [q4 c2, q3.1, HCB.out, HE2.out] at hb1
  have hF2 : Fr (fun k => k = b) w1 (w1.setCell ⟨b, 0, none⟩ (.slice (some ⟨g2, 0, none⟩) n c)) := (Fr.refl (fun k => k = b) w1).set (p := ⟨b, 0, none⟩) rfl _
  have hg2b : g2 ≠ b := fun e => by rw [e, hrb] at hrg2; cases hrg2
  have ho1 := hcell2.own
  rw [q4 c2, HE2.out, HN.out] at ho1
  have ho2 := own_cut (own_fr ho1 hF2 fun k hk e => by injection hk with hk; exact hg2b (hk.trans e)) (Nat.le_succ n)
  have hdl : l2.dropLast.length = n := by simp [HN.out]
  have hic : (intCells l2).take (n * 1) = intCells l2.dropLast := by rw [Nat.mul_one, List.dropLast_eq_take, HN.out, Nat.add_sub_cancel]; simp [intCells, List.map_take]
  rw [hic] at ho2
  obtain ⟨S'', r1, r2, _⟩ := q1.cellTo (w' := w1.setCell ⟨b, 0, none⟩ (.slice (some ⟨g2, 0, none⟩) n c)) (v' := .slice (some ⟨g2, 0, none⟩) n c) (l' := l2.dropLast) hcc (hF2.mono fun k hk => .inl (by rw [hk, hro b z_]; exact hrb)) (by rw [q3.1, HCB.out]; simpa using hb1.set_ 0 (.slice (some ⟨g2, 0, none⟩) n c)) (by rw [hdl]; exact ho2) (fun k hk => .inl (by injection hk with hk; rw [← hk, hro g2 hg2]; exact hrg2))
  refine ⟨rfl, ⟨S'', r1, q2.trans r2 hF1.size⟩, hF1.set (p := ⟨b, 0, none⟩) (show S.ro b ≠ .none by rw [hrb]; simp) _⟩
end
end Go.Proofs.YtakfdnnlhjhcfaaGreatDoor
namespace Bk
def tapQ (op : Int) (σ : PSt) (c i : Nat) (l : List Int) : Rs :=
  if op = 46 then (if σ.inp = [] then .error 17 else if l.getD i 0 ≠ 0 then .error 14 else .ok { σ with inp := σ.inp.tail, cells := σ.cells.set c (l.set i (σ.inp.headD 0)) })
  else if op = 47 then (if 4096 ≤ σ.inp.length then .error 5 else .ok { σ with inp := l.getD i 0 :: σ.inp, cells := σ.cells.set c (l.set i 0) })
  else if op = 48 then (if 4096 ≤ σ.out.length then .error 5 else .ok { σ with out := σ.out ++ [l.getD i 0], cells := σ.cells.set c (l.set i 0) })
  else (if σ.out = [] then .error 17 else if l.getD i 0 ≠ 0 then .error 14 else .ok { σ with out := σ.out.dropLast, cells := σ.cells.set c (l.set i (σ.out.getLastD 0)) })
end Bk
namespace Go.Proofs.YtakfdnnlhjhcfaaGreatDoor
open Go.RowKit Bk
section
variable {w : World} {B : Nat} {S : Sv} {σ : PSt}
theorem SOn.tp (h : SOn w B S σ) : TpAt w B S.tb S.vi S.vo σ.inp σ.out :=
  ⟨h.tape, h.inp, h.out, fun e => (by have := h.rvi _ e; rw [h.rtb] at this; cases this), fun e => (by have := h.rvo _ e; rw [h.rtb] at this; cases this), fun k h1 h2 => by have a := h.rvi k h1; have b := h.rvo k h2; rw [a] at b; cases b⟩
theorem SOn.tpTo (h : SOn w B S σ) {a b : List Int} {w1 : World} {vi vo : Value} (ht : TpP w B S.tb S.vi S.vo a b w1 vi vo) : (∃ S', SOn w1 B S' { σ with inp := a, out := b } ∧ S.Ext S' w ∧ (S'.cb = S.cb ∧ S'.tb = S.tb) ∧ S'.iv = S.iv) ∧ Fr S.O w w1 := by
  have hF : Fr (fun k => S.ro k = .tape ∨ S.ro k = .tin ∨ S.ro k = .tout) w w1 := ht.fr.mono fun k hk => by
    rcases hk with hk | hk | hk
    · exact .inl (by rw [hk]; exact h.rtb)
    · exact .inr (.inl (h.rvi k hk))
    · exact .inr (.inr (h.rvo k hk))
  exact ⟨h.tapeTo hF ht.at_.blk ht.at_.inp ht.at_.out (fun k hk => (ht.hi k hk).imp (h.rvi k) id) (fun k hk => (ht.ho k hk).imp (h.rvo k) id) ht.at_.ne, hF.mono fun k hk => by show S.ro k ≠ .none; rcases hk with h | h | h <;> rw [h] <;> simp⟩
theorem SOn.tpWrite (h : SOn w B S σ) {a b : List Int} {w1 : World} {vi vo : Value} (ht : TpP w B S.tb S.vi S.vo a b w1 vi vo) {c i g cp : Nat} {l : List Int} (hc : σ.cells[c]? = some l) (he : S.iv c = .slice (some ⟨g, 0, none⟩) l.length cp) (v : Int) :
    (∃ S', SOn (w1.setCell ⟨g, i, none⟩ (.int .i64 v)) B S' { σ with inp := a, out := b, cells := σ.cells.set c (l.set i v) } ∧ S.Ext S' w) ∧ Fr S.O w (w1.setCell ⟨g, i, none⟩ (.int .i64 v)) := by
  obtain ⟨⟨S', q1, q2, q3, q4⟩, hF⟩ := h.tpTo ht
  obtain ⟨S'', r1, r2, _⟩ := q1.write (i := i) hc (by rw [q4]; exact he) v
  have hg : S.ro g = .items c := (h.cells c l hc).ri g (by rw [he]; rfl)
  exact ⟨⟨S'', r1, q2.trans r2 hF.size⟩, hF.set (p := ⟨g, i, none⟩) (show S.ro g ≠ .none by rw [hg]; simp) _⟩
theorem SOn.tpCell (h : SOn w B S σ) {a b : List Int} {w1 : World} {vi vo : Value} (ht : TpP w B S.tb S.vi S.vo a b w1 vi vo) {c g : Nat} (hg : S.ro g = .items c) (hgl : g < w.heap.size) (i : Nat) : w1.cell? ⟨g, i, none⟩ = w.cell? ⟨g, i, none⟩ ∧ w1.frozen? ⟨g, i, none⟩ = w.frozen? ⟨g, i, none⟩ ∧ Blk w1 S.st 123 #[S.bv, S.bc, .int .i64 σ.base.locals, S.cv, .pointer (some ⟨S.tb, 0, none⟩)] := by
  have hn : ∀ k r, S.ro k = r → r ≠ .tape → r ≠ .tin → r ≠ .tout → ¬ (k = S.tb ∨ S.vi.ownBlock = some k ∨ S.vo.ownBlock = some k) := fun k r hr h1 h2 h3 ho => by
    rcases ho with ho | ho | ho
    · subst ho; rw [h.rtb] at hr; exact h1 hr.symm
    · rw [h.rvi k ho] at hr; exact h2 hr.symm
    · rw [h.rvo k ho] at hr; exact h3 hr.symm
  have hb := ht.fr.block g hgl (hn g _ hg (by simp) (by simp) (by simp))
  exact ⟨World.cell?_of_block hb, World.frozen?_of_block hb, ht.fr.blk h.top (hn _ _ h.rst (by simp) (by simp) (by simp))⟩
theorem c_read (h : SOn w B S σ) (hB : B ≤ w.heap.size) (hi4 : σ.inp.length ≤ 4096) (ho4 : σ.out.length ≤ 4096) {c i g cp : Nat} {l : List Int} (hc : σ.cells[c]? = some l) (he : S.iv c = .slice (some ⟨g, 0, none⟩) l.length cp) (hi : i < l.length) : Calls Tryz.prog 162 #[.pointer (some ⟨S.st, 0, none⟩), .int .u8 46, .pointer (some ⟨g, i, none⟩)] w fun e w' => RetS B S w (tapQ 46 σ c i l) e w' := by
  obtain ⟨g', cp', e', hgl, hgr, hgc, hgf⟩ := h.place hc hi
  rw [he] at e'
  injection e' with e' _ _
  injection e' with e'
  injection e' with e' _ _
  subst e'
  have H := Lib.hid h
  have HTOP := Lib.hid h.top
  have HTP := Lib.hid h.tp
  obtain ⟨q, hq⟩ : ∃ q, tapQ 46 σ c i l = q := ⟨_, rfl⟩
  rw [hq]
  have HQ := Lib.hid hq
  have HGF := Lib.hid hgf
  obtain ⟨y, hy⟩ : ∃ y, l.getD i 0 = y := ⟨_, rfl⟩
  have HY := Lib.hid hy
  rw [hy] at hgc
  have HGC := Lib.hid hgc
  have HHE := Lib.hid he
  clear h hq hy he
  by_cases h0 : σ.inp = []
  · have HR := Lib.hid (c_ReadF HTP.out h0)
    obtain rfl : q = .error 17 := by rw [← HQ.out]; simp [tapQ, h0]
    obtain ⟨st, tb, bv, bc, cv, vi, vo, fv, cb, iv, ro⟩ := S
    dsimp only at *
    obtain ⟨z_, T_, F_⟩ := HTOP.out.open_
    clear h0
    go_enter Tryz.func162, Tryz.ntmps162
    go_wp2_with fail
    refine HR.out.mono ?_
    rintro e w2 ⟨rfl, hb⟩
    have HB2 := Lib.hid hb
    clear hb T_ z_ F_ hgc hgf
    go_wp2_with fail
    go_ret
    exact ⟨rfl, by decide, Fr.of HB2.out⟩
  · have HR := Lib.hid (c_Read HTP.out (List.length_pos_iff.2 h0) hi4)
    by_cases h1 : y = 0
    · subst h1
      obtain rfl : q = .ok { σ with inp := σ.inp.tail, cells := σ.cells.set c (l.set i (σ.inp.headD 0)) } := by rw [← HQ.out]; unfold tapQ; rw [HY.out]; simp [h0]
      have HH0 := Lib.hid h0
      generalize hv : σ.inp.headD 0 = v at *
      have HFIN : Hid (∀ w1 vi vo, TpP w B S.tb S.vi S.vo σ.inp.tail σ.out w1 vi vo → RetS B S w (.ok { σ with inp := σ.inp.tail, cells := σ.cells.set c (l.set i v) }) (.returned (.int .i64 0)) (w1.setCell ⟨g, i, none⟩ (.int .i64 v))) := Lib.hid fun w1 vi vo ht => ⟨rfl, H.out.tpWrite ht hc HHE.out v⟩
      have HCL : Hid (∀ w1 vi vo, TpP w B S.tb S.vi S.vo σ.inp.tail σ.out w1 vi vo → w1.cell? ⟨g, i, none⟩ = some (.int .i64 0) ∧ w1.frozen? ⟨g, i, none⟩ = false) := Lib.hid fun w1 vi vo ht => by obtain ⟨a, b, _⟩ := H.out.tpCell ht hgr hgl i; exact ⟨a.trans HGC.out, b.trans HGF.out⟩
      obtain ⟨st, tb, bv, bc, cv, vi, vo, fv, cb, iv, ro⟩ := S
      dsimp only at *
      obtain ⟨z_, T_, F_⟩ := HTOP.out.open_
      clear h0 hv HQ
      go_enter Tryz.func162, Tryz.ntmps162
      go_wp2_with fail
      refine HR.out.mono ?_
      rintro e w2 ⟨rfl, vi', vo', ht⟩
      obtain ⟨d0, g0⟩ := HCL.out w2 vi' vo' ht
      have HF := Lib.hid (HFIN.out w2 vi' vo' ht)
      clear ht T_ z_ F_ hgc hgf HR HTOP HTP H
      go_wp2_with fail
      go_ret
      exact HF.out
    · obtain rfl : q = .error 14 := by rw [← HQ.out]; unfold tapQ; rw [HY.out]; simp [h0, h1]
      have hyb : (y != 0) = true := bne_iff_ne.2 h1
      have HH0 := Lib.hid h0
      obtain ⟨v, hv⟩ : ∃ v, σ.inp.headD 0 = v := ⟨_, rfl⟩
      rw [hv] at HR
      have HUN : Hid (∀ w1 vi vo, TpP w B S.tb S.vi S.vo σ.inp.tail σ.out w1 vi vo → Fr S.O w w1 ∧ w1.cell? ⟨g, i, none⟩ = some (.int .i64 y) ∧ Blk w1 S.st 123 #[S.bv, S.bc, .int .i64 σ.base.locals, S.cv, .pointer (some ⟨S.tb, 0, none⟩)] ∧ Calls Tryz.prog 176 #[.pointer (some ⟨S.tb, 0, none⟩), .int .i64 v] w1 fun e w' => e = .returned (.int .i64 0) ∧ Fr S.O w w') := Lib.hid fun w1 vi vo ht => by
        obtain ⟨⟨S', q1, q2, q3, q4⟩, hF⟩ := H.out.tpTo ht
        obtain ⟨a, b, c⟩ := H.out.tpCell ht hgr hgl i
        refine ⟨hF, a.trans HGC.out, c, ?_⟩
        have hT := q1.tp
        rw [q3.2] at hT
        refine (c_Unread hT (Nat.le_trans hB hF.size) (by have := List.length_pos_iff.2 HH0.out; simp; omega) v).mono ?_
        rintro e w' ⟨rfl, vi2, vo2, ht2⟩
        rw [← q3.2] at ht2
        exact ⟨rfl, q2.fr hF (q1.tpTo ht2).2⟩
      obtain ⟨st, tb, bv, bc, cv, vi, vo, fv, cb, iv, ro⟩ := S
      dsimp only at *
      obtain ⟨z_, T_, F_⟩ := HTOP.out.open_
      clear h0 hv HQ
      go_enter Tryz.func162, Tryz.ntmps162
      go_wp2_with fail
      refine HR.out.mono ?_
      rintro e w2 ⟨rfl, vi', vo', ht⟩
      obtain ⟨hF, d0, hb2, hu⟩ := HUN.out w2 vi' vo' ht
      have HU := Lib.hid hu
      clear ht T_ z_ F_ hgc hgf HR HTOP HTP H hF hu
      obtain ⟨z_, T_, F_⟩ := hb2.open_
      clear hb2
      go_wp2_with fail
      refine HU.out.mono ?_
      rintro e w3 ⟨rfl, hf3⟩
      have HF3 := Lib.hid hf3
      clear hf3 T_ z_ F_ d0
      go_wp2_with fail
      go_ret
      exact ⟨rfl, by decide, HF3.out⟩
theorem c_unwrite (h : SOn w B S σ) (hB : B ≤ w.heap.size) (hi4 : σ.inp.length ≤ 4096) (ho4 : σ.out.length ≤ 4096) {c i g cp : Nat} {l : List Int} (hc : σ.cells[c]? = some l) (he : S.iv c = .slice (some ⟨g, 0, none⟩) l.length cp) (hi : i < l.length) : Calls Tryz.prog 162 #[.pointer (some ⟨S.st, 0, none⟩), .int .u8 49, .pointer (some ⟨g, i, none⟩)] w fun e w' => RetS B S w (tapQ 49 σ c i l) e w' := by
  obtain ⟨g', cp', e', hgl, hgr, hgc, hgf⟩ := h.place hc hi
  rw [he] at e'
  injection e' with e' _ _
  injection e' with e'
  injection e' with e' _ _
  subst e'
  have H := Lib.hid h
  have HTOP := Lib.hid h.top
  have HTP := Lib.hid h.tp
  obtain ⟨q, hq⟩ : ∃ q, tapQ 49 σ c i l = q := ⟨_, rfl⟩
  rw [hq]
  have HQ := Lib.hid hq
  have HGF := Lib.hid hgf
  obtain ⟨y, hy⟩ : ∃ y, l.getD i 0 = y := ⟨_, rfl⟩
  have HY := Lib.hid hy
  rw [hy] at hgc
  have HGC := Lib.hid hgc
  have HHE := Lib.hid he
  clear h hq hy he
  by_cases h0 : σ.out = []
  · have HR := Lib.hid (c_UnwriteF HTP.out h0)
    obtain rfl : q = .error 17 := by rw [← HQ.out]; simp [tapQ, h0]
    obtain ⟨st, tb, bv, bc, cv, vi, vo, fv, cb, iv, ro⟩ := S
    dsimp only at *
    obtain ⟨z_, T_, F_⟩ := HTOP.out.open_
    clear h0
    go_enter Tryz.func162, Tryz.ntmps162
    go_wp2_with fail
    refine HR.out.mono ?_
    rintro e w2 ⟨rfl, hb⟩
    have HB2 := Lib.hid hb
    clear hb T_ z_ F_ hgc hgf
    go_wp2_with fail
    go_ret
    exact ⟨rfl, by decide, Fr.of HB2.out⟩
  · have HR := Lib.hid (c_Unwrite HTP.out (List.length_pos_iff.2 h0) ho4)
    by_cases h1 : y = 0
    · subst h1
      obtain rfl : q = .ok { σ with out := σ.out.dropLast, cells := σ.cells.set c (l.set i (σ.out.getLastD 0)) } := by rw [← HQ.out]; unfold tapQ; rw [HY.out]; simp [h0]
      have HH0 := Lib.hid h0
      generalize hv : σ.out.getLastD 0 = v at *
      have HFIN : Hid (∀ w1 vi vo, TpP w B S.tb S.vi S.vo σ.inp σ.out.dropLast w1 vi vo → RetS B S w (.ok { σ with out := σ.out.dropLast, cells := σ.cells.set c (l.set i v) }) (.returned (.int .i64 0)) (w1.setCell ⟨g, i, none⟩ (.int .i64 v))) := Lib.hid fun w1 vi vo ht => ⟨rfl, H.out.tpWrite ht hc HHE.out v⟩
      have HCL : Hid (∀ w1 vi vo, TpP w B S.tb S.vi S.vo σ.inp σ.out.dropLast w1 vi vo → w1.cell? ⟨g, i, none⟩ = some (.int .i64 0) ∧ w1.frozen? ⟨g, i, none⟩ = false) := Lib.hid fun w1 vi vo ht => by obtain ⟨a, b, _⟩ := H.out.tpCell ht hgr hgl i; exact ⟨a.trans HGC.out, b.trans HGF.out⟩
      obtain ⟨st, tb, bv, bc, cv, vi, vo, fv, cb, iv, ro⟩ := S
      dsimp only at *
      obtain ⟨z_, T_, F_⟩ := HTOP.out.open_
      clear h0 hv HQ
      go_enter Tryz.func162, Tryz.ntmps162
      go_wp2_with fail
      refine HR.out.mono ?_
      rintro e w2 ⟨rfl, vi', vo', ht⟩
      obtain ⟨d0, g0⟩ := HCL.out w2 vi' vo' ht
      have HF := Lib.hid (HFIN.out w2 vi' vo' ht)
      clear ht T_ z_ F_ hgc hgf HR HTOP HTP H
      go_wp2_with fail
      go_ret
      exact HF.out
    · obtain rfl : q = .error 14 := by rw [← HQ.out]; unfold tapQ; rw [HY.out]; simp [h0, h1]
      have hyb : (y != 0) = true := bne_iff_ne.2 h1
      have HH0 := Lib.hid h0
      obtain ⟨v, hv⟩ : ∃ v, σ.out.getLastD 0 = v := ⟨_, rfl⟩
      rw [hv] at HR
      have HUN : Hid (∀ w1 vi vo, TpP w B S.tb S.vi S.vo σ.inp σ.out.dropLast w1 vi vo → Fr S.O w w1 ∧ w1.cell? ⟨g, i, none⟩ = some (.int .i64 y) ∧ Blk w1 S.st 123 #[S.bv, S.bc, .int .i64 σ.base.locals, S.cv, .pointer (some ⟨S.tb, 0, none⟩)] ∧ Calls Tryz.prog 178 #[.pointer (some ⟨S.tb, 0, none⟩), .int .i64 v] w1 fun e w' => e = .returned (.int .i64 0) ∧ Fr S.O w w') := Lib.hid fun w1 vi vo ht => by
        obtain ⟨⟨S', q1, q2, q3, q4⟩, hF⟩ := H.out.tpTo ht
        obtain ⟨a, b, c⟩ := H.out.tpCell ht hgr hgl i
        refine ⟨hF, a.trans HGC.out, c, ?_⟩
        have hT := q1.tp
        rw [q3.2] at hT
        refine (c_Write hT (Nat.le_trans hB hF.size) (by have := List.length_pos_iff.2 HH0.out; simp; omega) v).mono ?_
        rintro e w' ⟨rfl, vi2, vo2, ht2⟩
        rw [← q3.2] at ht2
        exact ⟨rfl, q2.fr hF (q1.tpTo ht2).2⟩
      obtain ⟨st, tb, bv, bc, cv, vi, vo, fv, cb, iv, ro⟩ := S
      dsimp only at *
      obtain ⟨z_, T_, F_⟩ := HTOP.out.open_
      clear h0 hv HQ
      go_enter Tryz.func162, Tryz.ntmps162
      go_wp2_with fail
      refine HR.out.mono ?_
      rintro e w2 ⟨rfl, vi', vo', ht⟩
      obtain ⟨hF, d0, hb2, hu⟩ := HUN.out w2 vi' vo' ht
      have HU := Lib.hid hu
      clear ht T_ z_ F_ hgc hgf HR HTOP HTP H hF hu
      obtain ⟨z_, T_, F_⟩ := hb2.open_
      clear hb2
      go_wp2_with fail
      refine HU.out.mono ?_
      rintro e w3 ⟨rfl, hf3⟩
      have HF3 := Lib.hid hf3
      clear hf3 T_ z_ F_ d0
      go_wp2_with fail
      go_ret
      exact ⟨rfl, by decide, HF3.out⟩
theorem c_unread (h : SOn w B S σ) (hB : B ≤ w.heap.size) (hi4 : σ.inp.length ≤ 4096) (ho4 : σ.out.length ≤ 4096) {c i g cp : Nat} {l : List Int} (hc : σ.cells[c]? = some l) (he : S.iv c = .slice (some ⟨g, 0, none⟩) l.length cp) (hi : i < l.length) : Calls Tryz.prog 162 #[.pointer (some ⟨S.st, 0, none⟩), .int .u8 47, .pointer (some ⟨g, i, none⟩)] w fun e w' => RetS B S w (tapQ 47 σ c i l) e w' := by
  obtain ⟨g', cp', e', hgl, hgr, hgc, hgf⟩ := h.place hc hi
  rw [he] at e'
  injection e' with e' _ _
  injection e' with e'
  injection e' with e' _ _
  subst e'
  have H := Lib.hid h
  have HTOP := Lib.hid h.top
  obtain ⟨q, hq⟩ : ∃ q, tapQ 47 σ c i l = q := ⟨_, rfl⟩
  rw [hq]
  have HQ := Lib.hid hq
  have HGF := Lib.hid hgf
  obtain ⟨y, hy⟩ : ∃ y, l.getD i 0 = y := ⟨_, rfl⟩
  have HY := Lib.hid hy
  rw [hy] at hgc
  have HGC := Lib.hid hgc
  have HHE := Lib.hid he
  have HHH := Lib.hid (fun W (hW : Below w.heap.size w W) => (h.next hW).tp)
  clear h hq hy he
  by_cases h0 : 4096 ≤ σ.inp.length
  · have HR := Lib.hid (fun W hW => c_UnreadF (HHH.out W hW) h0 y)
    obtain rfl : q = .error 5 := by rw [← HQ.out]; unfold tapQ; simp [h0]
    obtain ⟨st, tb, bv, bc, cv, vi, vo, fv, cb, iv, ro⟩ := S
    dsimp only at *
    obtain ⟨z_, T_, F_⟩ := HTOP.out.open_
    clear h0
    go_enter Tryz.func162, Tryz.ntmps162
    go_wp2_with fail
    go_still_tail 7, (by kernel_rfl)
    change wpList _ _ _ _ _ w.drew
    go_wp2_with fail
    refine (HR.out _ (by go_grown)).mono ?_
    rintro e w2 ⟨rfl, hb⟩
    have HB2 : Hid (Below w.heap.size w w2) := Lib.hid (Below.next (by go_grown) hb)
    clear hb T_ z_ F_ hgc hgf
    go_wp2_with fail
    go_ret
    exact ⟨rfl, by decide, Fr.of HB2.out⟩
  · have HR := Lib.hid (fun W (hW : Below w.heap.size w W) => c_Unread (HHH.out W hW) (Nat.le_trans hB hW.size) (by omega) y)
    obtain rfl : q = .ok { σ with inp := y :: σ.inp, cells := σ.cells.set c (l.set i 0) } := by rw [← HQ.out]; unfold tapQ; rw [HY.out]; simp [h0]
    have HFIN : Hid (∀ w1 vi vo, TpP w B S.tb S.vi S.vo (y :: σ.inp) σ.out w1 vi vo → RetS B S w (.ok { σ with inp := y :: σ.inp, cells := σ.cells.set c (l.set i 0) }) (.returned (.int .i64 0)) (w1.setCell ⟨g, i, none⟩ (.int .i64 0))) := Lib.hid fun w1 vi vo ht => ⟨rfl, H.out.tpWrite ht hc HHE.out 0⟩
    have HCL : Hid (∀ w1 vi vo, TpP w B S.tb S.vi S.vo (y :: σ.inp) σ.out w1 vi vo → w1.cell? ⟨g, i, none⟩ = some (.int .i64 y) ∧ w1.frozen? ⟨g, i, none⟩ = false) := Lib.hid fun w1 vi vo ht => by obtain ⟨a, b, _⟩ := H.out.tpCell ht hgr hgl i; exact ⟨a.trans HGC.out, b.trans HGF.out⟩
    obtain ⟨st, tb, bv, bc, cv, vi, vo, fv, cb, iv, ro⟩ := S
    dsimp only at *
    obtain ⟨z_, T_, F_⟩ := HTOP.out.open_
    clear h0 HQ
    go_enter Tryz.func162, Tryz.ntmps162
    go_wp2_with fail
    go_still_tail 7, (by kernel_rfl)
    change wpList _ _ _ _ _ w.drew
    go_wp2_with fail
    refine (HR.out _ (by go_grown)).mono ?_
    rintro e w2 ⟨rfl, vi', vo', ht0⟩
    have ht := TpP.pre (w := w) (by go_grown) ht0
    obtain ⟨d0, g0⟩ := HCL.out w2 vi' vo' ht
    have HF := Lib.hid (HFIN.out w2 vi' vo' ht)
    clear ht ht0 T_ z_ F_ hgc hgf HR HTOP HHH H
    go_wp2_with fail
    go_ret
    exact HF.out
theorem c_write (h : SOn w B S σ) (hB : B ≤ w.heap.size) (hi4 : σ.inp.length ≤ 4096) (ho4 : σ.out.length ≤ 4096) {c i g cp : Nat} {l : List Int} (hc : σ.cells[c]? = some l) (he : S.iv c = .slice (some ⟨g, 0, none⟩) l.length cp) (hi : i < l.length) : Calls Tryz.prog 162 #[.pointer (some ⟨S.st, 0, none⟩), .int .u8 48, .pointer (some ⟨g, i, none⟩)] w fun e w' => RetS B S w (tapQ 48 σ c i l) e w' := by
  obtain ⟨g', cp', e', hgl, hgr, hgc, hgf⟩ := h.place hc hi
  rw [he] at e'
  injection e' with e' _ _
  injection e' with e'
  injection e' with e' _ _
  subst e'
  have H := Lib.hid h
  have HTOP := Lib.hid h.top
  obtain ⟨q, hq⟩ : ∃ q, tapQ 48 σ c i l = q := ⟨_, rfl⟩
  rw [hq]
  have HQ := Lib.hid hq
  have HGF := Lib.hid hgf
  obtain ⟨y, hy⟩ : ∃ y, l.getD i 0 = y := ⟨_, rfl⟩
  have HY := Lib.hid hy
  rw [hy] at hgc
  have HGC := Lib.hid hgc
  have HHE := Lib.hid he
  have HHH := Lib.hid (fun W (hW : Below w.heap.size w W) => (h.next hW).tp)
  clear h hq hy he
  by_cases h0 : 4096 ≤ σ.out.length
  · have HR := Lib.hid (fun W hW => c_WriteF (HHH.out W hW) h0 y)
    obtain rfl : q = .error 5 := by rw [← HQ.out]; unfold tapQ; simp [h0]
    obtain ⟨st, tb, bv, bc, cv, vi, vo, fv, cb, iv, ro⟩ := S
    dsimp only at *
    obtain ⟨z_, T_, F_⟩ := HTOP.out.open_
    clear h0
    go_enter Tryz.func162, Tryz.ntmps162
    go_wp2_with fail
    go_still_tail 7, (by kernel_rfl)
    change wpList _ _ _ _ _ w.drew
    go_wp2_with fail
    refine (HR.out _ (by go_grown)).mono ?_
    rintro e w2 ⟨rfl, hb⟩
    have HB2 : Hid (Below w.heap.size w w2) := Lib.hid (Below.next (by go_grown) hb)
    clear hb T_ z_ F_ hgc hgf
    go_wp2_with fail
    go_ret
    exact ⟨rfl, by decide, Fr.of HB2.out⟩
  · have HR := Lib.hid (fun W (hW : Below w.heap.size w W) => c_Write (HHH.out W hW) (Nat.le_trans hB hW.size) (by omega) y)
    obtain rfl : q = .ok { σ with out := σ.out ++ [y], cells := σ.cells.set c (l.set i 0) } := by rw [← HQ.out]; unfold tapQ; rw [HY.out]; simp [h0]
    have HFIN : Hid (∀ w1 vi vo, TpP w B S.tb S.vi S.vo σ.inp (σ.out ++ [y]) w1 vi vo → RetS B S w (.ok { σ with out := σ.out ++ [y], cells := σ.cells.set c (l.set i 0) }) (.returned (.int .i64 0)) (w1.setCell ⟨g, i, none⟩ (.int .i64 0))) := Lib.hid fun w1 vi vo ht => ⟨rfl, H.out.tpWrite ht hc HHE.out 0⟩
    have HCL : Hid (∀ w1 vi vo, TpP w B S.tb S.vi S.vo σ.inp (σ.out ++ [y]) w1 vi vo → w1.cell? ⟨g, i, none⟩ = some (.int .i64 y) ∧ w1.frozen? ⟨g, i, none⟩ = false) := Lib.hid fun w1 vi vo ht => by obtain ⟨a, b, _⟩ := H.out.tpCell ht hgr hgl i; exact ⟨a.trans HGC.out, b.trans HGF.out⟩
    obtain ⟨st, tb, bv, bc, cv, vi, vo, fv, cb, iv, ro⟩ := S
    dsimp only at *
    obtain ⟨z_, T_, F_⟩ := HTOP.out.open_
    clear h0 HQ
    go_enter Tryz.func162, Tryz.ntmps162
    go_wp2_with fail
    go_still_tail 7, (by kernel_rfl)
    change wpList _ _ _ _ _ w.drew
    go_wp2_with fail
    refine (HR.out _ (by go_grown)).mono ?_
    rintro e w2 ⟨rfl, vi', vo', ht0⟩
    have ht := TpP.pre (w := w) (by go_grown) ht0
    obtain ⟨d0, g0⟩ := HCL.out w2 vi' vo' ht
    have HF := Lib.hid (HFIN.out w2 vi' vo' ht)
    clear ht ht0 T_ z_ F_ hgc hgf HR HTOP HHH H
    go_wp2_with fail
    go_ret
    exact HF.out
end
end Go.Proofs.YtakfdnnlhjhcfaaGreatDoor
