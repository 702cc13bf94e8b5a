/- WhOp WhLv WhCl. -/
import Derived.Test.YtakfdnnlhjhcfaaGreatDoorM21
import Derived.BigRegion
set_option linter.unusedVariables false
set_option linter.unusedSimpArgs false
set_option linter.unusedSimpArgs false
set_option maxRecDepth 100000
set_option maxHeartbeats 4000000
namespace Bk
open Go Go.RowKit
theorem set_same {cs : Array Value} {i : Nat} {v : Value} (h : cs[i]? = some v) : cs.setIfInBounds i v = cs := by
  obtain ⟨hlt, he⟩ := Array.getElem?_eq_some_iff.1 h
  rw [← he]; simp [Array.setIfInBounds, hlt]
theorem PSt.setCur2 (σ : PSt) (f g : PFr) : (σ.setCur f).setCur g = σ.setCur g := by
  unfold PSt.setCur
  by_cases h : σ.calls = []
  · simp [h]
  · simp [h, List.set_eq_nil_iff]
theorem PSt.cur_setCur (σ : PSt) (f : PFr) : (σ.setCur f).cur = f := by
  unfold PSt.setCur PSt.cur
  by_cases h : σ.calls = []
  · simp [h]
  · have h0 : 0 < σ.calls.length := List.length_pos_iff.2 h
    simp only [h, if_false]
    rw [List.getLastD_eq_getLast?, List.getLast?_eq_getElem?, List.length_set, List.getElem?_set_self (by omega)]
    rfl
end Bk
namespace Go.Proofs.YtakfdnnlhjhcfaaGreatDoor
section
open Go.RowKit Bk
section
variable {w w' : World} {B : Nat} {S : Sv} {σ : PSt} {kd : Nat → Int} {m : Nat}
theorem SOn.rows (h : SOn w B S σ) : (S.fx σ).1.ownBlock ≠ some (S.fb σ) ∧ (S.fx σ).2.ownBlock ≠ some (S.fb σ) ∧ ∀ k, (S.fx σ).1.ownBlock = some k → (S.fx σ).2.ownBlock = some k → False := by
  obtain ⟨hf, _, _, hr, _⟩ := h.cur
  refine ⟨fun e => ?_, fun e => ?_, fun k h1 h2 => ?_⟩
  · have := hf.rv _ e; rcases hr with h | h <;> rw [h] at this <;> cases this
  · have := hf.rc _ e; rcases hr with h | h <;> rw [h] at this <;> cases this
  · have a := hf.rv k h1; have b := hf.rc k h2; rw [a] at b; cases b
theorem SOn.setLoc (h : SOn w B S σ) (n : Nat) : ∃ S', SOn (w.setCell ⟨S.fb σ, σ.fo + 2, none⟩ (.int .i64 n)) B S' (σ.setCur { σ.cur with locals := n }) ∧ S.Ext S' w ∧ Fr S.O w (w.setCell ⟨S.fb σ, σ.fo + 2, none⟩ (.int .i64 n)) := by
  obtain ⟨hf, _, _, hr, _⟩ := h.cur
  obtain ⟨n1, n2, n3⟩ := h.rows
  have hF : Fr (fun k => k = S.fb σ) w (w.setCell ⟨S.fb σ, σ.fo + 2, none⟩ (.int .i64 n)) := (Fr.refl (fun k => k = S.fb σ) w).set (p := ⟨S.fb σ, σ.fo + 2, none⟩) rfl _
  obtain ⟨t, cs, hb, q0, q1, q2⟩ := h.fbBlk
  obtain ⟨S', r1, r2, r3, _⟩ := h.setFr (f' := { σ.cur with locals := n }) (hF.mono fun k hk => .inr (.inr hk)) (fun t' cs' hb' => by
    have e1 := hb
    unfold Blk at e1 hb'
    rw [e1] at hb'
    injection hb' with hb'
    injection hb' with a1 a2
    subst a1; subst a2
    rw [set_same q0, set_same q1]
    exact hb.set_ _ _) (own_fr hf.vars hF fun k hk e => n1 (by rw [hk, e])) (own_fr hf.refs hF fun k hk e => n2 (by rw [hk, e])) (fun k hk => .inl (hf.rv k hk)) (fun k hk => .inl (hf.rc k hk)) n3
  exact ⟨S', r1, r2, r3⟩
theorem SOn.addTo (h : SOn w B S σ) {c : Nat} {u : Vr} {v' c' : Value} (ha : AddP w B (S.fb σ) σ.fo (S.fx σ).1 (S.fx σ).2 σ.cur.vars (S.ptrs σ.cur.idx) u (.pointer (some ⟨S.cb c, 0, none⟩)) w' v' c') :
    ∃ S', SOn w' B S' (σ.setCur ⟨σ.cur.vars ++ [u], σ.cur.idx ++ [c], σ.cur.locals⟩) ∧ S.Ext S' w ∧ Fr S.O w w' ∧ S'.cb = S.cb ∧ S'.fb (σ.setCur ⟨σ.cur.vars ++ [u], σ.cur.idx ++ [c], σ.cur.locals⟩) = S.fb σ ∧ (σ.setCur ⟨σ.cur.vars ++ [u], σ.cur.idx ++ [c], σ.cur.locals⟩).fo = σ.fo := by
  obtain ⟨hf, _, _, hr, _⟩ := h.cur
  obtain ⟨t, cs, hb, q0, q1, q2⟩ := h.fbBlk
  have hlen : (S.ptrs σ.cur.idx).length = σ.cur.idx.length := by simp [Sv.ptrs]
  obtain ⟨S', r1, r2, r3, r4, r5, r6, _⟩ := h.setFr (f' := ⟨σ.cur.vars ++ [u], σ.cur.idx ++ [c], σ.cur.locals⟩) (ha.fr.mono fun k hk => by
      rcases hk with hk | hk | hk
      · exact .inr (.inr hk)
      · exact .inl (hf.rv k hk)
      · exact .inr (.inl (hf.rc k hk))) (fun t' cs' hb' => by
    have e1 := hb
    have e2 := ha.blk _ _ hb
    unfold Blk at e1 hb'
    rw [e1] at hb'
    injection hb' with hb'
    injection hb' with a1 a2
    subst a1; subst a2
    rw [set_same (i := σ.fo + 2) (by rw [Array.getElem?_setIfInBounds, if_neg (by omega), Array.getElem?_setIfInBounds, if_neg (by omega)]; exact q2)]
    exact e2) (by have := ha.vars; simpa using this) (by have := ha.refs; rw [hlen] at this; show w'.ownsRow B _ 1 c' (σ.cur.idx ++ [c]).length (S.ptrs (σ.cur.idx ++ [c])); rw [show S.ptrs (σ.cur.idx ++ [c]) = S.ptrs σ.cur.idx ++ [.pointer (some ⟨S.cb c, 0, none⟩)] by simp [Sv.ptrs], List.length_append]; exact this) (fun k hk => (ha.hv k hk).imp (hf.rv k) id) (fun k hk => (ha.hc k hk).imp (hf.rc k) id) ha.ne
  exact ⟨S', r1, r2, r3, r4, r5, r6⟩
theorem c_addS (h : SOn w B S σ) (hB : B ≤ w.heap.size) (hbd : σ.cur.vars.length ≤ 10000) (hl : σ.cur.idx.length = σ.cur.vars.length) (u : Vr) (c : Nat) :
    Calls Tryz.prog 63 #[.pointer (some ⟨S.fb σ, σ.fo, none⟩), .agg #[.string u.nm, .int .u8 u.k, .int .i64 u.len], .pointer (some ⟨S.cb c, 0, none⟩)] w fun e w' => e = .returned (.tuple #[]) ∧ ∃ S', SOn w' B S' (σ.setCur ⟨σ.cur.vars ++ [u], σ.cur.idx ++ [c], σ.cur.locals⟩) ∧ S.Ext S' w ∧ Fr S.O w w' ∧ S'.cb = S.cb ∧ S'.fb (σ.setCur ⟨σ.cur.vars ++ [u], σ.cur.idx ++ [c], σ.cur.locals⟩) = S.fb σ ∧ (σ.setCur ⟨σ.cur.vars ++ [u], σ.cur.idx ++ [c], σ.cur.locals⟩).fo = σ.fo := by
  obtain ⟨hf, _, _, hr, _⟩ := h.cur
  obtain ⟨t, cs, hb, q0, q1, q2⟩ := h.fbBlk
  obtain ⟨n1, n2, n3⟩ := h.rows
  have hlen : (S.ptrs σ.cur.idx).length = σ.cur.idx.length := by simp [Sv.ptrs]
  refine (r_add hB hb q0 q1 hf.vars (by rw [hlen]; exact hf.refs) n1 n2 n3 (by omega) (by omega) u (S.cb c)).mono ?_
  rintro e w' ⟨rfl, v', c', ha⟩
  exact ⟨rfl, h.addTo ha⟩
theorem own_nil0 {w : World} {base : Nat} {t : TypeId} : w.ownsRow base t 1 (.slice none 0 0) 0 [] := ⟨rfl, .inl ⟨rfl, rfl⟩⟩
theorem own_one {w : World} {base g : Nat} {t : TypeId} {v : Value} (h : Blk w g t #[v]) (hg : base ≤ g) : w.ownsRow base t 1 (.slice (some ⟨g, 0, none⟩) 1 1) 1 [v] :=
  own_of_get h hg (Nat.le_refl _) (by decide) rfl rfl fun j u hj => by simpa using hj
theorem open_join (h : SOn w B S σ) (hB : B ≤ w.heap.size) (ho : σ.Ok kd m) (hm : m ≤ 5000) {W : World} (hb : Below w.heap.size w W) {g : Nat} {val : Value} {l : List Int} (hg : w.heap.size ≤ g) (hbl : Blk W g 127 #[val]) (hrow : W.ownsRow w.heap.size 3 1 val l.length (intCells l)) (hne : val.ownBlock ≠ some g) (u : Vr) :
    Calls Tryz.prog 63 #[.pointer (some ⟨S.fb σ, σ.fo, none⟩), .agg #[.string u.nm, .int .u8 u.k, .int .i64 u.len], .pointer (some ⟨g, 0, none⟩)] W fun e w' => e = .returned (.tuple #[]) ∧ w'.cell? ⟨S.fb σ, σ.fo + 2, none⟩ = some (.int .i64 σ.cur.locals) ∧ w'.frozen? ⟨S.fb σ, σ.fo + 2, none⟩ = false ∧ S.fb σ < w'.heap.size ∧ (∃ S', SOn (w'.setCell ⟨S.fb σ, σ.fo + 2, none⟩ (.int .i64 (σ.cur.locals + 1 : Nat))) B S' (({ σ with cells := σ.cells ++ [l] } : PSt).setCur ⟨σ.cur.vars ++ [u], σ.cur.idx ++ [σ.cells.length], σ.cur.locals + 1⟩) ∧ S.Ext S' w) ∧ Fr S.O w (w'.setCell ⟨S.fb σ, σ.fo + 2, none⟩ (.int .i64 (σ.cur.locals + 1 : Nat))) := by
  have hI : ∀ f, f = σ.base ∨ f ∈ σ.calls → ∀ i, i ∈ f.idx → i < σ.cells.length := fun f hf i hi => by
    have hok : f.Ok kd σ.cells.length m := by
      rcases hf with rfl | hf
      · exact ho.base
      · exact ho.calls f hf
    obtain ⟨j, hj⟩ := List.mem_iff_getElem?.1 hi
    have hjl := (List.getElem?_eq_some_iff.1 hj).1
    have := hok.len
    exact (hok.kind j _ i (List.getElem?_eq_getElem (by omega)) hj).1
  obtain ⟨S1, h1, x1, c1, f1, v1⟩ := h.addCell hI hb hg hB hbl hrow hne
  have hB1 : B ≤ W.heap.size := Nat.le_trans hB hb.size
  have hcu : ({ σ with cells := σ.cells ++ [l] } : PSt).cur = σ.cur := rfl
  have hbd := ho.cur.bd
  have hc := c_addS h1 hB1 (by rw [hcu]; omega) (by rw [hcu]; exact ho.cur.len) u σ.cells.length
  rw [f1, c1] at hc
  refine hc.mono ?_
  rintro e w' ⟨rfl, S2, h2, x2, r2, c2, f2, o2⟩
  have hs : W.heap.size ≤ w'.heap.size := r2.size
  obtain ⟨hf, ⟨_, _, q3⟩, _⟩ := h2.cur
  obtain ⟨t, cs, hbk, _, _, _⟩ := h2.fbBlk
  have hcu2 : (({ σ with cells := σ.cells ++ [l] } : PSt).setCur ⟨({ σ with cells := σ.cells ++ [l] } : PSt).cur.vars ++ [u], ({ σ with cells := σ.cells ++ [l] } : PSt).cur.idx ++ [σ.cells.length], ({ σ with cells := σ.cells ++ [l] } : PSt).cur.locals⟩).cur = ⟨σ.cur.vars ++ [u], σ.cur.idx ++ [σ.cells.length], σ.cur.locals⟩ := PSt.cur_setCur _ _
  obtain ⟨S3, h3, x3, r3⟩ := h2.setLoc (σ.cur.locals + 1)
  rw [f2, o2] at h3 r3 q3
  rw [f2] at hbk
  rw [hcu2] at q3 h3
  rw [PSt.setCur2] at h3
  have x12 : S.Ext S2 w := x1.trans x2 hb.size
  refine ⟨rfl, q3, hbk.frozen _, hbk.lt, ⟨S3, h3, x12.trans x3 (Nat.le_trans hb.size hs)⟩, ?_⟩
  have r12 : Fr S.O w w' := x1.fr (Fr.of hb) r2
  exact x12.fr r12 r3
theorem c_Open (h : SOn w B S σ) (hB : B ≤ w.heap.size) (ho : σ.Ok kd m) (hm : m ≤ 5000) (x : ByteArray) (k : Int) (hk : k = 1 ∨ k = 3) (v : Int) (hloc : σ.cur.locals ≤ 10000) :
    Calls Tryz.prog 105 #[.pointer (some ⟨S.st, 0, none⟩), .agg #[.string x, .int .u8 k, .int .i64 0], .int .i64 v] w fun e w' => RetS B S w (openM ⟨x, k, 0⟩ (if k = 1 then [v] else []) σ) e w' := by
  have HCU : Hid (∀ W, Below w.heap.size w W → Calls Tryz.prog 130 #[.pointer (some ⟨S.st, 0, none⟩)] W fun e w' => e = .returned (.pointer (some ⟨S.fb σ, σ.fo, none⟩)) ∧ W = w') := Lib.hid fun W hW => (c_current (h.next hW) ho.nc).mono fun e w' h => ⟨h.1, h.2.symm⟩
  have HFI : Hid (∀ W, Below w.heap.size w W → Calls Tryz.prog 131 #[.pointer (some ⟨S.fb σ, σ.fo, none⟩), .string x] W fun e w' => e = .returned (.int .i64 (findI x σ.cur.vars)) ∧ W = w') := Lib.hid fun W hW => (c_find (h.next hW) (by have := ho.cur.bd; omega) x).mono fun e w' h => ⟨h.1, h.2.symm⟩
  have H := Lib.hid h; have HO := Lib.hid ho
  unfold openM
  cases hs : findV x σ.cur.vars with
  | some i =>
    rw [if_pos (show (some i).isSome = true from rfl)]
    rw [findI_some hs] at HFI
    generalize S.fb σ = fb at *
    generalize σ.fo = fo at *
    clear h ho hs
    rcases hk with rfl | rfl
    all_goals
      go_enter Tryz.func105, Tryz.ntmps105
      go_upto_region 1 with fail
      refine wp_nameE ?_
      intro w1 hw1
      have hb1 : Below w.heap.size w w1 := (by rw [hw1]; exact (by go_grown))
      have K1 := Lib.hid (Blk.new w 72 #[.string x, .int .u8 1, .int .i64 0])
      have K3 := Lib.hid (Blk.new w 72 #[.string x, .int .u8 3, .int .i64 0])
      have HB1 := Lib.hid hb1
      first
        | (rw [← hw1] at K1; obtain ⟨z_1, T_1, F_1⟩ := K1.out.open_)
        | (rw [← hw1] at K3; obtain ⟨z_1, T_1, F_1⟩ := K3.out.open_)
      clear hw1 hb1 K1 K3
      go_wp2_with fail
      refine (HCU.out w1 HB1.out).mono ?_
      rintro en w2 ⟨rfl, rfl⟩
      go_wp2_with fail
      refine (HFI.out w1 HB1.out).mono ?_
      rintro en w2 ⟨rfl, rfl⟩
      go_wp2_with fail
      go_ret
      exact ⟨rfl, by decide, Fr.of HB1.out⟩
  | none =>
    rw [if_neg (by simp)]
    rw [findI_none hs] at HFI
    have HAD : Hid (∀ W : World, Below w.heap.size w W → ∀ (g : Nat) (val : Value) (l : List Int), w.heap.size ≤ g → Blk W g 127 #[val] → W.ownsRow w.heap.size 3 1 val l.length (intCells l) → val.ownBlock ≠ some g →
        Calls Tryz.prog 63 #[.pointer (some ⟨S.fb σ, σ.fo, none⟩), .agg #[.string x, .int .u8 k, .int .i64 0], .pointer (some ⟨g, 0, none⟩)] W fun e w' => e = .returned (.tuple #[]) ∧ w'.cell? ⟨S.fb σ, σ.fo + 2, none⟩ = some (.int .i64 σ.cur.locals) ∧ w'.frozen? ⟨S.fb σ, σ.fo + 2, none⟩ = false ∧ S.fb σ < w'.heap.size ∧ (∃ S', SOn (w'.setCell ⟨S.fb σ, σ.fo + 2, none⟩ (.int .i64 (σ.cur.locals + 1 : Nat))) B S' (({ σ with cells := σ.cells ++ [l] } : PSt).setCur ⟨σ.cur.vars ++ [⟨x, k, 0⟩], σ.cur.idx ++ [σ.cells.length], σ.cur.locals + 1⟩) ∧ S.Ext S' w) ∧ Fr S.O w (w'.setCell ⟨S.fb σ, σ.fo + 2, none⟩ (.int .i64 (σ.cur.locals + 1 : Nat)))) :=
      Lib.hid fun W hW g val l hg hbl hrow hne => open_join H.out hB HO.out hm hW hg hbl hrow hne ⟨x, k, 0⟩
    have HLW : IntKind.i64.wrap ((σ.cur.locals : Int) + 1) = (σ.cur.locals : Int) + 1 := wrap_small _ (by omega) (by omega)
    generalize S.fb σ = fb at *
    generalize σ.fo = fo at *
    generalize σ.cur.locals = lc at *
    clear h ho hs
    have HR : ∀ e w', (e = .returned (.int .i64 0) ∧ (∃ S', SOn w' B S' (({ σ with cells := σ.cells ++ [if k = 1 then [v] else []] } : PSt).setCur ⟨σ.cur.vars ++ [⟨x, k, 0⟩], σ.cur.idx ++ [σ.cells.length], lc + 1⟩) ∧ S.Ext S' w) ∧ Fr S.O w w') → RetS B S w (.ok (({ σ with cells := σ.cells ++ [if k = 1 then [v] else []] } : PSt).setCur ⟨σ.cur.vars ++ [⟨x, k, 0⟩], σ.cur.idx ++ [σ.cells.length], lc + 1⟩)) e w' := fun e w' h => h
    replace HR := Lib.hid HR
    rcases hk with rfl | rfl
    · rw [if_pos rfl] at *
      go_enter Tryz.func105, Tryz.ntmps105
      go_upto_region 1 with fail
      refine wp_nameE ?_
      intro w1 hw1
      have hb1 : Below w.heap.size w w1 := (by rw [hw1]; exact (by go_grown))
      have K1 := Lib.hid (Blk.new w 72 #[.string x, .int .u8 1, .int .i64 0])
      have HB1 := Lib.hid hb1
      have hs1 := hb1.size
      rw [← hw1] at K1; obtain ⟨z_1, T_1, F_1⟩ := K1.out.open_
      clear hw1 hb1 K1
      go_wp2_with fail
      refine (HCU.out w1 HB1.out).mono ?_
      rintro en w2 ⟨rfl, rfl⟩
      go_wp2_with fail
      refine (HFI.out w1 HB1.out).mono ?_
      rintro en w2 ⟨rfl, rfl⟩
      go_wp2_with fail
      refine (HAD.out _ (HB1.out.trans (by go_grown)) w1.heap.size (.slice (some ⟨w1.heap.size + 1, 0, none⟩) 1 1) [v] hs1 blkA (own_one blkA (by omega)) (by simp [Value.ownBlock])).mono ?_
      rintro en w2 ⟨rfl, hc, hf, hl, hj⟩
      have HJ := Lib.hid hj
      clear hj
      go_wp2_with fail
      go_ret
      exact HR.out _ _ ⟨rfl, HJ.out⟩
    · rw [if_neg (by decide)] at *
      go_enter Tryz.func105, Tryz.ntmps105
      go_upto_region 1 with fail
      refine wp_nameE ?_
      intro w1 hw1
      have hb1 : Below w.heap.size w w1 := (by rw [hw1]; exact (by go_grown))
      have K1 := Lib.hid (Blk.new w 72 #[.string x, .int .u8 3, .int .i64 0])
      have HB1 := Lib.hid hb1
      have hs1 := hb1.size
      rw [← hw1] at K1; obtain ⟨z_1, T_1, F_1⟩ := K1.out.open_
      clear hw1 hb1 K1
      go_wp2_with fail
      refine (HCU.out w1 HB1.out).mono ?_
      rintro en w2 ⟨rfl, rfl⟩
      go_wp2_with fail
      refine (HFI.out w1 HB1.out).mono ?_
      rintro en w2 ⟨rfl, rfl⟩
      go_wp2_with fail
      refine (HAD.out _ (HB1.out.trans (by go_grown)) w1.heap.size (.slice none 0 0) [] hs1 blkA own_nil0 (by simp [Value.ownBlock])).mono ?_
      rintro en w2 ⟨rfl, hc, hf, hl, hj⟩
      have HJ := Lib.hid hj
      clear hj
      go_wp2_with fail
      go_ret
      exact HR.out _ _ ⟨rfl, HJ.out⟩
end
end
section
open Go.RowKit Bk
section
variable {w w' : World} {B : Nat} {S : Sv} {σ : PSt} {kd : Nat → Int} {m : Nat}
theorem c_Leave (h : SOn w B S σ) (ho : σ.Ok kd m) (hm : m ≤ 5000) :
    Calls Tryz.prog 133 #[.pointer (some ⟨S.st, 0, none⟩)] w fun e w' => RetS B S w (leaveM σ) e w' := by
  have H := Lib.hid h
  have hlt := h.lt_st
  unfold leaveM
  by_cases hn : σ.calls = []
  · rw [if_pos (.inl hn)]
    obtain ⟨A, cp, e⟩ := own_form h.calls
    obtain ⟨z_, T_, F_⟩ := h.top.open_
    rw [e, hn] at T_
    clear h ho H
    obtain ⟨st, tb, bv, bc, cv, vi, vo, fv, cb, iv, ro⟩ := S
    dsimp only at *
    clear e
    go_enter Tryz.func133, Tryz.ntmps133
    go_wp2_with fail
    go_ret
    exact ⟨rfl, by decide, Fr.of (by go_grown)⟩
  · obtain ⟨g, cp, x, f, e, _, _, h0⟩ := h.calls_some hn
    have HC : Hid (Calls Tryz.prog 130 #[.pointer (some ⟨S.st, 0, none⟩)] w fun e w' => e = .returned (.pointer (some ⟨S.fb σ, σ.fo, none⟩)) ∧ w = w') := Lib.hid ((c_current h ho.nc).mono fun e w' h => ⟨h.1, h.2.symm⟩)
    have q3 := h.cur.2.1.2.2
    have hnc := ho.nc
    have HT := Lib.hid h.top
    have HE := Lib.hid e
    obtain ⟨z_, T_, F_⟩ := h.top.open_
    rw [e] at T_
    have h1 : (((σ.calls.length : Nat) : Int) == 0) = false := beq_eq_false_iff_ne.2 (by omega)
    have hw1 : IntKind.i64.wrap (((σ.calls.length : Nat) : Int) - 1) = ((σ.calls.length - 1 : Nat) : Int) := (wrap_small _ (by omega) (by omega)).trans (by omega)
    by_cases hl : 0 < σ.cur.locals
    · rw [if_pos (.inr hl)]
      have h2 : (decide ((0 : Int) < (σ.cur.locals : Int))) = true := decide_eq_true (by omega)
      generalize S.fb σ = fb at *
      generalize σ.fo = fo at *
      generalize σ.cur.locals = lc at *
      generalize σ.calls.length = nc at *
      clear h ho H HT
      obtain ⟨st, tb, bv, bc, cv, vi, vo, fv, cb, iv, ro⟩ := S
      dsimp only at *
      clear e
      go_enter Tryz.func133, Tryz.ntmps133
      go_wp2_with fail
      refine HC.out.mono ?_
      rintro en w2 ⟨rfl, rfl⟩
      go_wp2_with fail
      go_ret
      exact ⟨rfl, by decide, Fr.of (by go_grown)⟩
    · rw [if_neg (fun h => h.elim hn hl)]
      have h2 : (decide ((0 : Int) < (σ.cur.locals : Int))) = false := decide_eq_false (by omega)
      have HJ : Hid (∀ w' : World, Fr (fun k => k = S.st) w w' → Blk w' S.st 123 #[S.bv, S.bc, .int .i64 σ.base.locals, .slice (some ⟨g, 0, none⟩) (σ.calls.length - 1) cp, .pointer (some ⟨S.tb, 0, none⟩)] → RetS B S w (.ok { σ with calls := σ.calls.dropLast }) (.returned (.int .i64 0)) w') :=
        Lib.hid fun w' hf hb => ⟨rfl, H.out.pop hn hf e hb, hf.mono fun k hk => by rw [hk]; show S.ro S.st ≠ _; rw [H.out.rst]; simp⟩
      have HT2 : Hid (Blk w S.st 123 #[S.bv, S.bc, .int .i64 σ.base.locals, .slice (some ⟨g, 0, none⟩) σ.calls.length cp, .pointer (some ⟨S.tb, 0, none⟩)]) := Lib.hid (by have := HT.out; rw [e] at this; exact this)
      have hcp : σ.calls.length - 1 ≤ cp := by
        have hrow := h.calls
        rw [e] at hrow
        obtain ⟨_, cp2, e2, _, _, k1, _, _⟩ := own_some hrow h0
        injection e2 with _ _ e2
        omega
      generalize S.fb σ = fb at *
      generalize σ.fo = fo at *
      generalize σ.cur.locals = lc at *
      generalize σ.calls.length - 1 = n1 at *
      generalize hnn : σ.calls.length = nc at *
      clear hnn
      clear h ho H HT
      obtain ⟨st, tb, bv, bc, cv, vi, vo, fv, cb, iv, ro⟩ := S
      dsimp only at *
      clear e
      go_enter Tryz.func133, Tryz.ntmps133
      go_wp2_with fail
      refine HC.out.mono ?_
      rintro en w2 ⟨rfl, rfl⟩
      go_wp2_with fail
      go_region
      go_wp2_with fail
      go_ret
      refine HJ.out _ ((((Fr.refl (fun k => k = st) w).set (p := ⟨st, 3, none⟩) rfl _)).drew) ((HT2.out.set_ 3 _).drew)
end
end
section
open Go.RowKit Bk
section
variable {w : World}
theorem r_Close0 {st fb fo nn cp : Nat} {A : Option Addr} {s : ByteArray} {v z : Int} (hc : Calls Tryz.prog 130 #[.pointer (some ⟨st, 0, none⟩)] w fun e w' => e = .returned (.pointer (some ⟨fb, fo, none⟩)) ∧ w = w')
    (q0 : w.cell? ⟨fb, fo, none⟩ = some (.slice A nn cp)) (q2 : w.cell? ⟨fb, fo + 2, none⟩ = some (.int .i64 0)) (hw : IntKind.i64.wrap ((nn : Int) - 1) = z) :
    Calls Tryz.prog 106 #[.pointer (some ⟨st, 0, none⟩), .string s, .int .i64 v] w fun e w' => e = .returned (.int .i64 6) ∧ w = w' := by
  have HC := Lib.hid hc
  clear hc
  go_enter Tryz.func106, Tryz.ntmps106
  go_wp2_with fail
  refine HC.out.mono ?_
  rintro en w2 ⟨rfl, rfl⟩
  go_wp2_with fail
  go_ret
  exact ⟨rfl, rfl⟩
theorem r_CloseN {st fb fo nn n cp gv lc : Nat} {s nm : ByteArray} {v : Int} (hc : Calls Tryz.prog 130 #[.pointer (some ⟨st, 0, none⟩)] w fun e w' => e = .returned (.pointer (some ⟨fb, fo, none⟩)) ∧ w = w')
    (q0 : w.cell? ⟨fb, fo, none⟩ = some (.slice (some ⟨gv, 0, none⟩) nn cp)) (q2 : w.cell? ⟨fb, fo + 2, none⟩ = some (.int .i64 lc)) (hw : IntKind.i64.wrap ((nn : Int) - 1) = (n : Int)) (hn : n < nn) (hl : 0 < lc)
    (v0 : w.cell? ⟨gv, n * 3, none⟩ = some (.string nm)) (hq : (nm.toList == s.toList) = false) :
    Calls Tryz.prog 106 #[.pointer (some ⟨st, 0, none⟩), .string s, .int .i64 v] w fun e w' => e = .returned (.int .i64 6) ∧ w = w' := by
  have HC := Lib.hid hc
  have h1 : ((lc : Int) == 0) = false := beq_eq_false_iff_ne.2 (by omega)
  have j0 : (0 : Int) ≤ (n : Int) := by omega
  have j1 : (n : Int) < (nn : Int) := by omega
  clear hc hl
  go_enter Tryz.func106, Tryz.ntmps106
  go_wp2_with fail
  refine HC.out.mono ?_
  rintro en w2 ⟨rfl, rfl⟩
  go_wp2_with fail
  go_ret
  exact ⟨rfl, rfl⟩
theorem r_CloseF {st fb fo nn n cp gv gr cr lc cb len ci : Nat} {A : Option Addr} {s nm : ByteArray} {v k : Int} (hc : Calls Tryz.prog 130 #[.pointer (some ⟨st, 0, none⟩)] w fun e w' => e = .returned (.pointer (some ⟨fb, fo, none⟩)) ∧ w = w')
    (q0 : w.cell? ⟨fb, fo, none⟩ = some (.slice (some ⟨gv, 0, none⟩) nn cp)) (q1 : w.cell? ⟨fb, fo + 1, none⟩ = some (.slice (some ⟨gr, 0, none⟩) nn cr)) (q2 : w.cell? ⟨fb, fo + 2, none⟩ = some (.int .i64 lc)) (hw : IntKind.i64.wrap ((nn : Int) - 1) = (n : Int)) (hn : n < nn) (hl : 0 < lc)
    (v0 : w.cell? ⟨gv, n * 3, none⟩ = some (.string nm)) (hq : (nm.toList == s.toList) = true) (v1 : w.cell? ⟨gv, n * 3 + 1, none⟩ = some (.int .u8 k)) (p0 : w.cell? ⟨gr, n, none⟩ = some (.pointer (some ⟨cb, 0, none⟩))) (c0 : w.cell? ⟨cb, 0, none⟩ = some (.slice A len ci))
    (hs : (∃ gi x, k = 1 ∧ A = some ⟨gi, 0, none⟩ ∧ 0 < len ∧ w.cell? ⟨gi, 0, none⟩ = some (.int .i64 x) ∧ x ≠ v) ∨ k = 3 ∧ 0 < len) :
    Calls Tryz.prog 106 #[.pointer (some ⟨st, 0, none⟩), .string s, .int .i64 v] w fun e w' => e = .returned (.int .i64 16) ∧ w = w' := by
  have HC := Lib.hid hc
  have h1 : ((lc : Int) == 0) = false := beq_eq_false_iff_ne.2 (by omega)
  have j0 : (0 : Int) ≤ (n : Int) := by omega
  have j1 : (n : Int) < (nn : Int) := by omega
  clear hc hl
  rcases hs with ⟨gi, x, rfl, rfl, hlen, hx, hne⟩ | ⟨rfl, hlen⟩
  · have h2 : (x != v) = true := bne_iff_ne.2 hne
    clear hne
    go_enter Tryz.func106, Tryz.ntmps106
    go_wp2_with fail
    refine HC.out.mono ?_
    rintro en w2 ⟨rfl, rfl⟩
    go_wp2_with fail
    go_ret
    exact ⟨rfl, rfl⟩
  · have h2 : (decide ((0 : Int) < (len : Int))) = true := decide_eq_true (by omega)
    go_enter Tryz.func106, Tryz.ntmps106
    go_wp2_with fail
    refine HC.out.mono ?_
    rintro en w2 ⟨rfl, rfl⟩
    go_wp2_with fail
    go_ret
    exact ⟨rfl, rfl⟩
theorem r_CloseT {st fb fo nn n cp gv gr cr lc cb len ci : Nat} {A : Option Addr} {s nm : ByteArray} {v k : Int} (hc : Calls Tryz.prog 130 #[.pointer (some ⟨st, 0, none⟩)] w fun e w' => e = .returned (.pointer (some ⟨fb, fo, none⟩)) ∧ w = w')
    (q0 : w.cell? ⟨fb, fo, none⟩ = some (.slice (some ⟨gv, 0, none⟩) nn cp)) (q1 : w.cell? ⟨fb, fo + 1, none⟩ = some (.slice (some ⟨gr, 0, none⟩) nn cr)) (q2 : w.cell? ⟨fb, fo + 2, none⟩ = some (.int .i64 lc)) (hw : IntKind.i64.wrap ((nn : Int) - 1) = (n : Int)) (hn : n < nn) (hl : 0 < lc) (hl2 : lc ≤ 10000)
    (v0 : w.cell? ⟨gv, n * 3, none⟩ = some (.string nm)) (hq : (nm.toList == s.toList) = true) (v1 : w.cell? ⟨gv, n * 3 + 1, none⟩ = some (.int .u8 k)) (p0 : w.cell? ⟨gr, n, none⟩ = some (.pointer (some ⟨cb, 0, none⟩))) (c0 : w.cell? ⟨cb, 0, none⟩ = some (.slice A len ci))
    (hf : ∀ o, w.frozen? ⟨fb, o, none⟩ = false) (hlt : fb < w.heap.size) (hcp : n ≤ cp) (hcr : n ≤ cr)
    (hs : (∃ gi, k = 1 ∧ A = some ⟨gi, 0, none⟩ ∧ 0 < len ∧ w.cell? ⟨gi, 0, none⟩ = some (.int .i64 v)) ∨ k = 3 ∧ len = 0 ∨ k ≠ 1 ∧ k ≠ 3) :
    Calls Tryz.prog 106 #[.pointer (some ⟨st, 0, none⟩), .string s, .int .i64 v] w fun e w' => e = .returned (.int .i64 0) ∧ Fr (fun k => k = fb) w w' ∧ ∀ t cs, Blk w fb t cs → Blk w' fb t (((cs.setIfInBounds fo (.slice (some ⟨gv, 0, none⟩) n cp)).setIfInBounds (fo + 1) (.slice (some ⟨gr, 0, none⟩) n cr)).setIfInBounds (fo + 2) (.int .i64 (lc - 1 : Nat))) := by
  have HC := Lib.hid hc
  have h1 : ((lc : Int) == 0) = false := beq_eq_false_iff_ne.2 (by omega)
  have j0 : (0 : Int) ≤ (n : Int) := by omega
  have j1 : (n : Int) < (nn : Int) := by omega
  obtain ⟨l1, hl1⟩ : ∃ l1 : Nat, lc - 1 = l1 := ⟨_, rfl⟩
  have hw1 : IntKind.i64.wrap ((lc : Int) - 1) = (l1 : Int) := (wrap_small _ (by omega) (by omega)).trans (by omega)
  rw [hl1]
  clear hc hl hl1 hl2
  have key : (k == 1) = true ∧ (k == 3) = false ∧ (∃ gi, A = some ⟨gi, 0, none⟩ ∧ 0 < len ∧ w.cell? ⟨gi, 0, none⟩ = some (.int .i64 v)) ∨ (k == 1) = false ∧ (k == 3) = true ∧ len = 0 ∨ (k == 1) = false ∧ (k == 3) = false := by
    rcases hs with ⟨gi, rfl, a, b, c⟩ | ⟨rfl, a⟩ | ⟨a, b⟩
    · exact .inl ⟨rfl, rfl, gi, a, b, c⟩
    · exact .inr (.inl ⟨rfl, rfl, a⟩)
    · exact .inr (.inr ⟨beq_eq_false_iff_ne.2 a, beq_eq_false_iff_ne.2 b⟩)
  clear hs
  rcases key with ⟨k1, k3, gi, rfl, hlen, hx⟩ | ⟨k1, k3, rfl⟩ | ⟨k1, k3⟩
  all_goals
    go_enter Tryz.func106, Tryz.ntmps106
    go_wp2_with fail
    refine HC.out.mono ?_
    rintro en w2 ⟨rfl, rfl⟩
    go_wp2_with fail
    go_region
    go_wp2_with fail
    go_ret
    exact ⟨rfl, ((((Fr.refl (fun k => k = fb) w).set (p := ⟨fb, fo, none⟩) rfl _).set (p := ⟨fb, fo + 1, none⟩) rfl _).set (p := ⟨fb, fo + 2, none⟩) rfl _).drew, fun t cs hb => (((hb.set_ _ _).set_ _ _).set_ _ _).drew⟩
end
section
variable {w w' : World} {B : Nat} {S : Sv} {σ : PSt} {kd : Nat → Int} {m : Nat}
theorem varCells_take : ∀ (l : List Vr) (n : Nat), (varCells l).take (n * 3) = varCells (l.take n)
  | [], n => by simp [varCells]
  | v :: l, 0 => by simp [varCells]
  | v :: l, n + 1 => by
    have := varCells_take l n
    rw [Nat.succ_mul]
    simp only [varCells, List.flatMap_cons, List.take_succ_cons, List.cons_append, List.nil_append] at *
    rw [this]
theorem CellAt.form {i : Nat} {l : List Int} (h : CellAt w B S i l) : ∃ A cp, S.iv i = .slice A l.length cp ∧ (0 < l.length → ∃ g, A = some ⟨g, 0, none⟩ ∧ w.cell? ⟨g, 0, none⟩ = some (.int .i64 (l.getD 0 0))) := by
  by_cases hl : 0 < l.length
  · obtain ⟨g, cp, e, _, _, _, _, h3⟩ := own_some h.own hl
    refine ⟨_, cp, e, fun _ => ⟨g, rfl, h3 0 _ ?_⟩⟩
    cases l with
    | nil => simp at hl
    | cons a l => rfl
  · obtain ⟨A, cp, e⟩ := own_form h.own
    exact ⟨A, cp, e, fun h => absurd h hl⟩
theorem c_Close (h : SOn w B S σ) (ho : σ.Ok kd m) (hm : m ≤ 5000) (s : ByteArray) (v : Int) :
    Calls Tryz.prog 106 #[.pointer (some ⟨S.st, 0, none⟩), .string s, .int .i64 v] w fun e w' => RetS B S w (closeM s v σ) e w' := by
  have HC : Calls Tryz.prog 130 #[.pointer (some ⟨S.st, 0, none⟩)] w fun e w' => e = .returned (.pointer (some ⟨S.fb σ, σ.fo, none⟩)) ∧ w = w' := (c_current h ho.nc).mono fun e w' h => ⟨h.1, h.2.symm⟩
  obtain ⟨hf, ⟨q0, q1, q2⟩, hfz, hr, hlt⟩ := h.cur
  obtain ⟨n1, n2, n3⟩ := h.rows
  have hok : σ.cur.Ok kd σ.cells.length m := ho.cur
  have hbd := hok.bd; have hlo := hok.loc; have hln := hok.len
  have err : ∀ {x : Int}, x ≠ 0 → ∀ e w', e = .returned (.int .i64 x) ∧ w = w' → RetS B S w (.error x) e w' := fun hx e w' h => ⟨h.1, hx, by rw [← h.2]; exact Fr.refl _ _⟩
  unfold closeM
  by_cases hl : σ.cur.locals = 0
  · obtain ⟨A, cp, e⟩ := own_form hf.vars
    rw [e] at q0; rw [hl] at q2
    have hw : IntKind.i64.wrap ((σ.cur.vars.length : Int) - 1) = (σ.cur.vars.length : Int) - 1 := by
      by_cases h0 : σ.cur.vars.length = 0
      · rw [h0]; decide
      · exact wrap_small _ (by omega) (by omega)
    have H6 := (r_Close0 (s := s) (v := v) HC q0 q2 hw).mono (err (x := 6) (by decide))
    cases hg : σ.cur.vars.getLast? with
    | none => exact H6
    | some u => dsimp only; rw [if_pos (.inl hl)]; exact H6
  · have hn : 0 < σ.cur.vars.length := by omega
    have hg : σ.cur.vars.getLast? = some (σ.cur.vars[σ.cur.vars.length - 1]'(by omega)) := by rw [List.getLast?_eq_getElem?]; exact List.getElem?_eq_getElem (by omega)
    have hu : σ.cur.vars[σ.cur.vars.length - 1]? = some (σ.cur.vars[σ.cur.vars.length - 1]'(by omega)) := List.getElem?_eq_getElem (by omega)
    have hi : σ.cur.idx[σ.cur.vars.length - 1]? = some (σ.cur.idx[σ.cur.vars.length - 1]'(by omega)) := List.getElem?_eq_getElem (by omega)
    have hil : σ.cur.idx.getLastD 0 = σ.cur.idx[σ.cur.vars.length - 1]'(by omega) := by
      rw [List.getLastD_eq_getLast?, List.getLast?_eq_getElem?, (congrArg (fun n => σ.cur.idx[n]?) (show σ.cur.idx.length - 1 = σ.cur.vars.length - 1 by omega)).trans hi]; rfl
    rw [hg, hil]
    dsimp only
    generalize σ.cur.vars[σ.cur.vars.length - 1]'(by omega) = u at hu
    generalize σ.cur.idx[σ.cur.vars.length - 1]'(by omega) = c at hi
    obtain ⟨hc, hkd⟩ := hok.kind _ u c hu hi
    obtain ⟨l, hcl⟩ : ∃ l, σ.cells[c]? = some l := ⟨_, List.getElem?_eq_getElem hc⟩
    have hcd : σ.cells.getD c [] = l := by rw [List.getD_eq_getElem?_getD, hcl]; rfl
    rw [hcd]
    have hone := ho.one c l hcl
    obtain ⟨gv, cpv, ev, _, hgv, hcv, _, hvc⟩ := own_some hf.vars hn
    have hpl : (S.ptrs σ.cur.idx).length = σ.cur.idx.length := by simp [Sv.ptrs]
    obtain ⟨gr, cpr, er, _, hgr, hcr, _, hrc⟩ := own_some hf.refs (by omega)
    obtain ⟨p0, p1, _⟩ := varCells_get _ _ _ hu
    have v0 := hvc _ _ p0; have v1 := hvc _ _ p1
    have r0 := hrc (σ.cur.vars.length - 1) (.pointer (some ⟨S.cb c, 0, none⟩)) (by simp [Sv.ptrs, hi])
    have hca := h.cells c l hcl
    obtain ⟨A, ci, ei, hA⟩ := hca.form
    have c0 := hca.blk.cell 0
    rw [ei] at c0
    rw [ev] at q0; rw [er, hln] at q1
    have hw : IntKind.i64.wrap ((σ.cur.vars.length : Int) - 1) = ((σ.cur.vars.length - 1 : Nat) : Int) := (wrap_small _ (by omega) (by omega)).trans (by omega)
    by_cases hq : (u.nm.toList == s.toList) = false
    · rw [if_pos (.inr hq)]
      exact (r_CloseN HC q0 q2 hw (by omega) (by omega) v0 hq).mono (err (by decide))
    · rw [if_neg (fun h => h.elim hl hq)]
      rw [Bool.not_eq_false] at hq
      by_cases hx : u.k = 1 ∧ l.getD 0 0 ≠ v ∨ u.k = 3 ∧ l.length ≠ 0
      · rw [if_pos hx]
        refine (r_CloseF (v := v) HC q0 q1 q2 hw (by omega) (by omega) v0 hq v1 r0 c0 ?_).mono (err (by decide))
        rcases hx with ⟨hk, hx⟩ | ⟨hk, hx⟩
        · have h1 := hone.1 (hkd ▸ hk)
          obtain ⟨g, eA, hg0⟩ := hA (by omega)
          exact .inl ⟨g, _, hk, eA, by omega, hg0, hx⟩
        · exact .inr ⟨hk, by omega⟩
      · rw [if_neg hx]
        refine (r_CloseT (v := v) HC q0 q1 q2 hw (by omega) (by omega) (by omega) v0 hq v1 r0 c0 hfz hlt (by omega) (by omega) ?_).mono ?_
        · by_cases h1 : u.k = 1
          · have hl1 := hone.1 (hkd ▸ h1)
            obtain ⟨g, eA, hg0⟩ := hA (by omega)
            have hxv : l.getD 0 0 = v := Decidable.byContradiction fun hne => hx (.inl ⟨h1, hne⟩)
            rw [hxv] at hg0
            exact .inl ⟨g, h1, eA, by omega, hg0⟩
          · by_cases h3 : u.k = 3
            · exact .inr (.inl ⟨h3, Decidable.byContradiction fun hne => hx (.inr ⟨h3, hne⟩)⟩)
            · exact .inr (.inr ⟨h1, h3⟩)
        · rintro e w' ⟨rfl, hF, hb⟩
          have hv := hf.vars; have hre := hf.refs
          rw [ev] at hv; rw [er] at hre
          have hv2 := own_fr (own_cut hv (m := σ.cur.vars.length - 1) (by omega)) hF fun k hk e => n1 (by rw [ev, ← e]; exact hk)
          have hr2 := own_fr (own_cut hre (m := σ.cur.vars.length - 1) (by omega)) hF fun k hk e => n2 (by rw [er, ← e]; exact hk)
          rw [varCells_take] at hv2
          obtain ⟨S', s1, s2, s3, _⟩ := h.setFr (f' := ⟨σ.cur.vars.dropLast, σ.cur.idx.dropLast, σ.cur.locals - 1⟩) (hF.mono fun k hk => .inr (.inr hk)) hb (by
              show w'.ownsRow B _ 3 _ σ.cur.vars.dropLast.length (varCells σ.cur.vars.dropLast)
              rw [List.length_dropLast, List.dropLast_eq_take]; exact hv2) (by
              show w'.ownsRow B _ 1 _ σ.cur.idx.dropLast.length (S.ptrs σ.cur.idx.dropLast)
              rw [List.length_dropLast, List.dropLast_eq_take, hln]
              rw [show S.ptrs (σ.cur.idx.take (σ.cur.vars.length - 1)) = (S.ptrs σ.cur.idx).take ((σ.cur.vars.length - 1) * 1) by rw [Nat.mul_one]; simp [Sv.ptrs, List.map_take]]
              exact hr2) (fun k hk => .inl (hf.rv k (by rw [ev]; exact hk))) (fun k hk => .inl (hf.rc k (by rw [er]; exact hk))) (fun k h1 h2 => n3 k (by rw [ev]; exact h1) (by rw [er]; exact h2))
          exact ⟨rfl, ⟨S', s1, s2⟩, s3⟩
end
end
end Go.Proofs.YtakfdnnlhjhcfaaGreatDoor
