/- A Call is run. -/
import Derived.Test.YtakfdnnlhjhcfaaGreatDoorM30
set_option linter.unusedVariables false
set_option linter.unusedSimpArgs false
set_option maxRecDepth 100000
set_option maxHeartbeats 4000000
namespace Bk
open Go Go.RowKit Go.Proofs.YtakfdnnlhjhcfaaGreatDoor
structure PgAt (w0 : World) (B0 d : Nat) (R : Rn) (procs : List Pr) (pcs : List Pc) : Prop where
  b : B0 ≤ w0.heap.size
  v : ∃ V nv cv, R.V = .slice V nv cv
  q : ∃ Q cq, R.Q = .slice Q pcs.length cq ∧ PrsAt w0 B0 (d + 1) Q pcs
  e : ∃ A cp, R.ent = .slice A pcs.length cp
  n : pcs.length ≤ 1000
  len : procs.length = pcs.length
  pr : ∀ (i : Nat) (p : Pc) (u : Pr), pcs[i]? = some p → procs[i]? = some u → p.nm = u.nm ∧ p.vs = u.params ∧ SqAt w0 B0 d u.body p.body ∧ p.vs.length ≤ 8 ∧ u.body.cok procs
theorem find_proc {s : ByteArray} : ∀ {procs : List Pr} {pcs : List Pc} {u : Pr}, procs.length = pcs.length → (∀ (i : Nat) (p : Pc) (u : Pr), pcs[i]? = some p → procs[i]? = some u → p.nm = u.nm) → procs.find? (fun p => p.nm.toList == s.toList) = some u → ∃ i p, procX s pcs = some i ∧ pcs[i]? = some p ∧ procs[i]? = some u
  | [], _, _, _, _, h => by simp at h
  | _ :: _, [], _, hl, _, _ => by simp at hl
  | q :: qs, p :: ps, u, hl, hn, h => by
    have h0 := hn 0 p q rfl rfl
    simp only [List.find?_cons] at h
    by_cases hc : (q.nm.toList == s.toList) = true
    · rw [hc] at h; injection h with h; subst h
      exact ⟨0, p, by simp only [procX]; rw [h0, if_pos hc], rfl, rfl⟩
    · simp only [Bool.not_eq_true] at hc
      rw [hc] at h
      obtain ⟨i, p', e1, e2, e3⟩ := find_proc (by simpa using hl) (fun i p u h1 h2 => hn (i + 1) p u (by simpa using h1) (by simpa using h2)) h
      exact ⟨i + 1, p', by simp only [procX]; rw [h0, if_neg (by simp [hc]), e1]; rfl, by simpa using e2, by simpa using e3⟩
def argRow (ss : List ByteArray) (j n : Nat) : Array Value := ((ss.take j).map Value.string ++ List.replicate (n - j) (Value.string ⟨#[]⟩)).toArray
theorem argRow_get {ss : List ByteArray} {j n : Nat} (hn : ss.length = n) (hj : j < n) : (argRow ss j n)[j]? = some (.string ⟨#[]⟩) := by
  unfold argRow
  simp only [List.getElem?_toArray]
  obtain ⟨m, hm⟩ : ∃ m, n - j = m + 1 := ⟨n - j - 1, by omega⟩
  have hl : (List.map Value.string (ss.take j)).length = j := by simp; omega
  rw [List.getElem?_append_right (by omega), hl, Nat.sub_self, hm, List.replicate_succ]; rfl
theorem argRow_set {ss : List ByteArray} {j n : Nat} {s : ByteArray} (hn : ss.length = n) (hj : j < n) (hs : ss[j]? = some s) : (argRow ss j n).setIfInBounds j (.string s) = argRow ss (j + 1) n := by
  unfold argRow
  simp only [List.setIfInBounds_toArray]
  congr 1
  obtain ⟨m, hm⟩ : ∃ m, n - j = m + 1 := ⟨n - j - 1, by omega⟩
  rw [hm, show n - (j + 1) = m by omega, List.take_add_one, hs, List.map_append, List.set_append]
  have hl : (List.map Value.string (ss.take j)).length = j := by simp; omega
  rw [if_neg (by omega), hl, Nat.sub_self]
  simp [List.replicate_succ]
theorem argRow_end {ss : List ByteArray} {n i : Nat} {s : ByteArray} (hn : ss.length = n) (hs : ss[i]? = some s) : (argRow ss n n)[i]? = some (.string s) := by
  have hi := (List.getElem?_eq_some_iff.1 hs).1
  unfold argRow
  simp only [List.getElem?_toArray, Nat.sub_self, List.replicate_zero, List.append_nil]
  rw [← hn, List.take_length]
  simp [hs]
end Bk
namespace Go.Proofs.YtakfdnnlhjhcfaaGreatDoor
open Go.RowKit Bk
section
variable {w0 w w' : World} {B0 r fuel f m : Nat} {R : Rn} {S : Sv} {σ : PSt} {kd : Nat → Int}
theorem info_strM : (Tryz.prog.info? 9).map (fun i => (i.zero, i.size, i.bytes)) = some (some (.string ⟨#[]⟩), 1, 16) := by kernel_rfl
theorem c_Enter1 (h : RAt w0 B0 w r R S σ fuel f kd m) {A A2 : Option Addr} {n n2 c1 c2 : Nat} {ps : List Vr} {ss : List ByteArray} (hv : VsAt w w.heap.size A ps) (hn : ps.length = n) (hss : SsAt w w.heap.size A2 ss) (hn2 : ss.length = n2) (hpn : n ≤ 32) : Calls Tryz.prog 132 #[.pointer (some ⟨R.st, 0, none⟩), .slice A n c1, .slice A2 n2 c2] w fun e w' => OpP w0 B0 w r R S fuel f (enterM ps ss σ) e w' := by
  have hm := h.fm
  have := c_Enter (c1 := c1) (c2 := c2) h.on h.B h.ok (by omega) hv hn hss hn2 hpn
  rw [h.st] at this
  exact this.mono fun e w' hr => h.opS hr
theorem c_Leave1 (h : RAt w0 B0 w r R S σ fuel f kd m) : Calls Tryz.prog 133 #[.pointer (some ⟨R.st, 0, none⟩)] w fun e w' => OpP w0 B0 w r R S fuel f (leaveM σ) e w' := by
  have hm := h.fm
  have := c_Leave h.on h.ok (by omega)
  rw [h.st] at this
  exact this.mono fun e w' hr => h.opS hr
theorem RAt.count (h : RAt w0 B0 w r R S σ fuel f kd m) {g n cp i : Nat} (he : R.ent = .slice (some ⟨g, 0, none⟩) n cp) (v : Int) : RAt w0 B0 (w.setCell ⟨g, i, none⟩ (.int .i64 v)) r R S σ fuel f kd m ∧ Fr (RO S R r) w (w.setCell ⟨g, i, none⟩ (.int .i64 v)) := by
  obtain ⟨g', cp', n', xs, e1, e2, e3, e4, e5⟩ := h.ent
  rw [e1] at he
  injection he with he1 he2 he3
  injection he1 with he1
  injection he1 with he1 _ _
  subst he1; subst he2; subst he3
  have hgB : B0 ≤ g' := (own_gE (k := g') e2 (by rw [e1]; rfl)).1
  have hf : Fr (fun k => k = g') w (w.setCell ⟨g', i, none⟩ (.int .i64 v)) := by refine Fr.set ?_ ?_ _; rotate_left; exact rfl; exact Fr.refl _ _
  refine ⟨⟨h.base.trans (hf.below h.B fun k hk => by rw [hk]; exact hgB), hf.blk h.blk (fun e => e5 e.symm), h.on.other hf fun k _ hk => by rw [hk]; exact e4, h.ok, h.st, h.ro, h.rb, ⟨g', cp', n', xs.set i v, e1, ?_, by simpa using e3, e4, e5⟩, h.ff, h.fm, h.fu, h.m0, h.kxF (Sv.Ext.refl _ _) hf.size, h.kpF hf fun b _ _ h3 h4 => h3 (by rw [h4, e1]; rfl)⟩, hf.mono fun k hk => .inr (.inr ?_)⟩
  · rw [← intCells_set, e1]
    rw [e1] at e2
    exact own_set e2 i _
  · show R.ent.ownBlock = some k
    rw [e1, hk]; rfl
theorem c_call {procs : List Pr} {pcs : List Pc} {n d d0 : Nat} (hbk : BlkC w0 B0 r R fuel procs n) (hpg : PgAt w0 B0 d0 R procs pcs) (h : RAt w0 B0 w r R S σ fuel f kd m) (hf : f < n + 1) (back : Bool) {op : Int} {s : ByteArray} {args : List ByteArray} {rest : Sq} {x : Nd} (hx : StAt w0 B0 (d + 1) (.cal op s args rest) x) (hk : KV w0 B0 (d + 1) x) (hck : ∃ u, procs.find? (fun p => p.nm.toList == s.toList) = some u) :
    Calls Tryz.prog 107 #[.pointer (some ⟨r, 0, none⟩), .agg #[.int .u8 x.k, .int .i64 x.num, .string x.nm, .slice x.A x.n x.cap], .bool back] w fun en w' => RunP w0 B0 w r R S fuel (callM procs (execP procs n) back s args σ f) en w' := by
  obtain ⟨hop, hop2, hnm, hnb, hxn, hx8, hargs⟩ := hx
  clear hop hop2 hnb
  obtain ⟨u, hu⟩ := hck
  obtain ⟨i, p, hpi, hp, hpu⟩ := find_proc hpg.len (fun i p u h1 h2 => (hpg.pr i p u h1 h2).1) hu
  obtain ⟨e1, e2, e3, e4, e5⟩ := hpg.pr i p u hp hpu
  obtain ⟨V, nv, cv, hV⟩ := hpg.v
  obtain ⟨Q, cq, hQ, hprs⟩ := hpg.q
  obtain ⟨EA, ecp, hE⟩ := hpg.e
  obtain ⟨⟨pg, po, hPA, hPB, pc0, pc1, pc2, pc3, pc4, pc5⟩, hvs, hvl, hvc, hv6, hkb⟩ := hprs i p hp
  obtain ⟨eg, ecp', en, exs, hE1, hE2, hE3, hE4, hE5⟩ := h.ent
  have hcap : x.n ≤ x.cap ∧ x.cap ≤ maxLen := ⟨hk.2.2.1, hk.2.2.2.1⟩
  rw [hE] at hE1
  injection hE1 with hE1 hE1' hE1''
  subst hE1; subst hE1'; subst hE1''
  have hi : i < pcs.length := (List.getElem?_eq_some_iff.1 hp).1
  have hpn := hpg.n
  unfold callM
  rw [hu]
  dsimp only
  have H1 : Hid (∀ W, Below w.heap.size w W → RAt w0 B0 W r R S σ fuel f kd m) := Lib.hid fun W hW => h.next hW h.B
  have HNR : Hid (∀ b, w.heap.size ≤ b → ¬ RO S R r b) := Lib.hid fun b hb => h.nro hb
  have HKD : Hid (∀ j, j < x.n → ∃ y, Kid w0 B0 x j y ∧ args[j]? = some y.nm) := Lib.hid fun j hj => by
    obtain ⟨y, hy, hv⟩ := hargs j (args[j]'(by omega)) (List.getElem?_eq_getElem (by omega))
    exact ⟨y, hy, by rw [List.getElem?_eq_getElem (by omega), hv.2.2.1]⟩
  have HPR : Hid (∀ W, Below B0 w0 W → Calls Tryz.prog 32 #[.agg #[.slice V nv cv, .slice Q pcs.length cq, .int .u8 R.m.k, .int .i64 R.m.num, .string R.m.nm, .slice R.m.A R.m.n R.m.cap], .string s] W fun e w'' => e = .returned (.int .i64 i) ∧ Below W.heap.size W w'') := Lib.hid fun W hW => by
    have := e_Proc hpg.b V nv cv Q pcs.length cq pcs hprs rfl (by omega) R.m s W hW
    rw [show procI s pcs = (i : Int) by unfold procI; rw [hpi]] at this
    exact this
  have HBL := Lib.hid (fun W S' σ' f' kd' m' (h : RAt w0 B0 W r R S' σ' fuel f' kd' m') (hf : f' < n) => hbk W S' σ' f' kd' m' h hf back d0 u.body p.body e3 hkb e5)
  have HRB : Hid (∀ W S σ f kd m, RAt w0 B0 W r R S σ fuel f kd m → Blk W r 86 #[.slice V nv cv, .slice Q pcs.length cq, .int .u8 R.m.k, .int .i64 R.m.num, .string R.m.nm, .slice R.m.A R.m.n R.m.cap, .pointer (some ⟨R.st, 0, none⟩), .int .i64 ((fuel : Int) - f), .int .i64 fuel, .slice (some ⟨eg, 0, none⟩) pcs.length ecp]) := Lib.hid fun W S σ f kd m h => by
    have := h.blk
    unfold Rn.cells at this
    rw [hV, hQ, hE] at this
    exact this
  have HEC : Hid (∀ W S σ f kd m, RAt w0 B0 W r R S σ fuel f kd m → (∃ v, W.cell? ⟨eg, i, none⟩ = some (.int .i64 v)) ∧ W.frozen? ⟨eg, i, none⟩ = false) := Lib.hid fun W S σ f kd m h => by
    obtain ⟨g', cp', n', xs, h1, h2, h3, _, _⟩ := h.ent
    rw [hE] at h1
    injection h1 with h1 h1' h1''
    injection h1 with h1
    injection h1 with h1 _ _
    subst h1; subst h1'; subst h1''
    rw [hE] at h2
    obtain ⟨cur, hb, hc⟩ := own_row h2
    have hx : (intCells xs)[i]? = some (.int .i64 (xs[i]'(by omega))) := by simp [intCells, List.getElem?_eq_getElem (show i < xs.length by omega)]
    exact ⟨⟨_, by rw [hb.cell]; exact hc i _ hx⟩, hb.frozen i⟩
  have HCT : Hid (∀ W S σ f kd m v, RAt w0 B0 W r R S σ fuel f kd m → RAt w0 B0 (W.setCell ⟨eg, i, none⟩ (.int .i64 v)) r R S σ fuel f kd m ∧ Fr (RO S R r) W (W.setCell ⟨eg, i, none⟩ (.int .i64 v))) := Lib.hid fun W S σ f kd m v h => h.count hE v
  have HVS : Hid (∀ W, Below B0 w0 W → B0 ≤ W.heap.size → VsAt W W.heap.size p.V u.params) := Lib.hid fun W hW hB => by
    rw [← e2]
    exact fun j v hj => let ⟨g, o, h1, h2, h3⟩ := (hvs.next hW) j v hj; ⟨g, o, h1, Nat.lt_of_lt_of_le h2 hB, h3⟩
  have HPC : Hid (∀ W, Below B0 w0 W → W.cell? ⟨pg, po + i * 6, none⟩ = some (.string p.nm) ∧ W.cell? ⟨pg, po + i * 6 + 1, none⟩ = some (.slice p.V p.nv p.cv) ∧ W.cell? ⟨pg, po + i * 6 + 2, none⟩ = some (.int .u8 p.body.k) ∧ W.cell? ⟨pg, po + i * 6 + 3, none⟩ = some (.int .i64 p.body.num) ∧ W.cell? ⟨pg, po + i * 6 + 4, none⟩ = some (.string p.body.nm) ∧ W.cell? ⟨pg, po + i * 6 + 5, none⟩ = some (.slice p.body.A p.body.n p.body.cap)) := Lib.hid fun W hW => ⟨(hW.cell (p := ⟨pg, po + i * 6, none⟩) hPB).trans pc0, (hW.cell (p := ⟨pg, po + i * 6 + 1, none⟩) hPB).trans pc1, (hW.cell (p := ⟨pg, po + i * 6 + 2, none⟩) hPB).trans pc2, (hW.cell (p := ⟨pg, po + i * 6 + 3, none⟩) hPB).trans pc3, (hW.cell (p := ⟨pg, po + i * 6 + 4, none⟩) hPB).trans pc4, (hW.cell (p := ⟨pg, po + i * 6 + 5, none⟩) hPB).trans pc5⟩
  have hul : u.params.length = p.nv := by rw [← e2, hvl]
  have hp8 : p.nv ≤ 8 := by rw [← hvl]; exact e4
  obtain ⟨QT, hQT⟩ : ∃ QT, (stepM.seq ((Bk.liftM (enterM u.params args)).seq ((execP procs n back u.body).seq (stepM.seq (Bk.liftM leaveM))))) σ f = QT := ⟨_, rfl⟩
  rw [hQT]
  generalize execP procs n back u.body = MB at *
  generalize u.params = ups at *
  have HQT := Lib.hid hQT; have HFN := Lib.hid hf; have HUL := Lib.hid hul
  have HXN := Lib.hid hxn.symm
  have HB := Lib.hid (show Below B0 w0 w ∧ B0 ≤ w.heap.size from ⟨h.base, h.B⟩)
  clear hQT hf hul h hbk hpg hargs hu hpi hp hpu e1 e2 e3 e4 e5 hV hQ hprs hE pc0 pc1 pc2 pc3 pc4 pc5 hvs hvl hvc hv6 hkb hE2 hE3 hE4 hE5 hk hxn
  generalize pcs.length = nq at *
  clear pcs
  obtain ⟨pnm, pV, pnv, pcv, pvs, ⟨bk, bnum, bnm, bA, bn, bc⟩⟩ := p
  obtain ⟨xk, num, nm, A, nn, cap⟩ := x
  dsimp only at *
  subst hnm; subst hPA
  unfold maxLen at hcap
  obtain ⟨hc1, hc2⟩ := hcap
  have hn8 : nn ≤ 8 := hx8
  clear hx8
  obtain ⟨i1, li, lz, ls, lb⟩ := info_parts info_strM
  have mkA : ∀ W : World, (Instr.makeSlice 181 (.int .i64 (nn : Int)) (.int .i64 (nn : Int))).run Tryz.prog W = .ok (.slice (some ⟨W.heap.size, 0, none⟩) nn nn) (W.alloc (.cells (madeCells #[.string ⟨#[]⟩] nn) 9)) := fun W => by
    have := run_make_rowN (P := Tryz.prog) 181 9 i1 _ Tryz.underlying181 li lz .i64 .i64 nn nn (Nat.le_refl _) (by rw [lb]; omega) (by omega) W
    rw [ls, Nat.mul_one] at this; exact this
  have MK0 : Hid (madeCells #[.string ⟨#[]⟩] nn = argRow args 0 nn) := Lib.hid (by
    refine Array.ext (by simp [madeCells, argRow]) fun i h1 h2 => ?_
    simp [madeCells, argRow, Nat.mod_one])
  clear li lz ls lb
  go_enter Tryz.func107, Tryz.ntmps107
  go_upto_region 1 with fail
  refine wp_nameE ?_
  intro w1 hw1
  have hb1 : Below w.heap.size w w1 := (by rw [hw1]; exact (by go_grown))
  have K1 : Blk w1 w.heap.size 26 #[.int .u8 xk, .int .i64 num, .string nm, .slice A nn cap] := (by rw [hw1]; exact blkA)
  have HB1 := Lib.hid hb1; have HK1 := Lib.hid K1
  have HNI := Lib.hid (HNR.out w.heap.size (Nat.le_refl _))
  obtain ⟨z_1, T_1, F_1⟩ := K1.open_
  clear hw1 hb1 K1
  go_upto_region 2 with fail
  refine wp_nameE ?_
  intro w2 hw2
  have HA2 : Hid (Blk w2 w1.heap.size 9 (argRow args 0 nn)) := Lib.hid (by rw [hw2, ← MK0.out]; exact Blk.new _ _ _)
  have HB2 := Lib.hid (HB1.out.next (show Below w1.heap.size w1 w2 by rw [hw2]; exact (by go_grown)))
  have K2 := HK1.out.next (show Below w1.heap.size w1 w2 by rw [hw2]; exact (by go_grown))
  have HK2 := Lib.hid K2
  have hba : w.heap.size < w1.heap.size := HK1.out.lt
  clear hw2 T_1 z_1 F_1 MK0 mkA HK1 HB1
  generalize w1.heap.size = ba at *
  have HBW : Hid (∀ W, Fr (fun k => k = ba) w2 W → Below w.heap.size w W ∧ Blk W w.heap.size 26 #[.int .u8 xk, .int .i64 num, .string nm, .slice A nn cap]) := Lib.hid fun W hW => ⟨HB2.out.trans (hW.below HB2.out.size fun k hk => by omega), hW.blk HK2.out (by omega)⟩
  have HNA := Lib.hid (HNR.out ba (by omega))
  obtain ⟨z_1, T_1, F_1⟩ := K2.open_
  clear K2 HK2
  go_wp2_with fail
  clear T_1 z_1 F_1
  go_loopw [18] (fun v18 wr => ∃ j : Nat, j ≤ nn ∧ v18 = .int .i64 j ∧ Blk wr ba 9 (argRow args j nn) ∧ Fr (fun k => k = ba) w2 wr) (fun v _ => nn - (intOf v).toNat)
  case atStart => exact ⟨0, Nat.zero_le _, rfl, HA2.out, Fr.refl _ _⟩
  case round =>
    obtain ⟨j, hj, rfl, ha, hfr⟩ := hrel
    obtain ⟨hbw, kbi⟩ := HBW.out wr hfr
    have HA := Lib.hid ha; have HFR := Lib.hid hfr; have HBR := Lib.hid hbw; have HKI := Lib.hid kbi
    clear hfr hbw kbi
    by_cases hlt : j < nn
    · obtain ⟨y, hy, hay⟩ := HKD.out j hlt
      have HSET := Lib.hid (argRow_set (n := nn) HXN.out hlt hay)
      have ca : wr.cell? ⟨ba, j, none⟩ = some (.string ⟨#[]⟩) := by rw [ha.cell]; exact argRow_get HXN.out hlt
      have fa := ha.frozen j
      have za := ha.lt
      obtain ⟨g, o, hgA, hgB, hcl⟩ := hy
      have hbz := HB.out.1.trans (HBR.out.mono HB.out.2)
      have y0 := (hbz.cell (p := ⟨g, o + j * 4, none⟩) hgB).trans (hcl 0 _ rfl)
      have y1 := (hbz.cell (p := ⟨g, o + j * 4 + 1, none⟩) hgB).trans (hcl 1 _ rfl)
      have y2 := (hbz.cell (p := ⟨g, o + j * 4 + 2, none⟩) hgB).trans (hcl 2 _ rfl)
      have y3 := (hbz.cell (p := ⟨g, o + j * 4 + 3, none⟩) hgB).trans (hcl 3 _ rfl)
      have i0 : (0 : Int) ≤ (j : Int) := by omega
      have i1 : (j : Int) < (nn : Int) := by omega
      obtain ⟨yk, ynum, ynm, yA, yn, yc⟩ := y
      dsimp only at *
      subst hgA
      clear hay hbz hcl ha HPR HBL HRB HEC HCT HVS HPC HQT
      go_wp2_with fail
      exact ⟨⟨j + 1, by omega, by first | rfl | go_num, (by rw [← HSET.out]; first | exact ((HA.out.alloc _).set_ _ _) | exact ((HA.out.set_ _ _).alloc _)), (by repeat (first | exact HFR.out | apply Fr.alloc | (refine Fr.set ?_ ?_ _; rotate_left; exact rfl)))⟩, (by simp [intOf]; try omega)⟩
    · obtain rfl : j = nn := (by omega)
      have HR5 := Lib.hid (H1.out wr HBR.out)
      have HBB : Hid (∀ W, Below wr.heap.size wr W → Below B0 w0 W) := Lib.hid fun W hW => HB.out.1.trans ((HBR.out.next hW).mono HB.out.2)
      have HRK := Lib.hid (HRB.out wr S σ f kd m HR5.out)
      clear ha HKD hlt
      go_wp2_with fail
      refine wp_region_held_drew (S := fun W => Below wr.heap.size wr W) (by kernel_rfl) ((Below.refl _ _).drew) (fun hH => ?_)
      refine wpAnyH_atN ?_
      intro wa hwa
      have hX : Below wr.heap.size wr wa := by rw [hwa]; exact (Below.refl _ _).drew
      replace hH := (show Below wr.heap.size wr wa by rw [hwa]; exact hH)
      clear hwa
      refine tkQ 0 (v := ?_) rfl hH ?_
      (try simp only [PU, Act.put])
      refine tkQ 1 (v := ?_) rfl hH ?_
      (try simp only [PU, Act.put])
      refine tkQ 2 (v := ?_) rfl hH ?_
      (try simp only [PU, Act.put])
      refine tkK 3 (v := ?_) rfl ?hy hH ?_
      case hy => (intro w9_ hS9; have t := (HRK.out.next hS9).cell; clear hS9; go_simp; try with_reducible rfl)
      (try simp only [PU, Act.put])
      refine tkQ 4 (v := ?_) rfl hH ?_
      (try simp only [PU, Act.put])
      refine tkK 5 (v := ?_) rfl ?hy hH ?_
      case hy => (intro w9_ hS9; have t := (HKI.out.next hS9).cell; clear hS9; go_simp; try with_reducible rfl)
      (try simp only [PU, Act.put])
      refine nxH 6 (by kernel_rfl) rfl (fun K hK => ?_)
      go_simp
      refine (HPR.out _ (HBB.out _ hX)).mono ?_
      rintro en wb ⟨rfl, hbn⟩
      refine hK.out _ _ (hX.next hbn) (fun hH => ?_)
      clear hK
      (try simp only [PU, Act.put])
      refine tkQ 7 (v := ?_) rfl hH ?_
      (try simp only [PU, Act.put])
      refine wpAnyH_done (by kernel_rfl) ?_ _
      have hb0 := HBB.out _ hH
      have HB6 := Lib.hid (HBR.out.next hH)
      have HR6 := Lib.hid (H1.out _ HB6.out)
      obtain ⟨z_1, T_1, F_1⟩ := (HRB.out _ S σ f kd m HR6.out).open_
      obtain ⟨p0, p1, p2, p3, p4, p5⟩ := HPC.out _ hb0
      have HA6 := Lib.hid (HA.out.next hH)
      have i0 : (0 : Int) ≤ (i : Int) := by omega
      have i1 : (i : Int) < (nq : Int) := by omega
      have hz6 := HB6.out.size
      clear hX hH hbn hb0 HKI HRK HR5
      go_upto_region 9 with fail
      refine wp_nameE ?_
      intro w7 hw7
      have hb7 : Below wb.heap.size wb w7 := (by rw [hw7]; exact (by go_grown))
      have HK10 : Hid (Blk w7 wb.heap.size 64 #[.string pnm, .slice pV pnv pcv, .int .u8 bk, .int .i64 bnum, .string bnm, .slice bA bn bc]) := Lib.hid (by rw [hw7]; exact Blk.new _ _ _)
      have HA7 := Lib.hid (HA6.out.next hb7)
      have HB7 := Lib.hid (HB6.out.next hb7)
      have HR7 := Lib.hid (H1.out w7 HB7.out)
      have HN10 := Lib.hid (HNR.out wb.heap.size hz6)
      have HF7 := Lib.hid (Fr.of (O := RO S R r) HB7.out)
      have HXW : Hid (∀ S5, S.Ext S5 w7 → S.Ext S5 w) := Lib.hid fun S5 h => ⟨h.1, fun k hk => h.2 k (Nat.lt_of_lt_of_le hk HB7.out.size)⟩
      clear hw7 hb7 HR6 HB6 HA6 HA HPC HNR H1 z_1 T_1 F_1 p0 p1 p2 p3 p4 p5 HBR HBB HBW HB2 HFR HA2 hz6
      generalize wb.heap.size = b10 at *
      go_wp2_with fail
      cases f with
      | zero =>
        obtain rfl : QT = .error 18 := HQT.out.symm
        have HC := Lib.hid (c_stepRF HR7.out)
        unfold FailE at HC
        refine HC.out.mono ?_
        rintro en w8 ⟨rfl, hbw8⟩
        have HBw8 := Lib.hid hbw8
        clear hbw8
        go_wp2_with fail
        exact ⟨rfl, rfl, HBw8.out⟩
      | succ f =>
        have HFN' : Hid (f < n) := Lib.hid (by have := HFN.out; omega)
        have HQ3 : Hid ((match enterM ups args σ with | .error e => (.error e : Except Int (PSt × Nat)) | .ok σ' => (MB.seq (stepM.seq (Bk.liftM leaveM))) σ' f) = QT) := Lib.hid (by
          rw [← HQT.out]
          show _ = ((Bk.liftM (enterM ups args)).seq (MB.seq (stepM.seq (Bk.liftM leaveM)))) σ f
          unfold Mo.seq Bk.liftM
          cases enterM ups args σ <;> rfl)
        clear HQT HFN
        refine (c_stepR HR7.out).mono ?_
        rintro en w8 ⟨rfl, hr8, hf8⟩
        have HR8 := Lib.hid hr8
        have HF8 : Hid (Fr (RO S R r) w7 w8) := Lib.hid (hf8.mono fun k hk => .inr (.inl hk))
        clear hr8 hf8 HR7
        have HA8 := Lib.hid (HF8.out.blk HA7.out HNA.out)
        have HK8 := Lib.hid (HF8.out.blk HK10.out HN10.out)
        have HCF := Lib.hid (fun (y : Int) (hy : y ≠ 0) W => c_checkF (.pointer (some ⟨r, 0, none⟩)) y hy W)
        have HC0 := Lib.hid (fun W => c_check0 (.pointer (some ⟨r, 0, none⟩)) W)
        unfold FailE at HCF
        have HPL : Hid (ups.length ≤ m) := Lib.hid (by have := HR8.out.m0; have := HUL.out; omega)
        have HOP : Hid (∀ W, Below w8.heap.size w8 W → Calls Tryz.prog 132 #[.pointer (some ⟨R.st, 0, none⟩), .slice pV pnv pcv, .slice (some ⟨ba, 0, none⟩) j j] W fun e w' => OpP w0 B0 W r R S fuel f (enterM ups args σ) e w') := Lib.hid fun W hW => by
          have hrW := HR8.out.next hW HR8.out.B
          have haW := HA8.out.next hW
          refine c_Enter1 hrW (HVS.out W hrW.base hrW.B) HUL.out ?_ HXN.out (by omega)
          exact fun i s hs => ⟨ba, 0, rfl, haW.lt, by rw [haW.cell, Nat.zero_add]; exact argRow_end HXN.out hs⟩
        obtain ⟨QO, hQO⟩ : ∃ QO, enterM ups args σ = QO := ⟨_, rfl⟩
        rw [hQO] at HOP HQ3
        have HQO := Lib.hid hQO
        clear hQO
        cases QO with
        | error eo =>
          obtain rfl : QT = .error eo := HQ3.out.symm
          unfold OpP at HOP
          dsimp only at HOP
          go_wp2_with fail
          refine wp_region_held_drew (S := fun W => Fr (RO S R r) w8 W ∧ W.cell? ⟨r, 6, none⟩ = some (.pointer (some ⟨R.st, 0, none⟩))) (by kernel_rfl) (⟨(Fr.refl _ _).drew, HR8.out.cell6⟩) (fun hH => ?_)
          refine wpAnyH_atN ?_
          intro wa hwa
          have hX : Below w8.heap.size w8 wa := by rw [hwa]; exact (Below.refl _ _).drew
          replace hH := (show Fr (RO S R r) w8 wa ∧ wa.cell? ⟨r, 6, none⟩ = some (.pointer (some ⟨R.st, 0, none⟩)) by rw [hwa]; exact hH)
          clear hwa
          refine tkQ 0 (v := ?_) rfl hH ?_
          (try simp only [PU, Act.put])
          refine tkQ 1 (v := ?_) rfl hH ?_
          (try simp only [PU, Act.put])
          refine tkQ 2 (v := ?_) rfl hH ?_
          (try simp only [PU, Act.put])
          refine tkQ 3 (v := ?_) rfl hH ?_
          (try simp only [PU, Act.put])
          refine tkK 4 (v := ?_) rfl ?hy hH ?_
          case hy => (intro w9_ hS9; have t := hS9.2; clear hS9; go_simp; try with_reducible rfl)
          (try simp only [PU, Act.put])
          refine tkQ 5 (v := ?_) rfl hH ?_
          (try simp only [PU, Act.put])
          refine tkK 6 (v := ?_) rfl ?hy hH ?_
          case hy => (intro w9_ hS9; have t := (hS9.1.blk HK8.out HN10.out).cell; clear hS9; go_simp; try with_reducible rfl)
          (try simp only [PU, Act.put])
          refine tkQ 7 (v := ?_) rfl hH ?_
          (try simp only [PU, Act.put])
          refine nxH 8 (by kernel_rfl) rfl (fun K hK => ?_)
          go_simp
          refine (HOP.out _ hX).mono ?_
          rintro en wb_ ⟨rfl, hne, hbb, hfo, h6⟩
          refine hK.out _ _ ⟨(Fr.of hX).trans hfo, h6⟩ (fun hH => ?_)
          clear hK
          (try simp only [PU, Act.put])
          refine nxH 9 (by kernel_rfl) rfl (fun K hK => ?_)
          go_simp
          refine (HCF.out _ hne _).mono ?_
          rintro en wc_ ⟨rfl, rfl⟩
          dsimp only
          exact ⟨rfl, rfl, hbb⟩
        | ok σ1 =>
          unfold OpP at HOP
          dsimp only at HOP HQ3
          go_wp2_with fail
          refine wp_region_held_drew (S := fun W => Fr (RO S R r) w8 W ∧ W.cell? ⟨r, 6, none⟩ = some (.pointer (some ⟨R.st, 0, none⟩))) (by kernel_rfl) (⟨(Fr.refl _ _).drew, HR8.out.cell6⟩) (fun hH => ?_)
          refine wpAnyH_atN ?_
          intro wa hwa
          have hX : Below w8.heap.size w8 wa := by rw [hwa]; exact (Below.refl _ _).drew
          replace hH := (show Fr (RO S R r) w8 wa ∧ wa.cell? ⟨r, 6, none⟩ = some (.pointer (some ⟨R.st, 0, none⟩)) by rw [hwa]; exact hH)
          clear hwa
          refine tkQ 0 (v := ?_) rfl hH ?_
          (try simp only [PU, Act.put])
          refine tkQ 1 (v := ?_) rfl hH ?_
          (try simp only [PU, Act.put])
          refine tkQ 2 (v := ?_) rfl hH ?_
          (try simp only [PU, Act.put])
          refine tkQ 3 (v := ?_) rfl hH ?_
          (try simp only [PU, Act.put])
          refine tkK 4 (v := ?_) rfl ?hy hH ?_
          case hy => (intro w9_ hS9; have t := hS9.2; clear hS9; go_simp; try with_reducible rfl)
          (try simp only [PU, Act.put])
          refine tkQ 5 (v := ?_) rfl hH ?_
          (try simp only [PU, Act.put])
          refine tkK 6 (v := ?_) rfl ?hy hH ?_
          case hy => (intro w9_ hS9; have t := (hS9.1.blk HK8.out HN10.out).cell; clear hS9; go_simp; try with_reducible rfl)
          (try simp only [PU, Act.put])
          refine tkQ 7 (v := ?_) rfl hH ?_
          (try simp only [PU, Act.put])
          refine nxH 8 (by kernel_rfl) rfl (fun K hK => ?_)
          go_simp
          refine (HOP.out _ hX).mono ?_
          rintro en wb_ ⟨rfl, ⟨S5, hra, hx5⟩, hfo, h6⟩
          refine hK.out _ _ ⟨(Fr.of hX).trans hfo, h6⟩ (fun hH => ?_)
          clear hK
          (try simp only [PU, Act.put])
          have HRA := Lib.hid hra; have HX5 := Lib.hid hx5
          clear hra hx5 hfo h6
          refine nxH 9 (by kernel_rfl) rfl (fun K hK => ?_)
          go_simp
          refine (HC0.out _).mono ?_
          rintro en wc_ ⟨rfl, rfl⟩
          refine hK.out _ _ hH (fun hH => ?_)
          clear hK
          (try simp only [PU, Act.put])
          refine wpAnyH_done (by kernel_rfl) ?_ _
          have HR5 := Lib.hid (HRA.out kd m (enterM_ok HR8.out.ok HPL.out HQO.out) HR8.out.fm HR8.out.m0)
          have HX6 : Hid (S.Ext S5 w7) := Lib.hid ⟨HX5.out.1, fun k hk => HX5.out.2 k (Nat.lt_of_lt_of_le hk (Nat.le_trans HF8.out.size hX.size))⟩
          have HF5 := Lib.hid (HF8.out.trans hH.1)
          clear hX hH HRA HX5 HOP HR8 HF8 HK8 HA8
          obtain ⟨z_1, T_1, F_1⟩ := (HRB.out _ S5 σ1 f kd m HR5.out).open_
          obtain ⟨⟨ev, e0⟩, ef⟩ := HEC.out _ S5 σ1 f kd m HR5.out
          go_upto_region 12 with fail
          refine wp_nameE ?_
          intro w11 hw11
          have HRF := Lib.hid (show RAt w0 B0 w11 r R S5 σ1 fuel f kd m ∧ Fr (RO S5 R r) wc_ w11 by rw [hw11]; exact HCT.out _ _ _ _ _ _ _ HR5.out)
          have HF11 := Lib.hid (RO.fr HX6.out HF5.out HRF.out.2)
          have HR11 := Lib.hid HRF.out.1
          have HKP : Hid (∀ W, Fr (RO S R r) w7 W → Blk W b10 64 #[.string pnm, .slice pV pnv pcv, .int .u8 bk, .int .i64 bnum, .string bnm, .slice bA bn bc]) := Lib.hid fun W hW => hW.blk HK10.out HN10.out
          clear hw11 HR5 HF5 HRF z_1 T_1 F_1 e0 ef
          obtain ⟨z_1, T_1, F_1⟩ := (HKP.out _ HF11.out).open_
          have HC := Lib.hid (HBL.out _ S5 σ1 f _ _ HR11.out HFN'.out)
          obtain ⟨QB, hQB⟩ : ∃ QB, MB σ1 f = QB := ⟨_, rfl⟩
          unfold Mo.seq at HQ3
          rw [hQB] at HC HQ3
          clear hQB
          go_wp2_with fail
          cases QB with
          | error e4 =>
            obtain rfl : QT = .error e4 := HQ3.out.symm
            unfold RunP FailE at HC
            dsimp only at HC
            refine HC.out.mono ?_
            rintro en w12 ⟨rfl, hbw12⟩
            have HBw12 := Lib.hid hbw12
            clear hbw12
            go_wp2_with fail
            exact ⟨rfl, rfl, HBw12.out⟩
          | ok r4 =>
            obtain ⟨σ2, f2⟩ := r4
            unfold RunP at HC
            dsimp only at HC HQ3
            refine HC.out.mono ?_
            rintro en w12 ⟨rfl, S7, kd7, m7, hr7, hx7, hf7⟩
            have HR12 := Lib.hid hr7
            have HF12 := Lib.hid (RO.fr HX6.out HF11.out hf7)
            have HX12 := Lib.hid (HX6.out.trans hx7 HF11.out.size)
            clear hr7 hx7 hf7 HC z_1 T_1 F_1 HX6 HF11 HR11
            go_wp2_with fail
            cases f2 with
            | zero =>
              obtain rfl : QT = .error 18 := HQ3.out.symm
              have HC := Lib.hid (c_stepRF HR12.out)
              unfold FailE at HC
              refine HC.out.mono ?_
              rintro en w13 ⟨rfl, hbw13⟩
              have HBw13 := Lib.hid hbw13
              clear hbw13
              go_wp2_with fail
              exact ⟨rfl, rfl, HBw13.out⟩
            | succ f3 =>
              refine (c_stepR HR12.out).mono ?_
              rintro en w13 ⟨rfl, hr8, hf8⟩
              have HR13 := Lib.hid hr8
              have HF13 : Hid (Fr (RO S R r) w7 w13) := Lib.hid (RO.fr HX12.out HF12.out (hf8.mono fun k hk => .inr (.inl hk)))
              clear hr8 hf8 HR12
              have HQ5 : Hid ((match leaveM σ2 with | .error e => (.error e : Except Int (PSt × Nat)) | .ok σ' => .ok (σ', f3)) = QT) := Lib.hid (by rw [← HQ3.out]; rfl)
              clear HQ3
              have HOP := Lib.hid (c_Leave1 HR13.out)
              obtain ⟨QO, hQO⟩ : ∃ QO, leaveM σ2 = QO := ⟨_, rfl⟩
              rw [hQO] at HOP HQ5
              replace HQO := Lib.hid hQO
              clear hQO
              obtain ⟨z_1, T_1, F_1⟩ := (HRB.out _ S7 σ2 f3 kd7 m7 HR13.out).open_
              cases QO with
              | error eo =>
                obtain rfl : QT = .error eo := HQ5.out.symm
                unfold OpP at HOP
                dsimp only at HOP
                go_wp2_with fail
                refine HOP.out.mono ?_
                rintro en w14 ⟨rfl, hne, hbb, _, _⟩
                have HBB := Lib.hid hbb; have HNE := Lib.hid hne
                clear hbb hne z_1 T_1 F_1
                go_wp2_with fail
                refine (HCF.out eo HNE.out w14).mono ?_
                rintro en w15 ⟨rfl, rfl⟩
                go_wp2_with fail
                exact ⟨rfl, rfl, HBB.out⟩
              | ok σ3 =>
                obtain rfl : QT = .ok (σ3, f3) := HQ5.out.symm
                unfold OpP at HOP
                dsimp only at HOP HQ5
                go_wp2_with fail
                refine HOP.out.mono ?_
                rintro en w14 ⟨rfl, ⟨S8, hra, hx8⟩, hfo, _⟩
                have HR14 := Lib.hid (hra kd7 m7 (leaveM_ok HR13.out.ok HQO.out) HR13.out.fm HR13.out.m0)
                have HX14 := Lib.hid (HX12.out.trans hx8 HF13.out.size)
                have HF14 := Lib.hid (RO.fr HX12.out HF13.out hfo)
                clear hra hx8 hfo z_1 T_1 F_1
                go_wp2_with fail
                refine (HC0.out w14).mono ?_
                rintro en w15 ⟨rfl, rfl⟩
                go_wp2_with fail
                refine bodyPost_end (results_none rfl _ _ _) rfl ?_
                exact ⟨rfl, S8, kd7, m7, HR14.out, HXW.out _ HX14.out, HF7.out.trans HF14.out⟩
end
end Go.Proofs.YtakfdnnlhjhcfaaGreatDoor
