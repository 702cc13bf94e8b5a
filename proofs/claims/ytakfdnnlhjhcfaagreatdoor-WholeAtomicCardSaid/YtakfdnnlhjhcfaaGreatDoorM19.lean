/- WhEx WhEs. -/
import Derived.Test.YtakfdnnlhjhcfaaGreatDoorM18
set_option linter.unusedVariables false
set_option linter.unusedSimpArgs false
set_option linter.unusedSimpArgs false
set_option maxRecDepth 100000
set_option maxHeartbeats 4000000
namespace Bk
open Go Go.RowKit
theorem faultE_pl {vars : List Vr} {p : Ex} (hp : p.isPl) (h : faultE vars p = 0) : ∃ k, (k = 1 ∨ k = 2) ∧ useE vars p.nam k = 0 := by
  cases p with
  | var s => exact ⟨1, .inl rfl, h⟩
  | item s a =>
    refine ⟨2, .inr rfl, ?_⟩
    unfold faultE at h
    by_cases h0 : useE vars s 2 = 0
    · exact h0
    · rw [if_pos h0] at h; exact absurd h h0
  | num v => exact hp.elim
  | top s => exact hp.elim
  | size s => exact hp.elim
  | un op a => exact hp.elim
  | bin op a b => exact hp.elim
structure PlS (σ : PSt) (kd : Nat → Int) (s : ByteArray) (k : Int) (j c : Nat) (l : List Int) : Prop where
  find : findV s σ.cur.vars = some j
  idx : σ.cur.idx[j]? = some c
  cell : σ.cells[c]? = some l
  kd : kd c = k
  len : σ.len s = l.length
  read : ∀ i, σ.read s i = l.getD i 0
  write : ∀ i v, σ.write s i v = { σ with cells := σ.cells.set c (l.set i v) }
  put : ∀ l', σ.setCell s l' = { σ with cells := σ.cells.set c l' }
  look : σ.look s = some l
  ml : l.length ≤ 1000
theorem PSt.Ok.pls {kd : Nat → Int} {m : Nat} {σ : PSt} (h : σ.Ok kd m) {s : ByteArray} {k : Int} (hu : useE σ.cur.vars s k = 0) : ∃ j c l, PlS σ kd s k j c l := by
  obtain ⟨j, c, l, h1, h2, h3, h4, h5, h6⟩ := h.use hu
  refine ⟨j, c, l, h1, h2, h3, h4, by unfold PSt.len; rw [h6]; rfl, fun i => by unfold PSt.read; rw [h6]; rfl, fun i v => ?_, fun l' => by unfold PSt.setCell; rw [h5], h6, (h.one c l h3).2⟩
  unfold PSt.write
  rw [h5]
  simp [List.getD_eq_getElem?_getD, h3]
theorem Kid.upS {w w' : World} {B B' i : Nat} {x y : Nd} (h : Kid w B x i y) (hb : Below B w w') (hB : B ≤ B') : Kid w' B' x i y := by
  obtain ⟨g, o, h1, h2, h3⟩ := h.next hb
  exact ⟨g, o, h1, Nat.lt_of_lt_of_le h2 hB, h3⟩
theorem EV.nam {w : World} {B : Nat} {nb : ByteArray → Bool} {p : Ex} {y : Nd} (h : EV w B nb p y) (hp : p.isPl) : y.nm = p.nam := by
  cases p with
  | var s => exact h.2.2.1
  | item s a => exact h.2.2.1
  | num v => exact hp.elim
  | top s => exact hp.elim
  | size s => exact hp.elim
  | un op a => exact hp.elim
  | bin op a b => exact hp.elim
end Bk
namespace Go.Proofs.YtakfdnnlhjhcfaaGreatDoor
section
open Go.RowKit Bk
section
variable {w : World} {B d : Nat} {S : Sv} {σ : PSt} {kd : Nat → Int} {m : Nat}
theorem SOn.lkL (h : SOn w B S σ) (ho : σ.Ok kd m) (hm : m ≤ 10000) : LkAt w w.heap.size 158 (.pointer (some ⟨S.st, 0, none⟩)) σ.look :=
  ⟨fun _ _ => rfl, fun s w' hb => (c_lookup (h.next hb) ho hm s).mono fun e w'' h => ⟨h.1.x, by rw [h.2]; exact Below.refl _ _⟩, fun s l hl => ho.lookLen hl⟩
theorem Kid.at2 {x y : Nd} {i : Nat} (h : Kid w w.heap.size x i y) : ∃ gk ok, x.A = some ⟨gk, ok, none⟩ ∧ ∀ W, Below w.heap.size w W → W.cell? ⟨gk, ok + i * 4, none⟩ = some (.int .u8 y.k) ∧ W.cell? ⟨gk, ok + i * 4 + 1, none⟩ = some (.int .i64 y.num) ∧ W.cell? ⟨gk, ok + i * 4 + 2, none⟩ = some (.string y.nm) ∧ W.cell? ⟨gk, ok + i * 4 + 3, none⟩ = some (.slice y.A y.n y.cap) := by
  obtain ⟨g, o, h1, h2, h3⟩ := h
  refine ⟨g, o, h1, fun W hW => ?_⟩
  have q : ∀ (j : Nat) (v : Value), y.cells[j]? = some v → W.cell? ⟨g, o + i * 4 + j, none⟩ = some v := fun j v hv => (hW.cell (p := ⟨g, o + i * 4 + j, none⟩) h2).trans (h3 j v hv)
  exact ⟨q 0 _ rfl, q 1 _ rfl, q 2 _ rfl, q 3 _ rfl⟩
theorem ex_upd (h : SOn w B S σ) (ho : σ.Ok kd m) (hm : m ≤ 10000) {x y z : Nd} {op : Int} (hk : x.k = op) (hop : op = 40 ∨ op = 41 ∨ op = 42) (hn : x.n = 2) (hky : Kid w w.heap.size x 0 y) (hkz : Kid w w.heap.size x 1 z) {p e : Ex} (hp : p.isPl) (hy : EV w w.heap.size nameB p y) (hz : EV w w.heap.size nameB e z) (hvy : KV w w.heap.size d y) (hvz : KV w w.heap.size d z) (hf : faultE σ.cur.vars p = 0) :
    Calls Tryz.prog 137 #[.pointer (some ⟨S.st, 0, none⟩), .agg #[.int .u8 x.k, .int .i64 x.num, .string x.nm, .slice x.A x.n x.cap]] w fun en w' => RetS B S w (placeM σ p (evalG σ.look e) fun i v => .ok (σ.write p.nam i (updV op (σ.read p.nam i) v))) en w' := by
  obtain ⟨pk, _, hu⟩ := faultE_pl hp hf
  obtain ⟨j, c, l, hpl⟩ := ho.pls hu
  have HL := h.lkL ho hm
  have HIX := Lib.hid (fun W hW => e_IndexG (Nat.le_refl _) HL p y hy hp hvy W hW)
  have HEX := Lib.hid (fun W hW => e_ExprG (Nat.le_refl _) HL e z hz hvz W hW)
  have HCL := Lib.hid (fun W (hW : Below w.heap.size w W) => c_cell (h.next hW) ho hm hpl.find hpl.idx)
  have HUP := Lib.hid (fun a b (W : World) => c_Update op a b hop W)
  have HNM := hy.nam hp; have HNH := Lib.hid HNM
  rw [← HNM] at HCL; clear HNM
  unfold placeM
  rw [hpl.len]
  obtain ⟨ix, hix⟩ : ∃ ix, indexE σ.look p = ix := ⟨_, rfl⟩
  obtain ⟨rx, hrx⟩ : ∃ rx, evalG σ.look e = rx := ⟨_, rfl⟩
  rw [hix] at HIX ⊢
  rw [hrx] at HEX ⊢
  obtain ⟨ri, re⟩ := ix
  obtain ⟨rv, rr⟩ := rx
  dsimp only at *
  obtain ⟨q, hq⟩ : ∃ q : Rs, (if re ≠ 0 then .error re else if rr ≠ 0 then .error rr else if ri < 0 ∨ (l.length : Int) ≤ ri then .error 12 else .ok (σ.write p.nam ri.toNat (updV op (σ.read p.nam ri.toNat) rv))) = q := ⟨_, rfl⟩
  rw [hq]
  have HQ := Lib.hid hq
  have hcell := h.cells c l hpl.cell
  have HPL := Lib.hid hpl
  obtain ⟨gk, ok, hA, hc0⟩ := Kid.at2 hky
  obtain ⟨gk', ok', hA', hc1⟩ := Kid.at2 hkz
  rw [hA] at hA'
  injection hA' with hA'
  injection hA' with e1 e2
  subst e1; subst e2
  rw [Nat.zero_mul, Nat.add_zero] at hc0
  rw [Nat.one_mul] at hc1
  have HC0 := Lib.hid hc0; have HC1 := Lib.hid hc1; have H := Lib.hid h
  have HCB := Lib.hid hcell.blk
  obtain ⟨A1, cp1, e1⟩ := own_form hcell.own
  rw [e1] at HCB
  have HE1 := Lib.hid e1
  have hml := hpl.ml
  have HPC : Hid (∀ i, i < l.length → ∃ g cp, S.iv c = .slice (some ⟨g, 0, none⟩) l.length cp ∧ g < w.heap.size ∧ S.ro g = .items c ∧ w.cell? ⟨g, i, none⟩ = some (.int .i64 (l.getD i 0)) ∧ w.frozen? ⟨g, i, none⟩ = false) := Lib.hid fun i hi => h.place hpl.cell hi
  have HRB := Lib.hid hcell.rb
  clear hq hpl hcell HL h hky hkz hy hz hvy hvz ho hu hf e1 hix hrx hc0 hc1
  obtain ⟨k, num, nm, A, n, cap⟩ := x
  obtain ⟨yk, ynum, ynm, yA, yn, ycap⟩ := y
  obtain ⟨zk, znum, znm, zA, zn, zcap⟩ := z
  dsimp only at *
  subst hk
  subst hA
  have q0 : (0 : Int) < (n : Int) := by omega
  have q1 : (1 : Int) < (n : Int) := by omega
  have kk : (k == 43) = false := beq_eq_false_iff_ne.2 (by omega)
  have HOP := Lib.hid hop
  obtain ⟨b0, hb0⟩ : ∃ b0, (k == 40) = b0 := ⟨_, rfl⟩
  obtain ⟨b1, hb1⟩ : ∃ b1, (k == 41) = b1 := ⟨_, rfl⟩
  obtain ⟨b2, hb2⟩ : ∃ b2, (k == 42) = b2 := ⟨_, rfl⟩
  have hbb : (b0 = true) ∨ (b0 = false ∧ b1 = true) ∨ (b0 = false ∧ b1 = false ∧ b2 = true) := by
    rcases hop with h | h | h <;> subst h <;> simp at hb0 hb1 hb2 <;> subst hb0 <;> subst hb1 <;> subst hb2 <;> simp
  clear hop hn
  rcases hbb with rfl | ⟨rfl, rfl⟩ | ⟨rfl, rfl, rfl⟩
  all_goals
    by_cases h1 : re = 0
    rotate_left
    · have hne : (re != 0) = true := bne_iff_ne.2 h1
      go_enter Tryz.func137, Tryz.ntmps137
      go_upto_region 1 with fail; refine wp_nameE ?_; intro w1 hw1; have hb1 : Below w.heap.size w w1 := (by rw [hw1]; exact (by go_grown)); have K1 : Blk w1 w.heap.size 26 #[.int .u8 k, .int .i64 num, .string nm, .slice (some ⟨gk, ok, none⟩) n cap] := (by rw [hw1]; exact blkA); have HK1 := Lib.hid K1; have HB1 := Lib.hid hb1; clear hw1 hb1; obtain ⟨z_1, T_1, F_1⟩ := K1.open_; clear K1; obtain ⟨c0, c1, c2, c3⟩ := HC0.out _ HB1.out
      go_wp2_with fail
      refine (HIX.out w1 HB1.out).mono ?_
      rintro en w2 ⟨rfl, hb2⟩; have HB2 := Lib.hid (HB1.out.next hb2); have HK2 := Lib.hid (HK1.out.next hb2); clear T_1 z_1 F_1 hb2 c0 c1 c2 c3; obtain ⟨z_1, T_1, F_1⟩ := HK2.out.open_
      go_wp2_with fail
      go_ret
      rw [← HQ.out, if_pos h1]
      exact ⟨rfl, h1, Fr.of HB2.out⟩
    subst h1
    by_cases h2 : rr = 0
    rotate_left
    · have hne : (rr != 0) = true := bne_iff_ne.2 h2
      go_enter Tryz.func137, Tryz.ntmps137
      go_upto_region 1 with fail; refine wp_nameE ?_; intro w1 hw1; have hb1 : Below w.heap.size w w1 := (by rw [hw1]; exact (by go_grown)); have K1 : Blk w1 w.heap.size 26 #[.int .u8 k, .int .i64 num, .string nm, .slice (some ⟨gk, ok, none⟩) n cap] := (by rw [hw1]; exact blkA); have HK1 := Lib.hid K1; have HB1 := Lib.hid hb1; clear hw1 hb1; obtain ⟨z_1, T_1, F_1⟩ := K1.open_; clear K1; obtain ⟨c0, c1, c2, c3⟩ := HC0.out _ HB1.out
      go_wp2_with fail
      refine (HIX.out w1 HB1.out).mono ?_
      rintro en w2 ⟨rfl, hb2⟩; have HB2 := Lib.hid (HB1.out.next hb2); have HK2 := Lib.hid (HK1.out.next hb2); clear T_1 z_1 F_1 hb2 c0 c1 c2 c3; obtain ⟨z_1, T_1, F_1⟩ := HK2.out.open_
      obtain ⟨c0, c1, c2, c3⟩ := HC1.out _ HB2.out
      go_wp2_with fail
      refine (HEX.out w2 HB2.out).mono ?_
      rintro en w3 ⟨rfl, hb3⟩; have HB3 := Lib.hid (HB2.out.next hb3); have HK3 := Lib.hid (HK2.out.next hb3); clear T_1 z_1 F_1 hb3; (try clear c0 c1 c2 c3); obtain ⟨z_1, T_1, F_1⟩ := HK3.out.open_
      go_wp2_with fail
      go_ret
      rw [← HQ.out]
      simp only [ne_eq, not_true_eq_false, if_false, h2, not_false_eq_true, if_true]
      exact ⟨rfl, h2, Fr.of HB3.out⟩
    subst h2
    by_cases h3 : ri < 0 ∨ (l.length : Int) ≤ ri
    · have HR12 : Hid (q = .error 12) := Lib.hid (by rw [← HQ.out]; simp only [ne_eq, not_true_eq_false, if_false, if_pos h3])
      have hd3 : ri < 0 ∨ ¬ ri < 0 ∧ decide ((l.length : Int) ≤ ri) = true := by
        rcases h3 with h | h
        · exact .inl h
        · by_cases h4 : ri < 0
          · exact .inl h4
          · exact .inr ⟨h4, by simpa using h⟩
      clear h3
      go_enter Tryz.func137, Tryz.ntmps137
      go_upto_region 1 with fail; refine wp_nameE ?_; intro w1 hw1; have hb1 : Below w.heap.size w w1 := (by rw [hw1]; exact (by go_grown)); have K1 : Blk w1 w.heap.size 26 #[.int .u8 k, .int .i64 num, .string nm, .slice (some ⟨gk, ok, none⟩) n cap] := (by rw [hw1]; exact blkA); have HK1 := Lib.hid K1; have HB1 := Lib.hid hb1; clear hw1 hb1; obtain ⟨z_1, T_1, F_1⟩ := K1.open_; clear K1; obtain ⟨c0, c1, c2, c3⟩ := HC0.out _ HB1.out
      go_wp2_with fail
      refine (HIX.out w1 HB1.out).mono ?_
      rintro en w2 ⟨rfl, hb2⟩; have HB2 := Lib.hid (HB1.out.next hb2); have HK2 := Lib.hid (HK1.out.next hb2); clear T_1 z_1 F_1 hb2 c0 c1 c2 c3; obtain ⟨z_1, T_1, F_1⟩ := HK2.out.open_
      obtain ⟨c0, c1, c2, c3⟩ := HC1.out _ HB2.out
      go_wp2_with fail
      refine (HEX.out w2 HB2.out).mono ?_
      rintro en w3 ⟨rfl, hb3⟩; have HB3 := Lib.hid (HB2.out.next hb3); have HK3 := Lib.hid (HK2.out.next hb3); clear T_1 z_1 F_1 hb3; (try clear c0 c1 c2 c3); obtain ⟨z_1, T_1, F_1⟩ := HK3.out.open_
      obtain ⟨c0, c1, c2, c3⟩ := HC0.out _ HB3.out
      go_wp2_with fail
      refine (HCL.out w3 HB3.out).mono ?_
      rintro en w4 ⟨rfl, hb4⟩; have HB4 := Lib.hid (HB3.out.next hb4); have HK4 := Lib.hid (HK3.out.next hb4); clear T_1 z_1 F_1 hb4 c0 c1 c2 c3; obtain ⟨z_1, T_1, F_1⟩ := HK4.out.open_
      have e0 := (HCB.out.next HB4.out).cell 0
      rcases hd3 with hd3 | ⟨hd3, hd4⟩
      all_goals
        go_wp2_with fail
        go_ret
        rw [HR12.out]
        exact ⟨rfl, by decide, Fr.of HB4.out⟩
    obtain ⟨i, rfl⟩ : ∃ i : Nat, ri = (i : Int) := ⟨ri.toNat, by omega⟩
    have hi : i < l.length := by omega
    obtain ⟨g, cp, he, hgl, hgr, hgc, hgf⟩ := HPC.out i hi
    have HRQ : Hid (q = .ok { σ with cells := σ.cells.set c (l.set i (updV k (l.getD i 0) rv)) }) := Lib.hid (by rw [← HQ.out]; simp only [ne_eq, not_true_eq_false, if_false, if_neg h3, Int.toNat_natCast]; rw [HPL.out.write, HPL.out.read])
    have HHE := Lib.hid he
    rw [HE1.out] at he
    injection he with he _ hcp
    subst he; subst hcp
    obtain ⟨y0, hy0⟩ : ∃ y0, l.getD i 0 = y0 := ⟨_, rfl⟩
    rw [hy0] at hgc HRQ
    obtain ⟨u0, hu0⟩ : ∃ u0, updV k y0 rv = u0 := ⟨_, rfl⟩
    have HUU : Hid (∀ W, Calls Tryz.prog 160 #[.int .u8 k, .int .i64 y0, .int .i64 rv] W fun e w' => e = .returned (.tuple #[.int .i64 u0, .int .i64 0]) ∧ W = w') := Lib.hid fun W => by have := HUP.out y0 rv W; rwa [hu0] at this
    rw [hu0] at HRQ
    have j0 : (0 : Int) ≤ (i : Int) := by omega
    have j1 : (i : Int) < (l.length : Int) := by omega
    have j2 : ¬ ((i : Int) < 0) := by omega
    have j3 : ¬ ((l.length : Int) ≤ (i : Int)) := by omega
    have HGC := Lib.hid hgc; have HGF := Lib.hid hgf
    clear hgc hgf h3 hi hy0 hu0
    go_enter Tryz.func137, Tryz.ntmps137
    go_upto_region 1 with fail; refine wp_nameE ?_; intro w1 hw1; have hb1 : Below w.heap.size w w1 := (by rw [hw1]; exact (by go_grown)); have K1 : Blk w1 w.heap.size 26 #[.int .u8 k, .int .i64 num, .string nm, .slice (some ⟨gk, ok, none⟩) n cap] := (by rw [hw1]; exact blkA); have HK1 := Lib.hid K1; have HB1 := Lib.hid hb1; clear hw1 hb1; obtain ⟨z_1, T_1, F_1⟩ := K1.open_; clear K1; obtain ⟨c0, c1, c2, c3⟩ := HC0.out _ HB1.out
    go_wp2_with fail
    refine (HIX.out w1 HB1.out).mono ?_
    rintro en w2 ⟨rfl, hb2⟩; have HB2 := Lib.hid (HB1.out.next hb2); have HK2 := Lib.hid (HK1.out.next hb2); clear T_1 z_1 F_1 hb2 c0 c1 c2 c3; obtain ⟨z_1, T_1, F_1⟩ := HK2.out.open_
    obtain ⟨c0, c1, c2, c3⟩ := HC1.out _ HB2.out
    go_wp2_with fail
    refine (HEX.out w2 HB2.out).mono ?_
    rintro en w3 ⟨rfl, hb3⟩; have HB3 := Lib.hid (HB2.out.next hb3); have HK3 := Lib.hid (HK2.out.next hb3); clear T_1 z_1 F_1 hb3; (try clear c0 c1 c2 c3); obtain ⟨z_1, T_1, F_1⟩ := HK3.out.open_
    obtain ⟨c0, c1, c2, c3⟩ := HC0.out _ HB3.out
    go_wp2_with fail
    refine (HCL.out w3 HB3.out).mono ?_
    rintro en w4 ⟨rfl, hb4⟩; have HB4 := Lib.hid (HB3.out.next hb4); have HK4 := Lib.hid (HK3.out.next hb4); clear T_1 z_1 F_1 hb4 c0 c1 c2 c3; obtain ⟨z_1, T_1, F_1⟩ := HK4.out.open_
    have e0 := (HCB.out.next HB4.out).cell 0
    have d0 := (HB4.out.cell (p := ⟨g, i, none⟩) hgl).trans HGC.out
    have f0 : w4.frozen? ⟨g, i, none⟩ = false := (World.frozen?_of_block (a := ⟨g, i, none⟩) (HB4.out.block g hgl)).trans HGF.out
    have HFINN : Hid (∀ nn, (∃ S', SOn ((w4.drewN nn).setCell ⟨g, i, none⟩ (.int .i64 u0)) B S' { σ with cells := σ.cells.set c (l.set i u0) } ∧ S.Ext S' w) ∧ Fr S.O w ((w4.drewN nn).setCell ⟨g, i, none⟩ (.int .i64 u0))) := Lib.hid fun nn => by
      have hb4 : Below w.heap.size w (w4.drewN nn) := Bk.drewN_ HB4.out nn
      obtain ⟨S', r1, r2, _⟩ := (H.out.next hb4).write (i := i) HPL.out.cell HHE.out u0
      exact ⟨⟨S', r1, r2.1, fun k hk => r2.2 k (Nat.lt_of_lt_of_le hk hb4.size)⟩, (Fr.of hb4).set (p := ⟨g, i, none⟩) (show S.ro g ≠ .none by rw [hgr]; simp) _⟩
    go_wp2_with fail
    go_quiet ((go_at_call 160; exact quietL (HUU.out _)))
    go_wp2_with fail
    go_ret
    rw [HRQ.out]
    exact ⟨rfl, (HFINN.out _).1, (HFINN.out _).2⟩
end
end
section
open Go.RowKit Bk
section
variable {w : World} {B d : Nat} {S : Sv} {σ : PSt} {kd : Nat → Int} {m : Nat}
theorem write2 {σ : PSt} {s s' : ByteArray} {k k' : Int} {j c j' c' : Nat} {l l' : List Int} (h : PlS σ kd s k j c l) (h' : PlS σ kd s' k' j' c' l') (i i' : Nat) (v v' : Int) : (σ.write s i v).write s' i' v' = { σ with cells := (σ.cells.set c (l.set i v)).set c' ((((σ.cells.set c (l.set i v))[c']?).getD []).set i' v') } := by
  rw [h.write]
  unfold PSt.write
  have : ({ σ with cells := σ.cells.set c (l.set i v) } : PSt).at_ s' = some c' := by
    show (findV s' σ.cur.vars).map _ = _
    rw [h'.find]; simp only [Option.map_some, List.getD_eq_getElem?_getD]; show some ((σ.cur.idx[j']?).getD 0) = _; rw [h'.idx]; rfl
  rw [this]
  simp [List.getD_eq_getElem?_getD]
theorem ex_swp (h : SOn w B S σ) (ho : σ.Ok kd m) (hm : m ≤ 10000) {x y z : Nd} (hk : x.k = 43) (hn : x.n = 2) (hky : Kid w w.heap.size x 0 y) (hkz : Kid w w.heap.size x 1 z) {p e : Ex} (hp : p.isPl) (hpe : e.isPl) (hy : EV w w.heap.size nameB p y) (hz : EV w w.heap.size nameB e z) (hvy : KV w w.heap.size d y) (hvz : KV w w.heap.size d z) (hf : faultE σ.cur.vars p = 0) (hf2 : faultE σ.cur.vars e = 0) :
    Calls Tryz.prog 137 #[.pointer (some ⟨S.st, 0, none⟩), .agg #[.int .u8 x.k, .int .i64 x.num, .string x.nm, .slice x.A x.n x.cap]] w fun en w' => RetS B S w (placeM σ p (indexE σ.look e) fun i j => if j < 0 ∨ (σ.len e.nam : Int) ≤ j then .error 12 else .ok ((σ.write p.nam i (σ.read e.nam j.toNat)).write e.nam j.toNat (σ.read p.nam i))) en w' := by
  obtain ⟨pk, _, hu⟩ := faultE_pl hp hf
  obtain ⟨j, c, l, hpl⟩ := ho.pls hu
  obtain ⟨pk', _, hu'⟩ := faultE_pl hpe hf2
  obtain ⟨j', c', l', hpl'⟩ := ho.pls hu'
  have HL := h.lkL ho hm
  have HIX := Lib.hid (fun W hW => e_IndexG (Nat.le_refl _) HL p y hy hp hvy W hW)
  have HEX := Lib.hid (fun W hW => e_IndexG (Nat.le_refl _) HL e z hz hpe hvz W hW)
  have HCL := Lib.hid (fun W (hW : Below w.heap.size w W) => c_cell (h.next hW) ho hm hpl.find hpl.idx)
  have HCL2 := Lib.hid (fun W (hW : Below w.heap.size w W) => c_cell (h.next hW) ho hm hpl'.find hpl'.idx)
  have HNM := hy.nam hp
  have HNM2 := hz.nam hpe
  rw [← HNM] at HCL
  rw [← HNM2] at HCL2
  clear HNM HNM2
  unfold placeM
  rw [hpl.len, hpl'.len]
  obtain ⟨ix, hix⟩ : ∃ ix, indexE σ.look p = ix := ⟨_, rfl⟩
  obtain ⟨rx, hrx⟩ : ∃ rx, indexE σ.look e = rx := ⟨_, rfl⟩
  rw [hix] at HIX ⊢
  rw [hrx] at HEX ⊢
  obtain ⟨ri, re⟩ := ix
  obtain ⟨rv, rr⟩ := rx
  dsimp only at *
  obtain ⟨q, hq⟩ : ∃ q : Rs, (if re ≠ 0 then .error re else if rr ≠ 0 then .error rr else if ri < 0 ∨ (l.length : Int) ≤ ri then .error 12 else if rv < 0 ∨ (l'.length : Int) ≤ rv then .error 12 else .ok ((σ.write p.nam ri.toNat (σ.read e.nam rv.toNat)).write e.nam rv.toNat (σ.read p.nam ri.toNat))) = q := ⟨_, rfl⟩
  rw [hq]
  have HQ := Lib.hid hq
  have hcell := h.cells c l hpl.cell
  have hcell' := h.cells c' l' hpl'.cell
  have HPL := Lib.hid hpl; have HPL2 := Lib.hid hpl'
  obtain ⟨gk, ok, hA, hc0⟩ := Kid.at2 hky
  obtain ⟨gk', ok', hA', hc1⟩ := Kid.at2 hkz
  rw [hA] at hA'
  injection hA' with hA'
  injection hA' with e1 e2
  subst e1; subst e2
  rw [Nat.zero_mul, Nat.add_zero] at hc0
  rw [Nat.one_mul] at hc1
  have HC0 := Lib.hid hc0; have HC1 := Lib.hid hc1; have H := Lib.hid h
  have HCB := Lib.hid hcell.blk; have HCB2 := Lib.hid hcell'.blk
  obtain ⟨A1, cp1, e1⟩ := own_form hcell.own
  obtain ⟨A2, cp2, e2⟩ := own_form hcell'.own
  rw [e1] at HCB
  rw [e2] at HCB2
  have HE1 := Lib.hid e1; have HE2 := Lib.hid e2
  have hml := hpl.ml; have hml' := hpl'.ml
  have HPC : Hid (∀ i, i < l.length → ∃ g cp, S.iv c = .slice (some ⟨g, 0, none⟩) l.length cp ∧ g < w.heap.size ∧ S.ro g = .items c ∧ w.cell? ⟨g, i, none⟩ = some (.int .i64 (l.getD i 0)) ∧ w.frozen? ⟨g, i, none⟩ = false) := Lib.hid fun i hi => h.place hpl.cell hi
  have HPC2 : Hid (∀ i, i < l'.length → ∃ g cp, S.iv c' = .slice (some ⟨g, 0, none⟩) l'.length cp ∧ g < w.heap.size ∧ S.ro g = .items c' ∧ w.cell? ⟨g, i, none⟩ = some (.int .i64 (l'.getD i 0)) ∧ w.frozen? ⟨g, i, none⟩ = false) := Lib.hid fun i hi => h.place hpl'.cell hi
  clear hq hpl hcell hpl' hcell' HL h hky hkz hy hz hvy hvz ho hu hu' hf hf2 e1 e2 hix hrx hc0 hc1
  obtain ⟨k, num, nm, A, n, cap⟩ := x
  obtain ⟨yk, ynum, ynm, yA, yn, ycap⟩ := y
  obtain ⟨zk, znum, znm, zA, zn, zcap⟩ := z
  dsimp only at *
  subst hA
  have q0 : (0 : Int) < (n : Int) := by omega
  have q1 : (1 : Int) < (n : Int) := by omega
  have k3 : (k == 43) = true := beq_iff_eq.2 hk
  have k0 : (k == 40) = false := beq_eq_false_iff_ne.2 (by omega)
  have k1 : (k == 41) = false := beq_eq_false_iff_ne.2 (by omega)
  have k2 : (k == 42) = false := beq_eq_false_iff_ne.2 (by omega)
  clear hk hn
  by_cases h1 : re = 0
  rotate_left
  · have hne : (re != 0) = true := bne_iff_ne.2 h1
    go_enter Tryz.func137, Tryz.ntmps137
    go_upto_region 1 with fail; refine wp_nameE ?_; intro w1 hw1; have hb1 : Below w.heap.size w w1 := (by rw [hw1]; exact (by go_grown)); have K1 : Blk w1 w.heap.size 26 #[.int .u8 k, .int .i64 num, .string nm, .slice (some ⟨gk, ok, none⟩) n cap] := (by rw [hw1]; exact blkA); have HK1 := Lib.hid K1; have HB1 := Lib.hid hb1; clear hw1 hb1; obtain ⟨z_1, T_1, F_1⟩ := K1.open_; clear K1; obtain ⟨c0, c1, c2, c3⟩ := HC0.out _ HB1.out
    go_wp2_with fail
    refine (HIX.out w1 HB1.out).mono ?_
    rintro en w2 ⟨rfl, hb2⟩; have HB2 := Lib.hid (HB1.out.next hb2); have HK2 := Lib.hid (HK1.out.next hb2); clear T_1 z_1 F_1 hb2 c0 c1 c2 c3; obtain ⟨z_1, T_1, F_1⟩ := HK2.out.open_
    go_wp2_with fail
    go_ret
    rw [← HQ.out, if_pos h1]
    exact ⟨rfl, h1, Fr.of HB2.out⟩
  subst h1
  by_cases h2 : rr = 0
  rotate_left
  · have hne : (rr != 0) = true := bne_iff_ne.2 h2
    go_enter Tryz.func137, Tryz.ntmps137
    go_upto_region 1 with fail; refine wp_nameE ?_; intro w1 hw1; have hb1 : Below w.heap.size w w1 := (by rw [hw1]; exact (by go_grown)); have K1 : Blk w1 w.heap.size 26 #[.int .u8 k, .int .i64 num, .string nm, .slice (some ⟨gk, ok, none⟩) n cap] := (by rw [hw1]; exact blkA); have HK1 := Lib.hid K1; have HB1 := Lib.hid hb1; clear hw1 hb1; obtain ⟨z_1, T_1, F_1⟩ := K1.open_; clear K1; obtain ⟨c0, c1, c2, c3⟩ := HC0.out _ HB1.out
    go_wp2_with fail
    refine (HIX.out w1 HB1.out).mono ?_
    rintro en w2 ⟨rfl, hb2⟩; have HB2 := Lib.hid (HB1.out.next hb2); have HK2 := Lib.hid (HK1.out.next hb2); clear T_1 z_1 F_1 hb2 c0 c1 c2 c3; obtain ⟨z_1, T_1, F_1⟩ := HK2.out.open_
    obtain ⟨c0, c1, c2, c3⟩ := HC1.out _ HB2.out
    go_wp2_with fail
    refine (HEX.out w2 HB2.out).mono ?_
    rintro en w3 ⟨rfl, hb3⟩; have HB3 := Lib.hid (HB2.out.next hb3); have HK3 := Lib.hid (HK2.out.next hb3); clear T_1 z_1 F_1 hb3; (try clear c0 c1 c2 c3); obtain ⟨z_1, T_1, F_1⟩ := HK3.out.open_
    go_wp2_with fail
    go_ret
    rw [← HQ.out]
    simp only [ne_eq, not_true_eq_false, if_false, h2, not_false_eq_true, if_true]
    exact ⟨rfl, h2, Fr.of HB3.out⟩
  subst h2
  by_cases h3 : ri < 0 ∨ (l.length : Int) ≤ ri
  · have HR12 : Hid (q = .error 12) := Lib.hid (by rw [← HQ.out]; simp only [ne_eq, not_true_eq_false, if_false, if_pos h3])
    have hd3 : ri < 0 ∨ ¬ ri < 0 ∧ decide ((l.length : Int) ≤ ri) = true := by
      rcases h3 with h | h
      · exact .inl h
      · by_cases h4 : ri < 0
        · exact .inl h4
        · exact .inr ⟨h4, by simpa using h⟩
    clear h3
    go_enter Tryz.func137, Tryz.ntmps137
    go_upto_region 1 with fail; refine wp_nameE ?_; intro w1 hw1; have hb1 : Below w.heap.size w w1 := (by rw [hw1]; exact (by go_grown)); have K1 : Blk w1 w.heap.size 26 #[.int .u8 k, .int .i64 num, .string nm, .slice (some ⟨gk, ok, none⟩) n cap] := (by rw [hw1]; exact blkA); have HK1 := Lib.hid K1; have HB1 := Lib.hid hb1; clear hw1 hb1; obtain ⟨z_1, T_1, F_1⟩ := K1.open_; clear K1; obtain ⟨c0, c1, c2, c3⟩ := HC0.out _ HB1.out
    go_wp2_with fail
    refine (HIX.out w1 HB1.out).mono ?_
    rintro en w2 ⟨rfl, hb2⟩; have HB2 := Lib.hid (HB1.out.next hb2); have HK2 := Lib.hid (HK1.out.next hb2); clear T_1 z_1 F_1 hb2 c0 c1 c2 c3; obtain ⟨z_1, T_1, F_1⟩ := HK2.out.open_
    obtain ⟨c0, c1, c2, c3⟩ := HC1.out _ HB2.out
    go_wp2_with fail
    refine (HEX.out w2 HB2.out).mono ?_
    rintro en w3 ⟨rfl, hb3⟩; have HB3 := Lib.hid (HB2.out.next hb3); have HK3 := Lib.hid (HK2.out.next hb3); clear T_1 z_1 F_1 hb3; (try clear c0 c1 c2 c3); obtain ⟨z_1, T_1, F_1⟩ := HK3.out.open_
    obtain ⟨c0, c1, c2, c3⟩ := HC0.out _ HB3.out
    go_wp2_with fail
    refine (HCL.out w3 HB3.out).mono ?_
    rintro en w4 ⟨rfl, hb4⟩; have HB4 := Lib.hid (HB3.out.next hb4); have HK4 := Lib.hid (HK3.out.next hb4); clear T_1 z_1 F_1 hb4 c0 c1 c2 c3; obtain ⟨z_1, T_1, F_1⟩ := HK4.out.open_
    have e0 := (HCB.out.next HB4.out).cell 0
    rcases hd3 with hd3 | ⟨hd3, hd4⟩
    all_goals
      go_wp2_with fail
      go_ret
      rw [HR12.out]
      exact ⟨rfl, by decide, Fr.of HB4.out⟩
  obtain ⟨i, rfl⟩ : ∃ i : Nat, ri = (i : Int) := ⟨ri.toNat, by omega⟩
  have hi : i < l.length := by omega
  obtain ⟨g, cp, he, hgl, hgr, hgc, hgf⟩ := HPC.out i hi
  have HHE := Lib.hid he
  rw [HE1.out] at he
  injection he with he _ hcp
  subst he; subst hcp
  have j0 : (0 : Int) ≤ (i : Int) := by omega
  have j1 : (i : Int) < (l.length : Int) := by omega
  have j2 : ¬ ((i : Int) < 0) := by omega
  have j3 : ¬ ((l.length : Int) ≤ (i : Int)) := by omega
  have HGC := Lib.hid hgc; have HGF := Lib.hid hgf; have HI := Lib.hid hi; have HJ3 := Lib.hid h3
  clear hgc hgf h3 hi
  by_cases h4 : rv < 0 ∨ (l'.length : Int) ≤ rv
  · have HR12 : Hid (q = .error 12) := Lib.hid (by rw [← HQ.out]; simp only [ne_eq, not_true_eq_false, if_false, if_neg HJ3.out, if_pos h4])
    have hd3 : rv < 0 ∨ ¬ rv < 0 ∧ decide ((l'.length : Int) ≤ rv) = true := by
      rcases h4 with h | h
      · exact .inl h
      · by_cases h5 : rv < 0
        · exact .inl h5
        · exact .inr ⟨h5, by simpa using h⟩
    clear h4
    go_enter Tryz.func137, Tryz.ntmps137
    go_upto_region 1 with fail; refine wp_nameE ?_; intro w1 hw1; have hb1 : Below w.heap.size w w1 := (by rw [hw1]; exact (by go_grown)); have K1 : Blk w1 w.heap.size 26 #[.int .u8 k, .int .i64 num, .string nm, .slice (some ⟨gk, ok, none⟩) n cap] := (by rw [hw1]; exact blkA); have HK1 := Lib.hid K1; have HB1 := Lib.hid hb1; clear hw1 hb1; obtain ⟨z_1, T_1, F_1⟩ := K1.open_; clear K1; obtain ⟨c0, c1, c2, c3⟩ := HC0.out _ HB1.out
    go_wp2_with fail
    refine (HIX.out w1 HB1.out).mono ?_
    rintro en w2 ⟨rfl, hb2⟩; have HB2 := Lib.hid (HB1.out.next hb2); have HK2 := Lib.hid (HK1.out.next hb2); clear T_1 z_1 F_1 hb2 c0 c1 c2 c3; obtain ⟨z_1, T_1, F_1⟩ := HK2.out.open_
    obtain ⟨c0, c1, c2, c3⟩ := HC1.out _ HB2.out
    go_wp2_with fail
    refine (HEX.out w2 HB2.out).mono ?_
    rintro en w3 ⟨rfl, hb3⟩; have HB3 := Lib.hid (HB2.out.next hb3); have HK3 := Lib.hid (HK2.out.next hb3); clear T_1 z_1 F_1 hb3; (try clear c0 c1 c2 c3); obtain ⟨z_1, T_1, F_1⟩ := HK3.out.open_
    obtain ⟨c0, c1, c2, c3⟩ := HC0.out _ HB3.out
    go_wp2_with fail
    refine (HCL.out w3 HB3.out).mono ?_
    rintro en w4 ⟨rfl, hb4⟩; have HB4 := Lib.hid (HB3.out.next hb4); have HK4 := Lib.hid (HK3.out.next hb4); clear T_1 z_1 F_1 hb4 c0 c1 c2 c3; obtain ⟨z_1, T_1, F_1⟩ := HK4.out.open_
    have e0 := (HCB.out.next HB4.out).cell 0
    obtain ⟨c0, c1, c2, c3⟩ := HC1.out _ HB4.out
    go_wp2_with fail
    refine (HCL2.out w4 HB4.out).mono ?_
    rintro en w5 ⟨rfl, hb5⟩; have HB5 := Lib.hid (HB4.out.next hb5); have HK5 := Lib.hid (HK4.out.next hb5); clear T_1 z_1 F_1 hb5 c0 c1 c2 c3 e0; obtain ⟨z_1, T_1, F_1⟩ := HK5.out.open_
    have e0 := (HCB2.out.next HB5.out).cell 0
    rcases hd3 with hd3 | ⟨hd3, hd4⟩
    all_goals
      go_wp2_with fail
      go_ret
      rw [HR12.out]
      exact ⟨rfl, by decide, Fr.of HB5.out⟩
  obtain ⟨i', rfl⟩ : ∃ i' : Nat, rv = (i' : Int) := ⟨rv.toNat, by omega⟩
  have hi' : i' < l'.length := by omega
  obtain ⟨g', cp', he', hgl', hgr', hgc', hgf'⟩ := HPC2.out i' hi'
  have HHE2 := Lib.hid he'
  rw [HE2.out] at he'
  injection he' with he' _ hcp'
  subst he'; subst hcp'
  have p0 : (0 : Int) ≤ (i' : Int) := by omega
  have p1 : (i' : Int) < (l'.length : Int) := by omega
  have p2 : ¬ ((i' : Int) < 0) := by omega
  have p3 : ¬ ((l'.length : Int) ≤ (i' : Int)) := by omega
  have HGC2 := Lib.hid hgc'; have HGF2 := Lib.hid hgf'; have HI2 := Lib.hid hi'
  obtain ⟨a, ha⟩ : ∃ a, l.getD i 0 = a := ⟨_, rfl⟩
  obtain ⟨b, hb⟩ : ∃ b, l'.getD i' 0 = b := ⟨_, rfl⟩
  rw [ha] at HGC
  rw [hb] at HGC2
  have HRQ : Hid (q = .ok { σ with cells := (σ.cells.set c (l.set i b)).set c' ((((σ.cells.set c (l.set i b))[c']?).getD []).set i' a) }) := Lib.hid (by rw [← HQ.out]; simp only [ne_eq, not_true_eq_false, if_false, if_neg HJ3.out, if_neg h4, Int.toNat_natCast]; rw [HPL.out.read, HPL2.out.read, ha, hb, write2 HPL.out HPL2.out])
  have HFIN : Hid (∀ W, Below w.heap.size w W → (∃ S', SOn ((W.setCell ⟨g, i, none⟩ (.int .i64 b)).setCell ⟨g', i', none⟩ (.int .i64 a)) B S' { σ with cells := (σ.cells.set c (l.set i b)).set c' ((((σ.cells.set c (l.set i b))[c']?).getD []).set i' a) } ∧ S.Ext S' w) ∧ Fr S.O w ((W.setCell ⟨g, i, none⟩ (.int .i64 b)).setCell ⟨g', i', none⟩ (.int .i64 a))) := Lib.hid fun W hW => by
    obtain ⟨S', r1, r2, r3, r4⟩ := (H.out.next hW).write (i := i) HPL.out.cell HHE.out b
    obtain ⟨l2, hl2, hlen⟩ : ∃ l2, (σ.cells.set c (l.set i b))[c']? = some l2 ∧ l2.length = l'.length := by
      by_cases hcc : c' = c
      · subst hcc
        have hll : l' = l := by have := HPL.out.cell; rw [HPL2.out.cell] at this; injection this
        exact ⟨_, List.getElem?_set_self (List.getElem?_eq_some_iff.1 HPL.out.cell).1, by simp [hll]⟩
      · exact ⟨_, (List.getElem?_set_ne (fun e => hcc e.symm)).trans HPL2.out.cell, rfl⟩
    rw [hl2]
    obtain ⟨S'', s1, s2, _⟩ := r1.write (i := i') (c := c') (l := l2) (g := g') (cp := cp2) (show (σ.cells.set c (l.set i b))[c']? = some l2 from hl2) (by rw [r4, HHE2.out, hlen]) a
    have hF1 : Fr S.O w (W.setCell ⟨g, i, none⟩ (.int .i64 b)) := (Fr.of hW).set (p := ⟨g, i, none⟩) (show S.ro g ≠ .none by rw [hgr]; simp) _
    exact ⟨⟨S'', s1, s2.1.trans r2.1, fun k hk => (s2.2 k (Nat.lt_of_lt_of_le hk hF1.size)).trans (r2.2 k (Nat.lt_of_lt_of_le hk hW.size))⟩, hF1.set (p := ⟨g', i', none⟩) (show S.ro g' ≠ .none by rw [hgr']; simp) _⟩
  clear hgc' hgf' h4 hi' ha hb
  go_enter Tryz.func137, Tryz.ntmps137
  go_upto_region 1 with fail; refine wp_nameE ?_; intro w1 hw1; have hb1 : Below w.heap.size w w1 := (by rw [hw1]; exact (by go_grown)); have K1 : Blk w1 w.heap.size 26 #[.int .u8 k, .int .i64 num, .string nm, .slice (some ⟨gk, ok, none⟩) n cap] := (by rw [hw1]; exact blkA); have HK1 := Lib.hid K1; have HB1 := Lib.hid hb1; clear hw1 hb1; obtain ⟨z_1, T_1, F_1⟩ := K1.open_; clear K1; obtain ⟨c0, c1, c2, c3⟩ := HC0.out _ HB1.out
  go_wp2_with fail
  refine (HIX.out w1 HB1.out).mono ?_
  rintro en w2 ⟨rfl, hb2⟩; have HB2 := Lib.hid (HB1.out.next hb2); have HK2 := Lib.hid (HK1.out.next hb2); clear T_1 z_1 F_1 hb2 c0 c1 c2 c3; obtain ⟨z_1, T_1, F_1⟩ := HK2.out.open_
  obtain ⟨c0, c1, c2, c3⟩ := HC1.out _ HB2.out
  go_wp2_with fail
  refine (HEX.out w2 HB2.out).mono ?_
  rintro en w3 ⟨rfl, hb3⟩; have HB3 := Lib.hid (HB2.out.next hb3); have HK3 := Lib.hid (HK2.out.next hb3); clear T_1 z_1 F_1 hb3; (try clear c0 c1 c2 c3); obtain ⟨z_1, T_1, F_1⟩ := HK3.out.open_
  obtain ⟨c0, c1, c2, c3⟩ := HC0.out _ HB3.out
  go_wp2_with fail
  refine (HCL.out w3 HB3.out).mono ?_
  rintro en w4 ⟨rfl, hb4⟩; have HB4 := Lib.hid (HB3.out.next hb4); have HK4 := Lib.hid (HK3.out.next hb4); clear T_1 z_1 F_1 hb4 c0 c1 c2 c3; obtain ⟨z_1, T_1, F_1⟩ := HK4.out.open_
  have e0 := (HCB.out.next HB4.out).cell 0
  obtain ⟨c0, c1, c2, c3⟩ := HC1.out _ HB4.out
  go_wp2_with fail
  refine (HCL2.out w4 HB4.out).mono ?_
  rintro en w5 ⟨rfl, hb5⟩; have HB5 := Lib.hid (HB4.out.next hb5); have HK5 := Lib.hid (HK4.out.next hb5); clear T_1 z_1 F_1 hb5 c0 c1 c2 c3 e0; obtain ⟨z_1, T_1, F_1⟩ := HK5.out.open_
  have e0 := (HCB2.out.next HB5.out).cell 0
  have d1 := (HB5.out.cell (p := ⟨g, i, none⟩) hgl).trans HGC.out
  have f1 : w5.frozen? ⟨g, i, none⟩ = false := (World.frozen?_of_block (a := ⟨g, i, none⟩) (HB5.out.block g hgl)).trans HGF.out
  have d2 := (HB5.out.cell (p := ⟨g', i', none⟩) hgl').trans HGC2.out
  have f2 : w5.frozen? ⟨g', i', none⟩ = false := (World.frozen?_of_block (a := ⟨g', i', none⟩) (HB5.out.block g' hgl')).trans HGF2.out
  obtain ⟨vz, hvz⟩ := cell?_setCell_some (w := w5) (p := ⟨g, i, none⟩) (x := .int .i64 b) (q := ⟨g', i', none⟩) (v := .int .i64 b) d2
  go_wp2_with fail
  go_region
  go_wp2_with fail
  go_ret
  rw [HRQ.out]
  have HFF := HFIN.out w5.drew HB5.out.drew
  exact ⟨rfl, HFF.1, HFF.2⟩
end
end
end Go.Proofs.YtakfdnnlhjhcfaaGreatDoor
