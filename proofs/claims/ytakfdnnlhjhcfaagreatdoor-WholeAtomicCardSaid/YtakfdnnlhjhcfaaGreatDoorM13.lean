/- WhU CpuB. -/
import Derived.Test.YtakfdnnlhjhcfaaGreatDoorM12
import Derived.Test.YtakfdnnlhjhcfaaGreatDoorProg
import Derived.Outline
import Derived.Deep.RegionLawGrows
import Derived.IntWalk
set_option linter.unusedVariables false
set_option linter.unusedSimpArgs false
set_option linter.unusedSimpArgs false
set_option maxRecDepth 100000
set_option maxHeartbeats 4000000
namespace Go.Proofs.YtakfdnnlhjhcfaaGreatDoor
section
open Go.RowKit Bk
theorem r_current0 {w : World} {st cp : Nat} {A : Option Addr} {bv bc l tb : Value} (h : Blk w st 123 #[bv, bc, l, .slice A 0 cp, tb]) : Calls Tryz.prog 130 #[.pointer (some ⟨st, 0, none⟩)] w fun e w' => e = .returned (.pointer (some ⟨st, 0, none⟩)) ∧ w' = w := by
  obtain ⟨z_, T_, F_⟩ := h.open_
  clear h
  go_enter Tryz.func130, Tryz.ntmps130
  go_wp2_with fail
  go_ret
  exact ⟨rfl, rfl⟩
theorem r_current1 {w : World} {st g n cp : Nat} {bv bc l tb : Value} (h : Blk w st 123 #[bv, bc, l, .slice (some ⟨g, 0, none⟩) (n + 1) cp, tb]) (hn : n ≤ 1000) : Calls Tryz.prog 130 #[.pointer (some ⟨st, 0, none⟩)] w fun e w' => e = .returned (.pointer (some ⟨g, n * 3, none⟩)) ∧ w' = w := by
  obtain ⟨z_, T_, F_⟩ := h.open_
  clear h
  have hw : wrap64 (n : Int) = (n : Int) := by unfold wrap64; omega
  go_enter Tryz.func130, Tryz.ntmps130
  go_wp2_with fail
  go_ret
  refine ⟨?_, rfl⟩
  simp [hw]
theorem c_current {w : World} {B : Nat} {S : Sv} {σ : PSt} (h : SOn w B S σ) (hn : σ.calls.length ≤ 100) : Calls Tryz.prog 130 #[.pointer (some ⟨S.st, 0, none⟩)] w fun e w' => e = .returned (.pointer (some ⟨S.fb σ, σ.fo, none⟩)) ∧ w' = w := by
  have ht := h.top
  by_cases h0 : σ.calls = []
  · obtain ⟨A, cp, e⟩ := own_form h.calls
    rw [h0] at e
    rw [show S.fb σ = S.st by unfold Sv.fb; rw [if_pos h0], show σ.fo = 0 by unfold PSt.fo; rw [h0]; rfl]
    rw [e] at ht
    exact r_current0 ht
  · obtain ⟨g, cp, x, f, e, _, _, h1⟩ := h.calls_some h0
    rw [show S.fb σ = g by unfold Sv.fb; rw [if_neg h0, e]; rfl, show σ.fo = (σ.calls.length - 1) * 3 from rfl]
    rw [e, show σ.calls.length = σ.calls.length - 1 + 1 by omega] at ht
    exact r_current1 ht (by omega)
def findI (s : ByteArray) (vs : List Vr) : Int := match findV s vs with
  | none => -1
  | some i => (i : Int)
theorem r_find {w : World} {b o nv cv : Nat} {V : Option Addr} {vs : List Vr} (hc : w.cell? ⟨b, o, none⟩ = some (.slice V nv cv)) {B : Nat} (hv : VsAt w B V vs) (hnv : vs.length = nv) (hnv2 : nv ≤ 17592186043904) (name : ByteArray) : Calls Tryz.prog 131 #[.pointer (some ⟨b, o, none⟩), .string name] w fun e w' => e = .returned (.int .i64 (findI name vs)) ∧ w' = w := by
  have HV := Lib.hid hv; have HNV := Lib.hid hnv
  have HFE : Hid (∀ (i : Nat) (v : Vr), vs[i]? = some v → (v.nm.toList == name.toList) = true → (∀ (j : Nat) (u : Vr), i < j → vs[j]? = some u → (u.nm.toList == name.toList) = false) → findI name vs = (i : Int)) := Lib.hid fun i v h1 h2 h3 => by unfold findI; rw [findV_eq h1 h2 h3]
  have HFN : Hid ((∀ (j : Nat) (u : Vr), vs[j]? = some u → (u.nm.toList == name.toList) = false) → findI name vs = -1) := Lib.hid fun h => by unfold findI; rw [findV_none h]
  obtain ⟨r, hr⟩ : ∃ r, findI name vs = r := ⟨_, rfl⟩
  rw [hr] at HFE HFN ⊢
  clear hv hnv hr
  go_enter Tryz.func131, Tryz.ntmps131
  go_wp2_with fail
  go_loopw [5] (fun v5 wr => ∃ j : Nat, j ≤ nv ∧ v5 = .int .i64 ((j : Int) - 1) ∧ (∀ i u, j ≤ i → vs[i]? = some u → (u.nm.toList == name.toList) = false) ∧ wr = w) (fun v _ => (intOf v + 1).toNat)
  case atStart => exact ⟨nv, Nat.le_refl _, by first | rfl | go_num, fun i u hi hu => absurd (List.getElem?_eq_some_iff.1 hu).1 (by have := HNV.out; omega), rfl⟩
  case round =>
    obtain ⟨j, hj, rfl, hpre, rfl⟩ := hrel
    have HPRE := Lib.hid hpre
    clear hpre
    rcases Nat.eq_zero_or_pos j with hj0 | hj0
    · subst hj0
      obtain rfl := HFN.out fun j u hu => HPRE.out j u (Nat.zero_le _) hu
      go_wp2_with fail
      go_ret
      exact ⟨rfl, rfl⟩
    · obtain ⟨i, rfl⟩ : ∃ i, j = i + 1 := ⟨j - 1, by omega⟩
      have e1 : (((i + 1 : Nat) : Int) - 1) = (i : Int) := by omega
      rw [e1]
      obtain ⟨v, hvj⟩ : ∃ v, vs[i]? = some v := ⟨_, List.getElem?_eq_getElem (by have := HNV.out; omega)⟩
      obtain ⟨g, o', hA2, hgB, c0, c1, c2⟩ := HV.out i v hvj
      subst hA2
      have HVJ := Lib.hid hvj
      obtain ⟨nm, k, len⟩ := v
      dsimp only at c0 c1 c2
      have j0 : (0 : Int) ≤ (i : Int) := by omega
      have j1 : (i : Int) < (nv : Int) := by omega
      clear c1 c2 hvj e1
      obtain ⟨q, hq⟩ : ∃ q, (nm.toList == name.toList) = q := ⟨_, rfl⟩
      have HQ := Lib.hid hq
      cases q
      · go_wp2_with fail
        exact ⟨⟨i, (by omega), by first | rfl | go_num, (fun a u ha hu => by rcases Nat.eq_or_lt_of_le ha with h | h; (subst h; rw [HVJ.out] at hu; injection hu with hu; subst hu; exact HQ.out); exact HPRE.out a u h hu), (by trivial)⟩, (by simp [intOf]; try omega)⟩
      · obtain rfl := HFE.out i _ HVJ.out HQ.out fun a u ha hu => HPRE.out a u ha hu
        go_wp2_with fail
        go_ret
        exact ⟨rfl, rfl⟩
theorem own_vs {w : World} {base n cp : Nat} {A : Option Addr} {vs : List Vr} (h : w.ownsRow base 72 3 (.slice A n cp) n (varCells vs)) (hn : vs.length = n) : VsAt w w.heap.size A vs := fun i v hi => by
  have hl := (List.getElem?_eq_some_iff.1 hi).1
  obtain ⟨g, cap, e, h1, h2, _, _, h3⟩ := own_some h (by omega)
  injection e with e
  obtain ⟨q0, q1, q2⟩ := varCells_get vs i v hi
  exact ⟨g, 0, e, h2, by rw [Nat.zero_add]; exact h3 _ _ q0, by rw [Nat.zero_add]; exact h3 _ _ q1, by rw [Nat.zero_add]; exact h3 _ _ q2⟩
theorem c_find {w : World} {B : Nat} {S : Sv} {σ : PSt} (h : SOn w B S σ) (hn : σ.cur.vars.length ≤ 17592186043904) (name : ByteArray) : Calls Tryz.prog 131 #[.pointer (some ⟨S.fb σ, σ.fo, none⟩), .string name] w fun e w' => e = .returned (.int .i64 (findI name σ.cur.vars)) ∧ w' = w := by
  obtain ⟨hf, ⟨h0, _, _⟩, _⟩ := h.cur
  have hv := hf.vars
  obtain ⟨A, cp, e⟩ := own_form hv
  rw [e] at hv h0
  exact r_find h0 (own_vs hv rfl) rfl hn name
def LookX (w : World) (l : Option (List Int)) (e : Ending) : Prop := match l with
  | none => ∃ A n c, e = .returned (.tuple #[.slice A n c, .bool false])
  | some l => ∃ v, e = .returned (.tuple #[v, .bool true]) ∧ Sl w (fun k => k < w.heap.size) 1 v l.length (intCells l)
def LookN (w : World) (l : Option (List Int)) (e : Ending) : Prop := match l with
  | none => e = .returned (.tuple #[.slice none 0 0, .bool false])
  | some l => ∃ v, e = .returned (.tuple #[v, .bool true]) ∧ Sl w (fun k => k < w.heap.size) 1 v l.length (intCells l)
theorem LookN.x {w : World} {l : Option (List Int)} {e : Ending} (h : LookN w l e) : LookX w l e := by
  cases l with
  | none => exact ⟨_, _, _, h⟩
  | some l => exact h
theorem r_lookup0 {w : World} {st b o : Nat} {s : ByteArray} (hc : Calls Tryz.prog 130 #[.pointer (some ⟨st, 0, none⟩)] w fun e w' => e = .returned (.pointer (some ⟨b, o, none⟩)) ∧ w' = w) (hf : Calls Tryz.prog 131 #[.pointer (some ⟨b, o, none⟩), .string s] w fun e w' => e = .returned (.int .i64 (-1)) ∧ w' = w) :
    Calls Tryz.prog 158 #[.pointer (some ⟨st, 0, none⟩), .string s] w fun e w' => e = .returned (.tuple #[.slice none 0 0, .bool false]) ∧ w' = w := by
  have HC := Lib.hid hc; have HF := Lib.hid hf
  clear hc hf
  go_enter Tryz.func158, Tryz.ntmps158
  go_wp2_with fail
  refine HC.out.mono ?_
  rintro e w1 ⟨rfl, rfl⟩
  go_wp2_with fail
  refine HF.out.mono ?_
  rintro e w2 ⟨rfl, rfl⟩
  go_wp2_with fail
  refine bodyPost_ret_by (results_tmp2 rfl _ _ _) rfl ?_
  exact ⟨rfl, rfl⟩
theorem r_lookup1 {w : World} {st b o i g p nc cc : Nat} {v : Value} {s : ByteArray} (hc : Calls Tryz.prog 130 #[.pointer (some ⟨st, 0, none⟩)] w fun e w' => e = .returned (.pointer (some ⟨b, o, none⟩)) ∧ w' = w) (hf : Calls Tryz.prog 131 #[.pointer (some ⟨b, o, none⟩), .string s] w fun e w' => e = .returned (.int .i64 i) ∧ w' = w)
    (h1 : w.cell? ⟨b, o + 1, none⟩ = some (.slice (some ⟨g, 0, none⟩) nc cc)) (hi : i < nc) (h2 : w.cell? ⟨g, i, none⟩ = some (.pointer (some ⟨p, 0, none⟩))) (h3 : w.cell? ⟨p, 0, none⟩ = some v) :
    Calls Tryz.prog 158 #[.pointer (some ⟨st, 0, none⟩), .string s] w fun e w' => e = .returned (.tuple #[v, .bool true]) ∧ w' = w := by
  have HC := Lib.hid hc; have HF := Lib.hid hf
  clear hc hf
  have j0 : (0 : Int) ≤ (i : Int) := by omega
  have j1 : (i : Int) < (nc : Int) := by omega
  go_enter Tryz.func158, Tryz.ntmps158
  go_wp2_with fail
  refine HC.out.mono ?_
  rintro e w1 ⟨rfl, rfl⟩
  go_wp2_with fail
  refine HF.out.mono ?_
  rintro e w2 ⟨rfl, rfl⟩
  go_wp2_with fail
  refine bodyPost_ret_by (results_tmp2 rfl _ _ _) rfl ?_
  exact ⟨rfl, rfl⟩
theorem findI_some {s : ByteArray} {vs : List Vr} {i : Nat} (h : findV s vs = some i) : findI s vs = (i : Int) := by unfold findI; rw [h]
theorem findI_none {s : ByteArray} {vs : List Vr} (h : findV s vs = none) : findI s vs = -1 := by unfold findI; rw [h]
theorem PSt.look_none {σ : PSt} {s : ByteArray} (h : findV s σ.cur.vars = none) : σ.look s = none := by unfold PSt.look PSt.at_; rw [h]; rfl
theorem SOn.refs {w : World} {B : Nat} {S : Sv} {σ : PSt} (h : SOn w B S σ) {i c : Nat} (hc : σ.cur.idx[i]? = some c) : ∃ g cc, w.cell? ⟨S.fb σ, σ.fo + 1, none⟩ = some (.slice (some ⟨g, 0, none⟩) σ.cur.idx.length cc) ∧ i < σ.cur.idx.length ∧ w.cell? ⟨g, i, none⟩ = some (.pointer (some ⟨S.cb c, 0, none⟩)) := by
  obtain ⟨hf, ⟨_, h1, _⟩, _⟩ := h.cur
  have hi : i < σ.cur.idx.length := (List.getElem?_eq_some_iff.1 hc).1
  have hr := hf.refs
  obtain ⟨g, cap, e, _, _, _, _, h3⟩ := own_some hr (by omega)
  rw [e] at h1
  exact ⟨g, cap, h1, hi, h3 i _ (by unfold Sv.ptrs; rw [List.getElem?_map, hc]; rfl)⟩
theorem CellAt.sl {w : World} {B : Nat} {S : Sv} {i : Nat} {l : List Int} (h : CellAt w B S i l) : Sl w (fun k => k < w.heap.size) 1 (S.iv i) l.length (intCells l) := (Sl.of_own h.own).mono fun k hk => hk.2
theorem c_lookup {w : World} {B : Nat} {S : Sv} {σ : PSt} {kd : Nat → Int} {m : Nat} (h : SOn w B S σ) (ho : σ.Ok kd m) (hm : m ≤ 10000) (s : ByteArray) : Calls Tryz.prog 158 #[.pointer (some ⟨S.st, 0, none⟩), .string s] w fun e w' => LookN w' (σ.look s) e ∧ w' = w := by
  have hC := c_current h ho.nc
  have hF := c_find h (by have := ho.cur.bd; omega) s
  cases hs : findV s σ.cur.vars with
  | none =>
    rw [findI_none hs] at hF
    rw [PSt.look_none hs]
    refine (r_lookup0 hC hF).mono ?_
    rintro e w' ⟨rfl, rfl⟩
    exact ⟨rfl, rfl⟩
  | some i =>
    rw [findI_some hs] at hF
    obtain ⟨v, c, l, _, hc, hl, _, _, hlk⟩ := ho.find hs
    rw [hlk]
    obtain ⟨g, cc, h1, hi, h2⟩ := h.refs hc
    have hcell := h.cells c l hl
    refine (r_lookup1 hC hF h1 hi h2 (hcell.blk.cell 0)).mono ?_
    rintro e w' ⟨rfl, rfl⟩
    exact ⟨⟨_, rfl, hcell.sl⟩, rfl⟩
theorem quietL {P : Program} {f : FuncId} {args : Array Value} {w : World} {n : Nat} {v : Value}
    (h : Calls P f args (w.drewN n) fun e w' => e = .returned v ∧ w.drewN n = w') : Calls P f args (w.drewN n) fun e w'' => e = .returned v ∧ ∃ m, w'' = w.drewN m :=
  h.mono fun _ _ ⟨he, hm⟩ => ⟨he, n, hm.symm⟩
theorem r_cell {w : World} {st b o i g p nc cc : Nat} {s : ByteArray} (hc : Calls Tryz.prog 130 #[.pointer (some ⟨st, 0, none⟩)] w fun e w' => e = .returned (.pointer (some ⟨b, o, none⟩)) ∧ w' = w) (hf : ∀ n, Calls Tryz.prog 131 #[.pointer (some ⟨b, o, none⟩), .string s] (w.drewN n) fun e w' => e = .returned (.int .i64 i) ∧ w.drewN n = w')
    (h1 : w.cell? ⟨b, o + 1, none⟩ = some (.slice (some ⟨g, 0, none⟩) nc cc)) (hi : i < nc) (h2 : w.cell? ⟨g, i, none⟩ = some (.pointer (some ⟨p, 0, none⟩))) (hb : b < w.heap.size) (hg : g < w.heap.size) :
    Calls Tryz.prog 159 #[.pointer (some ⟨st, 0, none⟩), .string s] w fun e w' => e = .returned (.pointer (some ⟨p, 0, none⟩)) ∧ Below w.heap.size w w' := by
  have HC := Lib.hid hc; have HF := Lib.hid hf
  clear hc hf
  have j0 : (0 : Int) ≤ (i : Int) := by omega
  have j1 : (i : Int) < (nc : Int) := by omega
  go_enter Tryz.func159, Tryz.ntmps159
  go_wp2_with fail
  refine HC.out.mono ?_
  rintro e w1 ⟨rfl, rfl⟩
  go_wp2_with fail
  go_quiet ((go_at_call 131; exact quietL (HF.out _)))
  go_wp2_with fail
  go_ret
  exact ⟨rfl, Bk.drewN_ (Below.refl _ _) _⟩
theorem c_cell {w : World} {B : Nat} {S : Sv} {σ : PSt} {kd : Nat → Int} {m : Nat} (h : SOn w B S σ) (ho : σ.Ok kd m) (hm : m ≤ 10000) {s : ByteArray} {i c : Nat} (hs : findV s σ.cur.vars = some i) (hc : σ.cur.idx[i]? = some c) : Calls Tryz.prog 159 #[.pointer (some ⟨S.st, 0, none⟩), .string s] w fun e w' => e = .returned (.pointer (some ⟨S.cb c, 0, none⟩)) ∧ Below w.heap.size w w' := by
  obtain ⟨g, cc, h1, hi, h2⟩ := h.refs hc
  obtain ⟨_, _, _, _, hfb⟩ := h.cur
  have hg : g < w.heap.size := block_lt_of_cell h2
  refine r_cell (c_current h ho.nc) (fun n => ?_) h1 hi h2 hfb hg
  have hF := c_find (h.next (w' := w.drewN n) (Bk.drewN_ (Below.refl _ _) n)) (by have := ho.cur.bd; omega) s
  rw [findI_some hs] at hF
  exact hF.mono fun e w' h => ⟨h.1, h.2.symm⟩
theorem c_Cell {w : World} {B : Nat} {S : Sv} {σ : PSt} {kd : Nat → Int} {m : Nat} (h : SOn w B S σ) (ho : σ.Ok kd m) (hm : m ≤ 10000) (s : ByteArray) : Calls Tryz.prog 154 #[.pointer (some ⟨S.st, 0, none⟩), .string s] w fun e w' => LookX w' (σ.look s) e ∧ Below w.heap.size w w' := by
  have HL := Lib.hid (c_lookup h ho hm s)
  have HM : Hid (∀ l, σ.look s = some l → l.length ≤ 1000) := Lib.hid fun l hl => ho.lookLen hl
  generalize σ.look s = lk at *
  clear h ho
  have hnil : ∀ W : World, Sl W (fun k => k < W.heap.size) 1 (.slice none 0 0) ([] : List Int).length (intCells []) := fun W => Sl.nil
  go_enter Tryz.func154, Tryz.ntmps154
  go_wp2_with fail
  refine HL.out.mono ?_
  rintro e w1 ⟨he, rfl⟩
  cases lk with
  | none =>
    obtain rfl := he
    have HN := Lib.hid (hnil w1)
    clear hnil
    go_wp2_with fail
    refine (c_CloneI HN.out (by decide)).mono ?_
    rintro e w2 ⟨v2, rfl, hv, hb⟩
    obtain ⟨A2, c2, rfl⟩ := own_form hv
    have HB := Lib.hid hb
    clear hv hb
    go_wp2_with fail
    refine bodyPost_ret_by (results_tmp2 rfl _ _ _) rfl ?_
    exact ⟨⟨_, _, _, rfl⟩, HB.out⟩
  | some l =>
    obtain ⟨v, rfl, hs⟩ := he
    have HS := Lib.hid hs
    have hml := HM.out l rfl
    clear hs hnil
    go_wp2_with fail
    refine (c_CloneI HS.out (by omega)).mono ?_
    rintro e w2 ⟨v2, rfl, hv, hb⟩
    have HV := Lib.hid hv; have HB := Lib.hid hb
    clear hv hb
    go_wp2_with fail
    refine bodyPost_ret_by (results_tmp2 rfl _ _ _) rfl ?_
    exact ⟨⟨v2, rfl, (Sl.of_own HV.out).mono fun k hk => hk.2⟩, HB.out⟩
end
section
open Go.RowKit Bk
theorem ca_number (b : Bool) (w : World) :
    Calls Tryz.prog 204 #[.bool b] w fun e w' => e = .returned (.int .i64 (if b then 1 else 0)) ∧ w = w' := by
  cases b <;> (go_enter Tryz.func204, Tryz.ntmps204; go_wp2_with fail; go_ret; exact ⟨rfl, rfl⟩)
theorem c_divide (op x y : Int) (hop : op = 11 ∨ op = 12) (w : World) :
    Calls Tryz.prog 205 #[.int .u8 op, .int .i64 x, .int .i64 y] w fun e w' => e = .returned (.tuple #[.int .i64 (apply op x y).1, .int .i64 (apply op x y).2]) ∧ w = w' := by
  by_cases hy : y = 0
  · subst hy
    rcases hop with rfl | rfl
    all_goals
      go_enter Tryz.func205, Tryz.ntmps205
      go_wp2_with fail
      go_ret2
      exact ⟨rfl, rfl⟩
  · have h0 : (y == 0) = false := by simpa using hy
    rcases hop with rfl | rfl
    · go_enter Tryz.func205, Tryz.ntmps205
      go_wp2_with fail
      go_ret2
      exact ⟨by simp [apply, hy], rfl⟩
    · go_enter Tryz.func205, Tryz.ntmps205
      go_wp2_with fail
      go_ret2
      exact ⟨by simp [apply, hy], rfl⟩
theorem c_Apply (op x y : Int) (w : World) :
    Calls Tryz.prog 190 #[.int .u8 op, .int .i64 x, .int .i64 y] w fun e w' => e = .returned (.tuple #[.int .i64 (apply op x y).1, .int .i64 (apply op x y).2]) ∧ w = w' := by
  by_cases hop : 8 ≤ op ∧ op ≤ 23
  · obtain e | e | e | e | e | e | e | e | e | e | e | e | e | e | e | e : op = 8 ∨ op = 9 ∨ op = 10 ∨ op = 11 ∨ op = 12 ∨ op = 13 ∨ op = 14 ∨ op = 15 ∨ op = 16 ∨ op = 17 ∨ op = 18 ∨ op = 19 ∨ op = 20 ∨ op = 21 ∨ op = 22 ∨ op = 23 := by omega
    all_goals subst e
    · go_enter Tryz.func190, Tryz.ntmps190
      go_wp2_with fail
      all_goals go_ret2
      all_goals exact ⟨by first | (simp [apply]; done) | (simp [apply]; omega) | (simp_all [apply]; done) | (simp_all [apply]; omega), rfl⟩
    · go_enter Tryz.func190, Tryz.ntmps190
      go_wp2_with fail
      all_goals go_ret2
      all_goals exact ⟨by first | (simp [apply]; done) | (simp [apply]; omega) | (simp_all [apply]; done) | (simp_all [apply]; omega), rfl⟩
    · go_enter Tryz.func190, Tryz.ntmps190
      go_wp2_with fail
      all_goals go_ret2
      all_goals exact ⟨by first | (simp [apply]; done) | (simp [apply]; omega) | (simp_all [apply]; done) | (simp_all [apply]; omega), rfl⟩
    · go_enter Tryz.func190, Tryz.ntmps190
      go_wp2_with (go_at_call 205; ((with_reducible refine (c_divide _ _ _ (by decide) _).mono ?_); rintro e w' ⟨rfl, rfl⟩))
      go_ret2
      exact ⟨rfl, rfl⟩
    · go_enter Tryz.func190, Tryz.ntmps190
      go_wp2_with (go_at_call 205; ((with_reducible refine (c_divide _ _ _ (by decide) _).mono ?_); rintro e w' ⟨rfl, rfl⟩))
      go_ret2
      exact ⟨rfl, rfl⟩
    · go_enter Tryz.func190, Tryz.ntmps190
      go_wp2_with fail
      all_goals go_ret2
      all_goals exact ⟨by first | (simp [apply]; done) | (simp [apply]; omega) | (simp_all [apply]; done) | (simp_all [apply]; omega), rfl⟩
    · go_enter Tryz.func190, Tryz.ntmps190
      go_wp2_with fail
      all_goals go_ret2
      all_goals exact ⟨by first | (simp [apply]; done) | (simp [apply]; omega) | (simp_all [apply]; done) | (simp_all [apply]; omega), rfl⟩
    · go_enter Tryz.func190, Tryz.ntmps190
      go_wp2_with fail
      all_goals go_ret2
      all_goals exact ⟨by first | (simp [apply]; done) | (simp [apply]; omega) | (simp_all [apply]; done) | (simp_all [apply]; omega), rfl⟩
    · go_enter Tryz.func190, Tryz.ntmps190
      go_wp2_with (go_at_call 204; ((with_reducible refine (ca_number _ _).mono ?_); rintro e w' ⟨rfl, rfl⟩))
      all_goals go_ret2
      all_goals exact ⟨by first | (simp [apply]; done) | (simp [apply]; omega) | (simp_all [apply]; done) | (simp_all [apply]; omega), rfl⟩
    · go_enter Tryz.func190, Tryz.ntmps190
      go_wp2_with (go_at_call 204; ((with_reducible refine (ca_number _ _).mono ?_); rintro e w' ⟨rfl, rfl⟩))
      all_goals go_ret2
      all_goals exact ⟨by first | (simp [apply]; done) | (simp [apply]; omega) | (simp_all [apply]; done) | (simp_all [apply]; omega), rfl⟩
    · go_enter Tryz.func190, Tryz.ntmps190
      go_wp2_with (go_at_call 204; ((with_reducible refine (ca_number _ _).mono ?_); rintro e w' ⟨rfl, rfl⟩))
      all_goals go_ret2
      all_goals exact ⟨by first | (simp [apply]; done) | (simp [apply]; omega) | (simp_all [apply]; done) | (simp_all [apply]; omega), rfl⟩
    · go_enter Tryz.func190, Tryz.ntmps190
      go_wp2_with (go_at_call 204; ((with_reducible refine (ca_number _ _).mono ?_); rintro e w' ⟨rfl, rfl⟩))
      all_goals go_ret2
      all_goals exact ⟨by first | (simp [apply]; done) | (simp [apply]; omega) | (simp_all [apply]; done) | (simp_all [apply]; omega), rfl⟩
    · go_enter Tryz.func190, Tryz.ntmps190
      go_wp2_with (go_at_call 204; ((with_reducible refine (ca_number _ _).mono ?_); rintro e w' ⟨rfl, rfl⟩))
      all_goals go_ret2
      all_goals exact ⟨by first | (simp [apply]; done) | (simp [apply]; omega) | (simp_all [apply]; done) | (simp_all [apply]; omega), rfl⟩
    · go_enter Tryz.func190, Tryz.ntmps190
      go_wp2_with (go_at_call 204; ((with_reducible refine (ca_number _ _).mono ?_); rintro e w' ⟨rfl, rfl⟩))
      all_goals go_ret2
      all_goals exact ⟨by first | (simp [apply]; done) | (simp [apply]; omega) | (simp_all [apply]; done) | (simp_all [apply]; omega), rfl⟩
    · by_cases hx : x = 0 <;> by_cases hy : y = 0
      all_goals
        go_enter Tryz.func190, Tryz.ntmps190
        go_wp2_with (go_at_call 204; ((with_reducible refine (ca_number _ _).mono ?_); rintro e w' ⟨rfl, rfl⟩))
        go_ret2
        exact ⟨by simp [apply, hx, hy], rfl⟩
    · by_cases hx : x = 0 <;> by_cases hy : y = 0
      all_goals
        go_enter Tryz.func190, Tryz.ntmps190
        go_wp2_with (go_at_call 204; ((with_reducible refine (ca_number _ _).mono ?_); rintro e w' ⟨rfl, rfl⟩))
        go_ret2
        exact ⟨by simp [apply, hx, hy], rfl⟩
  · have ha : apply op x y = (0, 7) := by
      unfold apply
      repeat (first | rw [if_neg (by omega)])
    rw [ha]
    by_cases h8 : op < 8
    · go_enter Tryz.func190, Tryz.ntmps190
      go_wp2_with fail
      go_ret2
      exact ⟨rfl, rfl⟩
    · have h23 : 23 < op := by omega
      clear hop
      go_enter Tryz.func190, Tryz.ntmps190
      go_wp2_with fail
      go_ret2
      exact ⟨rfl, rfl⟩
end
end Go.Proofs.YtakfdnnlhjhcfaaGreatDoor
