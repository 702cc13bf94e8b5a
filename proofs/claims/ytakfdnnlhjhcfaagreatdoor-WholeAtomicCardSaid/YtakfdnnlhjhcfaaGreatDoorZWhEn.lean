/- The store's Enter. -/
import Derived.Test.YtakfdnnlhjhcfaaGreatDoorM25
import Derived.BigQuiet
set_option linter.unusedVariables false
set_option linter.unusedSimpArgs false
set_option maxRecDepth 100000
set_option maxHeartbeats 4000000
namespace Bk
open Go Go.RowKit
def SsAt (w : World) (B : Nat) (A : Option Addr) (l : List ByteArray) : Prop := ∀ i s, l[i]? = some s → ∃ g o, A = some ⟨g, o, none⟩ ∧ g < B ∧ w.cell? ⟨g, o + i, none⟩ = some (.string s)
theorem SsAt.next {w w' : World} {B : Nat} {A : Option Addr} {l : List ByteArray} (h : SsAt w B A l) (hb : Below B w w') : SsAt w' B A l := fun i s hi => by
  obtain ⟨g, o, h1, h2, h3⟩ := h i s hi
  exact ⟨g, o, h1, h2, (hb.cell (p := ⟨g, o + i, none⟩) h2).trans h3⟩
theorem argsM_end {σ : PSt} {ps : List Vr} {ss : List ByteArray} {l : List Nat} (hl : ps.length = ss.length) (h : argsM σ (ps.take ps.length) (ss.take ps.length) = .ok l) : argsM σ ps ss = .ok l := by
  rw [List.take_length, hl, List.take_length] at h; exact h
theorem argsM_succ {σ : PSt} : ∀ {ps : List Vr} {ss : List ByteArray} {j : Nat} {l : List Nat} {p : Vr} {s : ByteArray}, ps[j]? = some p → ss[j]? = some s → argsM σ (ps.take j) (ss.take j) = .ok l → argsM σ (ps.take (j + 1)) (ss.take (j + 1)) = match argsM σ [p] [s] with
    | .error e => .error e
    | .ok r => .ok (l ++ r)
  | [], _, _, _, _, _, h, _, _ => by simp at h
  | _ :: _, [], _, _, _, _, _, h, _ => by simp at h
  | p' :: ps, s' :: ss, 0, l, p, s, h1, h2, h3 => by
    simp at h1 h2; subst h1; subst h2
    simp only [List.take_zero, argsM] at h3
    injection h3 with h3; subst h3
    simp only [List.take_succ_cons, List.take_zero]
    cases argsM σ [p'] [s'] <;> rfl
  | p' :: ps, s' :: ss, j + 1, l, p, s, h1, h2, h3 => by
    simp only [List.take_succ_cons] at *
    have ih := fun l' h => argsM_succ (σ := σ) (ps := ps) (ss := ss) (j := j) (l := l') (p := p) (s := s) (by simpa using h1) (by simpa using h2) h
    rw [argsM] at h3 ⊢
    cases hf : findV s' σ.cur.vars with
    | none => rw [hf] at h3; cases h3
    | some i =>
      rw [hf] at h3
      dsimp only at h3 ⊢
      split at h3
      · cases h3
      rename_i hk
      rw [if_neg hk]
      cases ha : argsM σ (ps.take j) (ss.take j) with
      | error e => rw [ha] at h3; cases h3
      | ok l' =>
        rw [ha] at h3
        injection h3 with h3; subst h3
        rw [ih l' ha]
        cases argsM σ [p] [s] <;> rfl
theorem argsM_err {σ : PSt} {e : Int} : ∀ {ps : List Vr} {ss : List ByteArray} {j : Nat}, argsM σ (ps.take j) (ss.take j) = .error e → j ≤ ps.length → ps.length = ss.length → argsM σ ps ss = .error e
  | [], _, j, h, _, _ => by simp [argsM] at h
  | _ :: _, [], j, h, _, hl => by simp at hl
  | p :: ps, s :: ss, 0, h, _, _ => by simp [argsM] at h
  | p :: ps, s :: ss, j + 1, h, hj, hl => by
    simp only [List.take_succ_cons] at h
    rw [argsM] at h ⊢
    cases hf : findV s σ.cur.vars with
    | none => rw [hf] at h; exact h
    | some i =>
      rw [hf] at h
      dsimp only at h ⊢
      split at h
      · rename_i hk; rw [if_pos hk]; exact h
      rename_i hk
      rw [if_neg hk]
      cases ha : argsM σ (ps.take j) (ss.take j) with
      | error e' =>
        rw [ha] at h; injection h with h; subst h
        rw [argsM_err ha (by simpa using hj) (by simpa using hl)]
      | ok l' => rw [ha] at h; cases h
end Bk
namespace Go.Proofs.YtakfdnnlhjhcfaaGreatDoor
open Go.RowKit Bk
section
variable {w w' : World} {B : Nat} {S : Sv} {σ : PSt} {kd : Nat → Int} {m : Nat}
structure NxP (w : World) (S : Sv) (nb : Nat) (ps : List Vr) (l : List Nat) (wr : World) : Prop where
  bl : Below w.heap.size w wr
  ge : w.heap.size ≤ nb
  blk : ∃ v c, Blk wr nb 120 #[v, c, .int .i64 0] ∧ wr.ownsRow w.heap.size 72 3 v ps.length (varCells ps) ∧ wr.ownsRow w.heap.size 125 1 c l.length (S.ptrs l) ∧ v.ownBlock ≠ some nb ∧ c.ownBlock ≠ some nb ∧ ∀ k, v.ownBlock = some k → c.ownBlock = some k → False
theorem NxP.next {nb : Nat} {ps : List Vr} {l : List Nat} {wr w' : World} (h : NxP w S nb ps l wr) (hb : Below wr.heap.size wr w') : NxP w S nb ps l w' := by
  obtain ⟨v, cv, hk, ov, oc, n1, n2, n3⟩ := h.blk
  exact ⟨h.bl.trans (hb.mono h.bl.size), h.ge, v, cv, hk.next hb, own_below ov hb (Nat.le_refl _), own_below oc hb (Nat.le_refl _), n1, n2, n3⟩
theorem NxP.add {nb : Nat} {ps : List Vr} {l : List Nat} {wr : World} (h : NxP w S nb ps l wr) (hp : ps.length ≤ 1000) (hl : l.length ≤ 1000) (u : Vr) (c : Nat) :
    Calls Tryz.prog 63 #[.pointer (some ⟨nb, 0, none⟩), .agg #[.string u.nm, .int .u8 u.k, .int .i64 u.len], .pointer (some ⟨S.cb c, 0, none⟩)] wr fun e w' => e = .returned (.tuple #[]) ∧ NxP w S nb (ps ++ [u]) (l ++ [c]) w' := by
  obtain ⟨v, cv, hb, ov, oc, n1, n2, n3⟩ := h.blk
  have hpl : (S.ptrs l).length = l.length := by simp [Sv.ptrs]
  refine (r_add (o := 0) h.bl.size hb rfl rfl ov (by rw [hpl]; exact oc) n1 n2 n3 (by omega) (by omega) u (S.cb c)).mono ?_
  rintro e w' ⟨rfl, v', c', ha⟩
  have hge := fun k (hk : v.ownBlock = some k) => (own_gE ov hk).1
  have hgc := fun k (hk : cv.ownBlock = some k) => (own_gE oc hk).1
  have hbn : Below w.heap.size wr w' := ha.fr.below h.bl.size fun k hk => by
    rcases hk with rfl | hk | hk
    · exact h.ge
    · exact hge k hk
    · exact hgc k hk
  refine ⟨rfl, h.bl.trans hbn, h.ge, v', c', ha.blk _ _ hb, ?_, ?_, fun e => ?_, fun e => ?_, ha.ne⟩
  · rw [List.length_append]; exact ha.vars
  · have := ha.refs
    rw [hpl] at this
    rw [List.length_append, show S.ptrs (l ++ [c]) = S.ptrs l ++ [.pointer (some ⟨S.cb c, 0, none⟩)] by simp [Sv.ptrs]]
    exact this
  · rcases ha.hv nb e with h1 | h1
    · exact n1 h1
    · have := hb.lt; omega
  · rcases ha.hc nb e with h1 | h1
    · exact n2 h1
    · have := hb.lt; omega
theorem own_nil3 {w : World} {base : Nat} {t : TypeId} : w.ownsRow base t 3 (.slice none 0 0) 0 [] := ⟨rfl, .inl ⟨rfl, rfl⟩⟩
theorem info_frame : (Tryz.prog.info? 120).map (fun i => (i.zero, i.size, i.bytes)) = some (some (.agg #[.slice none 0 0, .slice none 0 0, .int .i64 0]), 3, 56) := by kernel_rfl
theorem c_EnterE (h : SOn w B S σ) (hB : B ≤ w.heap.size) (ho : σ.Ok kd m) (hm : m ≤ 3000) {A A2 : Option Addr} {n n2 c1 c2 : Nat} {ps : List Vr} {ss : List ByteArray} (hv : VsAt w w.heap.size A ps) (hn : ps.length = n) (hss : SsAt w w.heap.size A2 ss) (hn2 : ss.length = n2) (hpn : n ≤ 32) (hne : n ≠ n2) :
    Calls Tryz.prog 132 #[.pointer (some ⟨S.st, 0, none⟩), .slice A n c1, .slice A2 n2 c2] w fun e w' => RetS B S w (enterM ps ss σ) e w' := by
  unfold enterM
  rw [if_pos (by omega)]
  have h1 : ((n : Int) != (n2 : Int)) = true := bne_iff_ne.2 (by omega)
  clear h ho hv hss hn hn2 hne
  go_enter Tryz.func132, Tryz.ntmps132
  go_wp2_with fail
  go_ret
  exact ⟨rfl, by decide, Fr.of (by go_grown)⟩
theorem c_Enter (h : SOn w B S σ) (hB : B ≤ w.heap.size) (ho : σ.Ok kd m) (hm : m ≤ 3000) {A A2 : Option Addr} {n n2 c1 c2 : Nat} {ps : List Vr} {ss : List ByteArray} (hv : VsAt w w.heap.size A ps) (hn : ps.length = n) (hss : SsAt w w.heap.size A2 ss) (hn2 : ss.length = n2) (hpn : n ≤ 32) :
    Calls Tryz.prog 132 #[.pointer (some ⟨S.st, 0, none⟩), .slice A n c1, .slice A2 n2 c2] w fun e w' => RetS B S w (enterM ps ss σ) e w' := by
  rcases Decidable.em (n ≠ n2) with hne | hne
  · exact c_EnterE h hB ho hm hv hn hss hn2 hpn hne
  obtain rfl : n = n2 := Decidable.byContradiction hne
  clear hne
  have HCU : Hid (∀ W, Below w.heap.size w W → Calls Tryz.prog 130 #[.pointer (some ⟨S.st, 0, none⟩)] W fun e w' => e = .returned (.pointer (some ⟨S.fb σ, σ.fo, none⟩)) ∧ W = w') := Lib.hid fun W hW => (c_current (h.next hW) ho.nc).mono fun e w' h => ⟨h.1, h.2.symm⟩
  have HFI : Hid (∀ W, Below w.heap.size w W → ∀ x : ByteArray, Calls Tryz.prog 131 #[.pointer (some ⟨S.fb σ, σ.fo, none⟩), .string x] W fun e w' => e = .returned (.int .i64 (findI x σ.cur.vars)) ∧ W = w') := Lib.hid fun W hW x => (c_find (h.next hW) (by have := ho.cur.bd; omega) x).mono fun e w' h => ⟨h.1, h.2.symm⟩
  have H := Lib.hid h; have HO := Lib.hid ho
  have HV := Lib.hid hv; have HSS := Lib.hid hss; have HN := Lib.hid hn; have HN2 := Lib.hid hn2
  obtain ⟨q, hq⟩ : ∃ q, enterM ps ss σ = q := ⟨_, rfl⟩
  rw [hq]
  have HQ := Lib.hid hq
  have h1 : ((n : Int) != (n : Int)) = false := by simp
  have HVI : Hid (∀ (i : Nat) (u : Vr) (c : Nat), σ.cur.vars[i]? = some u → σ.cur.idx[i]? = some c → ∃ nv gv gr cpv cpr, i < nv ∧ nv ≤ 3000 ∧ ∀ W, Below w.heap.size w W → W.cell? ⟨S.fb σ, σ.fo, none⟩ = some (.slice (some ⟨gv, 0, none⟩) nv cpv) ∧ W.cell? ⟨S.fb σ, σ.fo + 1, none⟩ = some (.slice (some ⟨gr, 0, none⟩) nv cpr) ∧ W.cell? ⟨gv, i * 3 + 1, none⟩ = some (.int .u8 u.k) ∧ W.cell? ⟨gv, i * 3 + 2, none⟩ = some (.int .i64 u.len) ∧ W.cell? ⟨gr, i, none⟩ = some (.pointer (some ⟨S.cb c, 0, none⟩))) := Lib.hid (by
    intro i u c hu hc
    obtain ⟨hf, ⟨q0, q1, _⟩, _, _, hlt⟩ := h.cur
    have hl := (List.getElem?_eq_some_iff.1 hu).1
    have hbd := ho.cur.bd; have hln := ho.cur.len
    obtain ⟨gv, cpv, ev, _, hgv, _, _, hvc⟩ := own_some hf.vars (by omega)
    obtain ⟨gr, cpr, er, _, hgr, _, _, hrc⟩ := own_some hf.refs (by omega)
    obtain ⟨_, p1, p2⟩ := varCells_get _ _ _ hu
    rw [ev] at q0; rw [er, hln] at q1
    exact ⟨_, gv, gr, cpv, cpr, hl, by omega, fun W hW => ⟨(hW.cell (p := ⟨S.fb σ, σ.fo, none⟩) hlt).trans q0, (hW.cell (p := ⟨S.fb σ, σ.fo + 1, none⟩) hlt).trans q1, (hW.cell (p := ⟨gv, i * 3 + 1, none⟩) hgv).trans (hvc _ _ p1), (hW.cell (p := ⟨gv, i * 3 + 2, none⟩) hgv).trans (hvc _ _ p2), (hW.cell (p := ⟨gr, i, none⟩) hgr).trans (hrc i _ (by simp [Sv.ptrs, hc]))⟩⟩)
  have hlen : ps.length = ss.length := by omega
  have HERR : Hid (∀ (j : Nat) (x : Int) (w' : World), j ≤ n → x ≠ 0 → argsM σ (ps.take j) (ss.take j) = .error x → Below w.heap.size w w' → RetS B S w q (.returned (.int .i64 x)) w') := Lib.hid (by
    intro j x w' hj hx he hb
    have hq2 := hq
    unfold enterM at hq2
    rw [if_neg (by omega), argsM_err he (by omega) hlen] at hq2
    rw [← hq2]
    exact ⟨rfl, hx, Fr.of hb⟩)
  have HIX : Hid (∀ (i : Nat) (u : Vr), σ.cur.vars[i]? = some u → ∃ c, σ.cur.idx[i]? = some c) := Lib.hid fun i u hu => ⟨_, List.getElem?_eq_getElem (by have := (List.getElem?_eq_some_iff.1 hu).1; have := ho.cur.len; omega)⟩
  generalize hfb : S.fb σ = fb at *
  generalize hfo : σ.fo = fo at *
  have HFB := Lib.hid hfb; have HFO := Lib.hid hfo
  clear h ho hv hss hn hn2 hq hfb hfo hlen
  go_enter Tryz.func132, Tryz.ntmps132
  go_wp2_with fail
  refine (HCU.out _ (by go_grown)).mono ?_
  rintro en w2 ⟨rfl, hw2⟩
  go_wp2_with fail
  have hN0 : NxP w S w.heap.size [] [] w2 := by
    rw [← hw2]
    exact ⟨by go_grown, Nat.le_refl _, _, _, Blk.new _ _ _, own_nil3, own_nil0, by simp [Value.ownBlock], by simp [Value.ownBlock], fun k h => by simp [Value.ownBlock] at h⟩
  clear hw2
  go_loopw [23] (fun v23 wr => ∃ (j : Nat) (l : List Nat), j ≤ n ∧ v23 = .int .i64 j ∧ l.length ≤ j ∧ argsM σ (ps.take j) (ss.take j) = .ok l ∧ NxP w S w.heap.size (ps.take j) l wr) (fun v _ => n - (intOf v).toNat)
  case atStart => exact ⟨0, [], Nat.zero_le _, rfl, Nat.le_refl _, by simp [argsM], hN0⟩
  case round =>
    obtain ⟨j, l, hj, rfl, hl, harg, hnx⟩ := hrel
    have HARG := Lib.hid harg; have HNX := Lib.hid hnx
    clear harg hnx hN0
    by_cases hjn : j < n
    · obtain ⟨p, hpj⟩ : ∃ p, ps[j]? = some p := ⟨_, List.getElem?_eq_getElem (by have := HN.out; omega)⟩
      obtain ⟨x, hxj⟩ : ∃ x, ss[j]? = some x := ⟨_, List.getElem?_eq_getElem (by have := HN2.out; omega)⟩
      obtain ⟨g, o, rfl, hgB, c0, c1, c2⟩ := HV.out j p hpj
      obtain ⟨g2, o2, rfl, hgB2, d0⟩ := HSS.out j x hxj
      have hX := HNX.out.bl
      replace c0 := (hX.cell (p := ⟨g, o + j * 3, none⟩) hgB).trans c0
      replace c1 := (hX.cell (p := ⟨g, o + j * 3 + 1, none⟩) hgB).trans c1
      replace c2 := (hX.cell (p := ⟨g, o + j * 3 + 2, none⟩) hgB).trans c2
      replace d0 := (hX.cell (p := ⟨g2, o2 + j, none⟩) hgB2).trans d0
      have HSU : Hid (argsM σ (ps.take (j + 1)) (ss.take (j + 1)) = match argsM σ [p] [x] with | .error e => .error e | .ok r => .ok (l ++ r)) := Lib.hid (argsM_succ hpj hxj HARG.out)
      have HTK : Hid (ps.take (j + 1) = ps.take j ++ [p]) := Lib.hid (by rw [List.take_add_one, hpj]; rfl)
      have HX := Lib.hid hX
      have hXs := hX.size
      clear hpj hxj hX
      obtain ⟨nm, k, len⟩ := p
      dsimp only at c0 c1 c2
      have j0 : (0 : Int) ≤ (j : Int) := by omega
      have j1 : (j : Int) < (n : Int) := by omega
      go_upto_region 10 with fail
      refine wp_nameE ?_
      intro w3 hw3
      have hb3 : Below wr.heap.size wr w3 := by rw [hw3]; exact (by go_grown)
      have KP : Blk w3 wr.heap.size 72 #[.string nm, .int .u8 k, .int .i64 len] := by rw [hw3]; exact blkA
      have HB3 := Lib.hid (HX.out.trans (hb3.mono hXs)); have HKP := Lib.hid KP; have HB3X := Lib.hid hb3
      replace d0 := (hb3.cell (p := ⟨g2, o2 + j, none⟩) (show g2 < wr.heap.size by omega)).trans d0
      obtain ⟨zP, TP, FP⟩ := KP.open_
      clear hw3 hb3 KP c0 c1 c2
      go_wp2_with fail
      refine (HFI.out w3 HB3.out x).mono ?_
      rintro en w4 ⟨rfl, rfl⟩
      cases hf : findV x σ.cur.vars with
      | none =>
        rw [findI_none hf]
        have HS2 : Hid (argsM σ (ps.take (j + 1)) (ss.take (j + 1)) = .error 6) := Lib.hid (by rw [HSU.out]; simp only [argsM, hf])
        clear hf
        go_wp2_with fail
        go_ret
        exact HERR.out _ _ _ (by omega) (by decide) HS2.out HB3.out
      | some i =>
        rw [findI_some hf]
        obtain ⟨u, hu, _⟩ := findV_some hf
        obtain ⟨c, hc⟩ := HIX.out i u hu
        obtain ⟨nv, gv, gr, cpv, cpr, hi, hnv, hrd⟩ := HVI.out i u c hu hc
        obtain ⟨e0, e1, e2, e3, e4⟩ := hrd w3 HB3.out
        have HRD := Lib.hid hrd
        have hgd : σ.cur.vars.getD i ⟨x, 0, 0⟩ = u := by rw [List.getD_eq_getElem?_getD, hu]; rfl
        have hgi : σ.cur.idx.getD i 0 = c := by rw [List.getD_eq_getElem?_getD, hc]; rfl
        have HS2 : Hid (argsM σ (ps.take (j + 1)) (ss.take (j + 1)) = if u.k ≠ k ∨ u.len ≠ len then .error 7 else .ok (l ++ [c])) := Lib.hid (by
          rw [HSU.out]; simp only [argsM, hf, hgd, hgi]
          by_cases hc : u.k ≠ k ∨ u.len ≠ len
          · rw [if_pos hc, if_pos hc]
          · rw [if_neg hc, if_neg hc])
        obtain ⟨unm, uk, ul⟩ := u
        dsimp only at e2 e3 HS2
        obtain ⟨s1, hs1⟩ : ∃ s, (uk != k) = s := ⟨_, rfl⟩
        obtain ⟨s2, hs2⟩ : ∃ s, (ul != len) = s := ⟨_, rfl⟩
        have HS3 : Hid (argsM σ (ps.take (j + 1)) (ss.take (j + 1)) = if (s1 || s2) = true then .error 7 else .ok (l ++ [c])) := Lib.hid (by rw [HS2.out, ← hs1, ← hs2]; simp)
        have i0 : (0 : Int) ≤ (i : Int) := by omega
        have i1 : (i : Int) < (nv : Int) := by omega
        clear hf hu hc hrd hgd hgi HSU HS2
        cases s1
        · cases s2
          · go_wp2_with fail
            go_quiet (fail)
            go_upto_region 15 with fail
            refine wp_nameE ?_
            intro w4 hw4
            have hb4 : Below w3.heap.size w3 w4 := by rw [hw4]; exact Bk.drewN_ (Below.refl _ _) _
            have HB4X : Hid (Below wr.heap.size wr w4) := Lib.hid (HB3X.out.next hb4)
            have hB4 := HB3.out.next hb4
            obtain ⟨e0, e1, e2, e3, e4⟩ := HRD.out w4 hB4
            obtain ⟨zP, TP, FP⟩ := (HKP.out.next hb4).open_
            have HAD : Hid (Calls Tryz.prog 63 #[.pointer (some ⟨w.heap.size, 0, none⟩), .agg #[.string nm, .int .u8 k, .int .i64 len], .pointer (some ⟨S.cb c, 0, none⟩)] w4.drew fun e w' => e = .returned (.tuple #[]) ∧ NxP w S w.heap.size (ps.take j ++ [⟨nm, k, len⟩]) (l ++ [c]) w') := Lib.hid ((HNX.out.next (w' := w4.drew) (by have := HB4X.out; go_grown)).add (by simp; omega) (by omega) ⟨nm, k, len⟩ c)
            clear hw4 hb4 hB4
            go_still_tail 8, (by kernel_rfl)
            change wpList _ _ _ _ _ w4.drew
            go_wp2_with fail
            refine HAD.out.mono ?_
            rintro en w5 ⟨rfl, hnx⟩
            have HN5 := Lib.hid hnx
            clear hnx
            go_wp2_with fail
            exact ⟨⟨j + 1, l ++ [c], by omega, by first | rfl | go_num, by simp; omega, by rw [HS3.out]; rfl, by rw [HTK.out]; exact HN5.out⟩, (by simp [intOf]; try omega)⟩
          · go_wp2_with fail
            go_quiet (fail)
            go_wp2_with fail
            go_ret
            exact HERR.out (j + 1) 7 _ (by omega) (by decide) (by rw [HS3.out]; rfl) (HB3.out.trans (Bk.drewN_ (Below.refl _ _) _))
        · go_wp2_with fail
          go_quiet (fail)
          go_wp2_with fail
          go_ret
          exact HERR.out (j + 1) 7 _ (by omega) (by decide) (by rw [HS3.out]; rfl) (HB3.out.trans (Bk.drewN_ (Below.refl _ _) _))
    · obtain rfl : j = n := by omega
      have hok : argsM σ ps ss = .ok l := argsM_end (by rw [HN.out, HN2.out]) (by have h := HARG.out; rw [HN.out]; exact h)
      have htk : ps.take j = ps := by rw [← HN.out]; exact List.take_length
      have HN1 : Hid (NxP w S w.heap.size ps l wr) := Lib.hid (by have h := HNX.out; rw [htk] at h; exact h)
      have HQ2 : Hid (q = if 100 ≤ σ.calls.length then .error 19 else .ok { σ with calls := σ.calls ++ [⟨ps, l, 0⟩] }) := Lib.hid (by
        rw [← HQ.out]; unfold enterM; rw [if_neg (by rw [HN.out, HN2.out]; omega), hok])
      have HT := Lib.hid (H.out.next HN1.out.bl).top
      have HCV := Lib.hid H.out.calls
      obtain ⟨A4, c4, e4⟩ := own_form HCV.out
      have HRC : Hid (∀ k, Value.ownBlock (.slice A4 σ.calls.length c4) = some k → S.ro k = .calls) := Lib.hid fun k hk => H.out.rcv k (by rw [e4]; exact hk)
      have HST : Hid (S.ro S.st = .store ∧ S.st < w.heap.size) := Lib.hid ⟨H.out.rst, H.out.lt_st⟩
      have hnc : σ.calls.length ≤ 100 := HO.out.nc
      rw [e4] at HT HCV
      have HFIN : Hid (∀ w' v c cv, Fr (fun k => S.ro k = .calls ∨ k = S.st) w w' → w'.ownsRow w.heap.size 72 3 v ps.length (varCells ps) → w'.ownsRow w.heap.size 125 1 c l.length (S.ptrs l) → Blk w' S.st 123 #[S.bv, S.bc, .int .i64 σ.base.locals, cv, .pointer (some ⟨S.tb, 0, none⟩)] → w'.ownsRow B 120 3 cv (σ.calls.length + 1) (frRow S.fv σ.calls ++ [v, c, .int .i64 0]) → (∀ k, cv.ownBlock = some k → S.ro k = .calls ∨ w.heap.size ≤ k) → (∀ k, v.ownBlock = some k → c.ownBlock = some k → False) → (∀ k, cv.ownBlock = some k → v.ownBlock = some k ∨ c.ownBlock = some k → False) →
          RetS B S w (.ok { σ with calls := σ.calls ++ [⟨ps, l, 0⟩] }) (.returned (.int .i64 0)) w') := Lib.hid (by
        intro w' v c cv a1 a2 a3 a4 a5 a6 a7 a8
        obtain ⟨S', r1, r2⟩ := H.out.push a1 hB (f := ⟨ps, l, 0⟩) a2 a3 a4 a5 a6 a7 a8
        refine ⟨rfl, ⟨S', r1, r2⟩, a1.mono fun k hk => ?_⟩
        show S.ro k ≠ .none
        rcases hk with hk | hk
        · rw [hk]; simp
        · rw [hk, H.out.rst]; simp)
      have HX := Lib.hid HN1.out.bl
      clear HARG HNX HQ HO H HERR HIX HVI HFI HCU HFB HFO HV HSS HN HN2 htk hok e4
      obtain ⟨z_, T_, F_⟩ := HT.out.open_
      have hwn : wr.heap.size ≥ w.heap.size := HX.out.size
      by_cases h100 : 100 ≤ σ.calls.length
      · have e100 : decide ((100 : Int) ≤ ((σ.calls.length : Nat) : Int)) = true := decide_eq_true (by omega)
        obtain rfl := HQ2.out.trans (if_pos h100)
        generalize σ.calls.length = nc at *
        clear HFIN
        go_wp2_with fail
        go_ret
        exact ⟨rfl, by decide, Fr.of HX.out⟩
      · have e100 : decide ((100 : Int) ≤ ((σ.calls.length : Nat) : Int)) = false := decide_eq_false (by omega)
        obtain rfl := HQ2.out.trans (if_neg h100)
        obtain ⟨v, c, hnb, hov, hoc, hvn, hcn, hvc⟩ := HN1.out.blk
        obtain ⟨Av, cpv, rfl⟩ := own_form hov
        obtain ⟨Ac, cpc, rfl⟩ := own_form hoc
        have HNB := Lib.hid hnb; have HOV := Lib.hid hov; have HOC := Lib.hid hoc; have HVC := Lib.hid hvc
        obtain ⟨i3, li, lz, ls, lb⟩ := info_parts info_frame
        have HI := Lib.hid li; have HZ := Lib.hid lz; have HSZ := Lib.hid ls; have HBY := Lib.hid lb
        have HO : Hid (wr.ownsRow B 120 3 (.slice A4 σ.calls.length c4) σ.calls.length (frRow S.fv σ.calls)) := Lib.hid (own_below HCV.out HX.out (Nat.le_refl _))
        generalize frRow S.fv σ.calls = XS at *
        generalize σ.calls.length = nc at *
        generalize ps.length = nv at *
        generalize l.length = nl at *
        clear hnb hov hoc hvn hcn hvc li lz ls lb hl h100
        have HC : Hid (wr.cell? ⟨S.st, 3, none⟩ = some (.slice A4 nc c4)) := Lib.hid (HT.out.cell 3)
        have HCF : Hid (wr.frozen? ⟨S.st, 3, none⟩ = false) := Lib.hid (HT.out.frozen 3)
        have hbl1 : S.st < wr.heap.size := HT.out.lt
        have hnb1 : ¬ Value.ownBlock (.slice A4 nc c4) = some S.st := fun e => by have a := HRC.out _ e; rw [HST.out.1] at a; cases a
        have HCB : Hid (∀ k, Value.ownBlock (.slice A4 nc c4) = some k → k < w.heap.size) := Lib.hid fun k hk => own_lt' HCV.out hk
        have hnk : ¬ Value.ownBlock (.slice A4 nc c4) = some w.heap.size := fun e => by have a := HCB.out _ e; omega
        go_upto_region 19 with fail
        refine wp_region_heldL (S := fun W => Fr (fun k => Value.ownBlock (.slice A4 nc c4) = some k) wr W) 10 (by kernel_rfl) ((Fr.refl _ _).drew) (fun hH => ?_)
        refine wpAnyL_at ?_
        intro wa hwa
        have hX : Fr (fun k => Value.ownBlock (.slice A4 nc c4) = some k) wr wa := by rw [hwa]; exact (Fr.refl _ _).drew
        have HOq := HO.out
        replace HOq : wa.ownsRow B 120 3 (.slice A4 nc c4) nc (XS) := by rw [hwa]; exact own_drew HOq
        replace hH := hX
        clear hwa
        refine wpAnyL_take (i := 0) (v := ?_) rfl (by kernel_rfl) (by kernel_rfl) (by kernel_rfl) (by kernel_rfl) (fun _ _ _ h => h) (Or.inl ⟨by rfl, ?hy⟩) hH ?_
        case hy => (intro w9_ hS9; clear hS9; go_simp; try with_reducible rfl)
        (try simp only [PU, Act.put])
        refine wpAnyL_take (i := 1) (v := ?_) rfl (by kernel_rfl) (by kernel_rfl) (by kernel_rfl) (by kernel_rfl) (fun _ _ _ h => h) (Or.inl ⟨by rfl, ?hy⟩) hH ?_
        case hy => (intro w9_ hS9; clear hS9; go_simp; try with_reducible rfl)
        (try simp only [PU, Act.put])
        refine wpAnyL_take (i := 2) (v := ?_) rfl (by kernel_rfl) (by kernel_rfl) (by kernel_rfl) (by kernel_rfl) (fun _ _ _ h => h) (Or.inl ⟨by rfl, ?hy⟩) hH ?_
        case hy => (intro w9_ hS9; clear hS9; go_simp; try with_reducible rfl)
        (try simp only [PU, Act.put])
        refine wpAnyL_take (i := 3) (v := ?_) rfl (by kernel_rfl) (by kernel_rfl) (by kernel_rfl) (by kernel_rfl) (fun _ _ _ h => h) (Or.inl ⟨by rfl, ?hy⟩) hH ?_
        case hy => (intro w9_ hS9; clear hS9; go_simp; try with_reducible rfl)
        (try simp only [PU, Act.put])
        refine wpAnyL_take (i := 4) (v := ?_) rfl (by kernel_rfl) (by kernel_rfl) (by kernel_rfl) (by kernel_rfl) (fun _ _ _ h => h) (Or.inl ⟨by rfl, ?hy⟩) hH ?_
        case hy => (intro w9_ hS9; have t := (hS9.cell hbl1 hnb1 3).trans HC.out; clear hS9; go_simp; try with_reducible rfl)
        (try simp only [PU, Act.put])
        refine wpAnyL_take (i := 5) (v := ?_) rfl (by kernel_rfl) (by kernel_rfl) (by kernel_rfl) (by kernel_rfl) (fun _ _ _ h => h) (Or.inl ⟨by rfl, ?hy⟩) hH ?_
        case hy => (intro w9_ hS9; have t := (hS9.blk HNB.out hnk).cell; clear hS9; go_simp; try with_reducible rfl)
        (try simp only [PU, Act.put])
        refine wpAnyL_next (i := 6) rfl (by kernel_rfl) (fun K hK => ?_)
        go_simp
        replace hH := hX.alloc (.cells #[.slice Av nv cpv, .slice Ac nl cpc, .int .i64 0] 120)
        refine hK.out _ _ hH (fun _ => ?_)
        clear hK
        (try simp only [PU, Act.put])
        refine wpAnyL_at ?_
        intro wb hwn
        have hbn : Below wa.heap.size wa wb := by rw [hwn]; exact (Below.refl _ _).alloc (Nat.le_refl _) _
        have K_n : Blk wb wa.heap.size 120 #[.slice Av nv cpv, .slice Ac nl cpc, .int .i64 0] := by rw [hwn]; exact Blk.new _ _ _
        replace HOq := own_below HOq hbn (Nat.le_refl _)
        replace hX := hX.next hbn
        replace hH := hX
        clear hwn hbn
        refine wpAnyL_next (i := 7) rfl (by kernel_rfl) (fun K hK => ?_)
        rw [if_pos (by rfl)]
        refine wp_appS (.tmp 80) (.tmp 82) 121 rfl B 120 i3 _ 3 56 Tryz.underlying121 HI.out HZ.out HSZ.out HBY.out rfl (by decide) (.slice A4 nc c4) nc (XS) (by simp [Act.eval]) HOq (by simp [Act.eval]) (sl_blk3 K_n) (by intro u hu; simp at hu; rcases hu with rfl | rfl | rfl <;> rfl) (by unfold maxLen; omega) (by omega) (by have := hX.size; omega) ?_
        intro v_2 wc hown hgr hat
        have hXB := hX.size
        replace hX : Fr (fun k => Value.ownBlock (.slice A4 nc c4) = some k) wr wc := hX.trans (Fr.ofGrownN hgr)
        replace hH := hX
        obtain ⟨A_2, c_2, rfl⟩ := own_form hown
        have HAT : Hid (∀ k, Value.ownBlock (.slice A_2 (nc + 1) c_2) = some k → Value.ownBlock (.slice A4 nc c4) = some k ∨ wr.heap.size ≤ k) := Lib.hid (fun k hk => hat.imp (fun e => by rw [← e]; exact hk) (fun e => by rw [hk] at e; have e := Option.some.inj e; omega))
        clear hgr hat hXB
        refine hK.out _ _ hH (fun _ => ?_)
        clear hK
        (try simp only [PU, Act.put])
        refine wpAnyL_next (i := 8) rfl (by kernel_rfl) (fun K hK => ?_)
        go_simp
        refine hK.out _ _ hH (fun _ => ?_)
        clear hK
        (try simp only [PU, Act.put])
        refine wpAnyL_take (i := 9) (v := ?_) rfl (by kernel_rfl) (by kernel_rfl) (by kernel_rfl) (by kernel_rfl) (fun _ _ _ h => h) (Or.inl ⟨by rfl, ?hy⟩) hH ?_
        case hy => (intro w9_ hS9; clear hS9; go_simp; try with_reducible rfl)
        (try simp only [PU, Act.put])
        refine wpAnyL_last (l := 10) rfl (by kernel_rfl) (by kernel_rfl) (fun K hK => ?_)
        have F_f := (World.frozen?_of_block (a := ⟨S.st, 3, none⟩) (hX.block _ hbl1 hnb1)).trans HCF.out
        have C_f := (hX.cell hbl1 hnb1 _).trans HC.out
        go_simp
        refine hK.out _ _ ?_
        clear hK
        (try simp only [PU, Act.put])
        have HOZ := Lib.hid hown; have HXZ := Lib.hid hX; clear hown hX hH HOq
        have HFF : Hid (Fr (fun k => S.ro k = .calls ∨ k = S.st) w (wc.setCell ⟨S.st, 3, none⟩ (.slice A_2 (nc + 1) c_2))) := Lib.hid (((Fr.of HX.out).trans (HXZ.out.mono fun k hk => .inl (HRC.out k hk))).set (p := ⟨S.st, 3, none⟩) (.inr rfl) _)
        have HSF : Hid (Fr (fun k => k = S.st) wc (wc.setCell ⟨S.st, 3, none⟩ (.slice A_2 (nc + 1) c_2))) := Lib.hid ((Fr.refl (fun k => k = S.st) wc).set (p := ⟨S.st, 3, none⟩) rfl _)
        have HVF := Lib.hid (own_fr (own_fr HOV.out HXZ.out fun k hk e => by have a := (own_gE HOV.out hk).1; have b := HCB.out _ e; omega) HSF.out fun k hk e => by have a := (own_gE HOV.out hk).1; have b := HST.out.2; omega)
        have HCFF := Lib.hid (own_fr (own_fr HOC.out HXZ.out fun k hk e => by have a := (own_gE HOC.out hk).1; have b := HCB.out _ e; omega) HSF.out fun k hk e => by have a := (own_gE HOC.out hk).1; have b := HST.out.2; omega)
        have HBF := Lib.hid ((HXZ.out.blk HT.out hnb1).set_ 3 (.slice A_2 (nc + 1) c_2))
        have HRF := Lib.hid (own_fr HOZ.out HSF.out fun k hk e => by subst e; rcases HAT.out _ hk with h1 | h1; exact hnb1 h1; omega)
        have HFI2 := Lib.hid (HFIN.out (wc.setCell ⟨S.st, 3, none⟩ (.slice A_2 (nc + 1) c_2)) _ _ _ HFF.out HVF.out HCFF.out HBF.out HRF.out (fun k hk => (HAT.out k hk).imp (HRC.out k) fun h => by omega) HVC.out (fun k h1 h2 => by
          have hk : k < wr.heap.size ∧ w.heap.size ≤ k := h2.elim (fun h => ⟨(own_gE HOV.out h).2, (own_gE HOV.out h).1⟩) fun h => ⟨(own_gE HOC.out h).2, (own_gE HOC.out h).1⟩
          rcases HAT.out k h1 with h3 | h3
          · have := HCB.out _ h3; omega
          · omega))
        go_wp2_with fail
        go_ret
        exact HFI2.out
end
end Go.Proofs.YtakfdnnlhjhcfaaGreatDoor
