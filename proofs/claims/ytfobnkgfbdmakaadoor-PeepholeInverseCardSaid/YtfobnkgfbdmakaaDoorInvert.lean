/- The walk of image.Invert at a valid image. -/
import Derived.Test.YtfobnkgfbdmakaaDoorClone
import Derived.Test.YtfobnkgfbdmakaaDoorGrow
import Derived.Test.YtfobnkgfbdmakaaDoorInvQ
import Derived.Outline
set_option linter.unusedVariables false
namespace Go.Proofs.YtfobnkgfbdmakaaDoor
open Go.RowKit Bk

/-- The code behind i rounds: the last i places hold the inverses. -/
def invAt (c : Prg) (i : Nat) : Prg := (List.range c.length).map fun p => if c.length - 1 - p < i then invI c (c.getD (c.length - 1 - p) default) else c.getD p default
theorem invAt_length (c : Prg) (i : Nat) : (invAt c i).length = c.length := by simp [invAt]
theorem invAt_zero (c : Prg) : invAt c 0 = c := by
  apply List.ext_getElem (by simp [invAt])
  intro p h1 h2
  simp [invAt, List.getD_eq_getElem?_getD, h2]
theorem invAt_all (c : Prg) : invAt c c.length = invC c := by
  apply List.ext_getElem (by simp [invAt, invC])
  intro p h1 h2
  have hp : p < c.length := by simpa [invAt] using h1
  have e : c.length - 1 - p < c.length := by omega
  simp [invAt, invC, List.getElem_reverse, List.getD_eq_getElem?_getD, e]
theorem invAt_succ (c : Prg) (i : Nat) (h : i < c.length) : invAt c (i + 1) = (invAt c i).set (c.length - 1 - i) (invI c (c.getD i default)) := by
  apply List.ext_getElem (by simp [invAt])
  intro p h1 h2
  have hp : p < c.length := by simpa [invAt] using h1
  rw [List.getElem_set]
  simp only [invAt, List.getElem_map, List.getElem_range]
  by_cases e : c.length - 1 - i = p
  · rw [if_pos e, if_pos (by omega)]
    have : c.length - 1 - p = i := by omega
    rw [this]
  · rw [if_neg e]
    by_cases h3 : c.length - 1 - p < i
    · rw [if_pos h3, if_pos (by omega)]
    · rw [if_neg h3, if_neg (by omega)]

theorem set5 {cs : Array Value} {l : Prg} {n j : Nat} {x : Ins} (h : cs.toList.take (n * 5) = codeCells l) (hl : l.length = n) (hj : j < n) (hs : n * 5 ≤ cs.size) :
    (((((cs.setIfInBounds (j * 5) (.int .u8 x.op)).setIfInBounds (j * 5 + 1) (.int .i64 x.a)).setIfInBounds (j * 5 + 2) (.int .i64 x.b)).setIfInBounds (j * 5 + 3) (.int .i64 x.c)).setIfInBounds (j * 5 + 4) (.int .i64 x.d)).toList.take (n * 5) = codeCells (l.set j x) := by
  apply List.ext_getElem?
  intro p
  rw [List.getElem?_take]
  by_cases hp : p < n * 5
  · rw [if_pos hp]
    have hcs : cs.toList[p]? = (codeCells l)[p]? := by rw [← h, List.getElem?_take, if_pos hp]
    have e : p = p / 5 * 5 + p % 5 := by omega
    have hq : p / 5 < n := by omega
    have hr : p % 5 < 5 := by omega
    rw [e] at hcs
    rw [codeCells_get l (p / 5) (p % 5) (by omega) hr] at hcs
    conv => rhs; rw [e]
    rw [codeCells_get (l.set j x) (p / 5) (p % 5) (by simp; omega) hr]
    simp only [Array.toList_setIfInBounds, List.getElem?_set, List.length_set]
    have hlen : cs.toList.length = cs.size := by simp
    by_cases hjq : p / 5 = j
    · have hx : (l.set j x).getD (p / 5) default = x := by
        rw [List.getD_eq_getElem?_getD, hjq, List.getElem?_set, if_pos rfl, if_pos (by omega)]; rfl
      rw [hx]
      have hr5 : p = j * 5 ∨ p = j * 5 + 1 ∨ p = j * 5 + 2 ∨ p = j * 5 + 3 ∨ p = j * 5 + 4 := by omega
      clear e hcs hx hjq hq
      rcases hr5 with rfl | rfl | rfl | rfl | rfl
      · have h5 : j * 5 % 5 = 0 := by omega
        rw [if_neg (by omega), if_neg (by omega), if_neg (by omega), if_neg (by omega), if_pos rfl, if_pos (by omega), h5]; rfl
      · have h5 : (j * 5 + 1) % 5 = 1 := by omega
        rw [if_neg (by omega), if_neg (by omega), if_neg (by omega), if_pos rfl, if_pos (by omega), h5]; rfl
      · have h5 : (j * 5 + 2) % 5 = 2 := by omega
        rw [if_neg (by omega), if_neg (by omega), if_pos rfl, if_pos (by omega), h5]; rfl
      · have h5 : (j * 5 + 3) % 5 = 3 := by omega
        rw [if_neg (by omega), if_pos rfl, if_pos (by omega), h5]; rfl
      · have h5 : (j * 5 + 4) % 5 = 4 := by omega
        rw [if_pos rfl, if_pos (by omega), h5]; rfl
    · have hx : (l.set j x).getD (p / 5) default = l.getD (p / 5) default := by
        rw [List.getD_eq_getElem?_getD, List.getD_eq_getElem?_getD, List.getElem?_set, if_neg (by omega)]
      rw [hx, ← hcs, ← e]
      rw [if_neg (by omega), if_neg (by omega), if_neg (by omega), if_neg (by omega), if_neg (by omega)]
  · rw [if_neg hp, List.getElem?_eq_none (by rw [codeCells_length]; simp; omega)]
theorem cell_far (w : World) (p : Addr) (u : Value) {b : Nat} (o : Nat) (h : b ≠ p.block) : (w.setCell p u).cell? ⟨b, o, none⟩ = w.cell? ⟨b, o, none⟩ := World.cell?_of_block (Below.heap_setCell w p u b h)
theorem inv_30 (op : Int) : inv op = 30 ↔ op = 30 := by
  unfold inv; repeat (first | (split; · omega) | omega)
theorem inv_31 (op : Int) : inv op = 31 ↔ op = 31 := by
  unfold inv; repeat (first | (split; · omega) | omega)

theorem check_ok {im : Img} (h : im.check.2 = 0) : im.check = (-1, 0) := by
  obtain ⟨hs, hf⟩ := check_fault h
  unfold Img.check
  rw [if_pos hs, checkFrom_all im.code _ hf]

set_option maxRecDepth 100000 in
set_option maxHeartbeats 8000000 in
theorem Invert.some_ (b off n cap : Nat) (im : Img) (hck : im.check.2 = 0) (hn0 : 0 < n) (w : World) (hC : Rd w (· < w.heap.size) 5 (some ⟨b, off, none⟩) n (codeCells im.code)) (hw : CodeWf im.code) (hTab : TableAt w) :
    Calls Tryd.prog 25 #[.agg #[.slice (some ⟨b, off, none⟩) n cap, .int .i64 im.mem, .int .i64 im.stacks]] w fun e w' =>
      ∃ A' m c, e = .returned (.tuple #[.agg #[.slice A' m c, .int .i64 im.mem, .int .i64 im.stacks], .int .i64 0]) ∧ Rd w' (· < w'.heap.size) 5 A' m (codeCells (invC im.code)) ∧ Below w.heap.size w w' := by
  have hn : n = im.code.length := by have := hC.1; rw [codeCells_length] at this; omega
  have hb : b < w.heap.size := hC.blk hn0
  have hk := ok_of hck hw
  have hmax := hk.len
  have HN := Lib.hid hn; have HC := Lib.hid hC; have HT := Lib.hid hTab; have HK := Lib.hid hk; have HCK := Lib.hid (check_ok hck)
  clear hn hC hTab hk hck
  go_enter Tryd.func25, Tryd.ntmps25
  go_wp2_with fail
  refine (c_Check' _ _ _ im HCK.out _ (HC.out.next (by repeat' (first | (with_reducible assumption) | (with_reducible exact Below.refl _ _) | (with_reducible refine Below.alloc ?_ ?_ _) | (with_reducible refine Bk.drewN_ ?_ _) | (with_reducible refine Below.drew ?_) | (with_reducible refine Below.setCell ?_ ?_ _) | go_size))) hw (HT.out.next (by repeat' (first | (with_reducible assumption) | (with_reducible exact Below.refl _ _) | (with_reducible refine Below.alloc ?_ ?_ _) | (with_reducible refine Bk.drewN_ ?_ _) | (with_reducible refine Below.drew ?_) | (with_reducible refine Below.setCell ?_ ?_ _) | go_size)))).mono ?_
  rintro e w1 ⟨rfl, hb1⟩
  have hB1 : Below w.heap.size w w1 := Below.trans (by repeat' (first | (with_reducible assumption) | (with_reducible exact Below.refl _ _) | (with_reducible refine Below.alloc ?_ ?_ _) | (with_reducible refine Bk.drewN_ ?_ _) | (with_reducible refine Below.drew ?_) | (with_reducible refine Below.setCell ?_ ?_ _) | go_size)) (hb1.mono (by go_size))
  have K_1 : Blk w1 (w.heap.size) 30 #[.slice (some ⟨b, off, none⟩) n cap, .int .i64 im.mem, .int .i64 im.stacks] := Blk.next (by repeat' (first | with_reducible exact H_1.out | with_reducible exact K0_1 | (refine Blk.new' ?_ _ _; simp; done) | with_reducible refine Blk.alloc ?_ _ | with_reducible refine Blk.drewN ?_ _ | with_reducible refine Blk.drew ?_)) hb1; have K_2 : Blk w1 (w.heap.size + 1) 30 #[.slice none 0 0, .int .i64 0, .int .i64 0] := Blk.next (by repeat' (first | with_reducible exact H_2.out | with_reducible exact K0_2 | (refine Blk.new' ?_ _ _; simp; done) | with_reducible refine Blk.alloc ?_ _ | with_reducible refine Blk.drewN ?_ _ | with_reducible refine Blk.drew ?_)) hb1; (try clear H_1); (try clear T_1); (try clear z_1); (try clear F_1); (try clear H_2); (try clear T_2); (try clear z_2); (try clear F_2); obtain ⟨z_1, T_1, F_1⟩ := K_1.open_; have H_1 := Lib.hid K_1; clear K_1; obtain ⟨z_2, T_2, F_2⟩ := K_2.open_; have H_2 := Lib.hid K_2; clear K_2
  clear hb1
  have y2 : w.heap.size + 1 < w1.heap.size := z_2
  have hn65 : n ≤ 65536 := by have := HN.out; omega
  go_wp2_with fail
  refine (c_Clone _ _ _ im.code _ hn65 (HC.out.next hB1)).mono ?_
  rintro e w2 ⟨v2, rfl, ho2, hb2⟩
  have hB2 : Below w.heap.size w w2 := Below.trans (by repeat' (first | (with_reducible assumption) | (with_reducible exact Below.refl _ _) | (with_reducible refine Below.alloc ?_ ?_ _) | (with_reducible refine Bk.drewN_ ?_ _) | (with_reducible refine Below.drew ?_) | (with_reducible refine Below.setCell ?_ ?_ _) | go_size)) (hb2.mono (by go_size))
  have K_1 : Blk w2 (w.heap.size) 30 #[.slice (some ⟨b, off, none⟩) n cap, .int .i64 im.mem, .int .i64 im.stacks] := Blk.next (by repeat' (first | with_reducible exact H_1.out | with_reducible exact K0_1 | (refine Blk.new' ?_ _ _; simp; done) | with_reducible refine Blk.alloc ?_ _ | with_reducible refine Blk.drewN ?_ _ | with_reducible refine Blk.drew ?_)) hb2; have K_2 : Blk w2 (w.heap.size + 1) 30 #[.slice none 0 0, .int .i64 0, .int .i64 0] := Blk.next (by repeat' (first | with_reducible exact H_2.out | with_reducible exact K0_2 | (refine Blk.new' ?_ _ _; simp; done) | with_reducible refine Blk.alloc ?_ _ | with_reducible refine Blk.drewN ?_ _ | with_reducible refine Blk.drew ?_)) hb2; (try clear H_1); (try clear T_1); (try clear z_1); (try clear F_1); (try clear H_2); (try clear T_2); (try clear z_2); (try clear F_2); obtain ⟨z_1, T_1, F_1⟩ := K_1.open_; have H_1 := Lib.hid K_1; clear K_1; obtain ⟨z_2, T_2, F_2⟩ := K_2.open_; have H_2 := Lib.hid K_2; clear K_2
  obtain ⟨g, cap2, cur, rfl, hg, hh, hnc, hcap, hsz, htake⟩ : ∃ g cap2 cur, v2 = .slice (some ⟨g, 0, none⟩) n cap2 ∧ w1.heap.size ≤ g ∧ Blk w2 g 23 cur ∧ n ≤ cap2 ∧ cap2 ≤ maxLen ∧ cur.size = cap2 * 5 ∧ cur.toList.take (n * 5) = codeCells im.code := by
    rcases ho2.2 with ⟨rfl, h0⟩ | ⟨g, cap2, cur, rfl, hg, hh, hnc, hcap, hsz, ht⟩
    · omega
    · exact ⟨g, cap2, cur, rfl, hg, hh, hnc, hcap, hsz, ht⟩
  clear ho2 hb2
  have z1g : w.heap.size < g := by omega
  have z2g : w.heap.size + 1 < g := by omega
  have HH := Lib.hid hh; have HTake := Lib.hid htake; have HSZ := Lib.hid hsz
  clear hh htake hsz
  go_wp2_with fail
  have HHB2 := Lib.hid hB2
  go_loopw [8, 9] (fun v8 v9 wr => ∃ i : Nat, i ≤ n ∧ v8 = .int .i64 i ∧ v9 = .int .i64 ((n : Int) - 1 - i) ∧ Below w.heap.size w wr ∧ (∃ cs : Array Value, Blk wr g 23 cs ∧ cs.size = cap2 * 5 ∧ cs.toList.take (n * 5) = codeCells (invAt im.code i)) ∧
    Blk wr w.heap.size 30 #[.slice (some ⟨b, off, none⟩) n cap, .int .i64 im.mem, .int .i64 im.stacks] ∧ Blk wr (w.heap.size + 1) 30 #[.slice none 0 0, .int .i64 0, .int .i64 0]) (fun i _ _ => n - (intOf i).toNat)
  case atStart => exact ⟨0, Nat.zero_le _, rfl, by go_num, hB2, ⟨cur, HH.out, HSZ.out, by rw [invAt_zero]; exact HTake.out⟩, H_1.out, H_2.out⟩
  case round =>
    obtain ⟨i, hi, rfl, rfl, hB, ⟨cs, hg', hcs, htk⟩, K1, K2⟩ := hrel
    clear z_1 T_1 F_1 z_2 T_2 F_2 H_1 H_2
    by_cases hlt : i < n
    · obtain ⟨x0, x1, x2, x3, x4⟩ := (HC.out.below hB (fun _ h => h)).insAt (k := i) (HN.out ▸ hlt)
      obtain ⟨jn, hjn⟩ : ∃ jn : Nat, (n : Int) - 1 - (i : Int) = (jn : Int) := ⟨n - 1 - i, by omega⟩
      rw [hjn]
      have hjn' : jn = n - 1 - i := by omega
      have HJN := Lib.hid hjn; have HJN' := Lib.hid hjn'
      have hx0 := hw.op0 i
      have hx1 := (hw i (HN.out ▸ hlt)).op1
      obtain ⟨⟨t, ok⟩, ht⟩ : ∃ p, (im.code.getD i default).target = p := ⟨_, rfl⟩
      have hsucc := invAt_succ im.code i (HN.out ▸ hlt)
      have htgt : ok = true → ∃ tn e : Nat, t = (tn : Int) ∧ tn < n ∧ e < n ∧ invT im.code (im.code.getD i default) t = (e : Int) ∧ (((im.code.getD i default).op = 30 ∨ (im.code.getD i default).op = 31) → (im.code.getD tn default).a = (e : Int)) ∧ (¬ ((im.code.getD i default).op = 30 ∨ (im.code.getD i default).op = 31) → e = tn) := by
        intro hok
        subst hok
        by_cases hop : (im.code.getD i default).op = 30 ∨ (im.code.getD i default).op = 31
        · obtain ⟨s, e, s1, s2, s3, s4⟩ := call_end HK.out (HN.out ▸ hlt) hop
          obtain ⟨p1, p2, _⟩ := proc_spec s2
          rw [ht] at s1 s4
          have hN := HN.out
          exact ⟨s, e, s1, by omega, by omega, s4, fun _ => s3, fun h => absurd hop h⟩
        · obtain ⟨tn, t1, t2, _⟩ := HK.out.link i (HN.out ▸ hlt) (by unfold tgt; rw [ht]) hop
          rw [ht] at t2
          have hN := HN.out
          exact ⟨tn, tn, t2, by omega, by omega, by rw [invT, if_neg hop]; exact t2, fun h => absurd h hop, fun _ => rfl⟩
      have hI : invI im.code (im.code.getD i default) = if ok = true then (im.code.getD i default).inverse.retarget ((n : Int) - 1 - invT im.code (im.code.getD i default) t) else (im.code.getD i default).inverse := by
        unfold invI re
        have e1 : tgt (im.code.getD i default).inverse = ok := by rw [inv_tgt]; unfold tgt; rw [ht]
        rw [e1, inv_target, ht, HN.out]
      generalize hx : im.code.getD i default = x at *
      have HX := Lib.hid hx; have HSucc := Lib.hid hsucc; have HTgt := Lib.hid htgt; have HI := Lib.hid hI
      have htv : targetP (inv x.op) x.a x.b = (t, ok) := by have := inv_target x; rw [ht] at this; exact this
      have HTV := Lib.hid htv
      have HG := Lib.hid hg'; have HCS := Lib.hid hcs; have HTK := Lib.hid htk
      have H_1 := Lib.hid K1; have H_2 := Lib.hid K2
      obtain ⟨z_1, T_1, F_1⟩ := K1.open_
      obtain ⟨z_2, T_2, F_2⟩ := K2.open_
      have i1 : (0 : Int) ≤ (i : Int) := by omega
      have i2 : (i : Int) < (n : Int) := by omega
      have i3 : ¬ n ≤ i := by omega
      clear hx hsucc htgt hI ht htv hg' hcs htk K1 K2 hjn hjn'
      go_wp2_with fail
      refine (c_Inverse _ _ _ _ _ hx0 hx1 _).mono ?_
      rintro e w3 ⟨rfl, hb3⟩
      have hB3 : Below w.heap.size w w3 := Below.trans (by repeat' (first | (with_reducible assumption) | (with_reducible exact Below.refl _ _) | (with_reducible refine Below.alloc ?_ ?_ _) | (with_reducible refine Bk.drewN_ ?_ _) | (with_reducible refine Below.drew ?_) | (with_reducible refine Below.setCell ?_ ?_ _) | go_size)) (hb3.mono (by go_size))
      have G3 := HG.out.next hb3
      have K_1 : Blk w3 (w.heap.size) 30 #[.slice (some ⟨b, off, none⟩) n cap, .int .i64 im.mem, .int .i64 im.stacks] := Blk.next (by repeat' (first | with_reducible exact H_1.out | with_reducible exact K0_1 | (refine Blk.new' ?_ _ _; simp; done) | with_reducible refine Blk.alloc ?_ _ | with_reducible refine Blk.drewN ?_ _ | with_reducible refine Blk.drew ?_)) hb3; have K_2 : Blk w3 (w.heap.size + 1) 30 #[.slice none 0 0, .int .i64 0, .int .i64 0] := Blk.next (by repeat' (first | with_reducible exact H_2.out | with_reducible exact K0_2 | (refine Blk.new' ?_ _ _; simp; done) | with_reducible refine Blk.alloc ?_ _ | with_reducible refine Blk.drewN ?_ _ | with_reducible refine Blk.drew ?_)) hb3; (try clear H_1); (try clear T_1); (try clear z_1); (try clear F_1); (try clear H_2); (try clear T_2); (try clear z_2); (try clear F_2); obtain ⟨z_1, T_1, F_1⟩ := K_1.open_; have H_1 := Lib.hid K_1; clear K_1; obtain ⟨z_2, T_2, F_2⟩ := K_2.open_; have H_2 := Lib.hid K_2; clear K_2
      have HG3 := Lib.hid G3
      clear G3 hb3 x0 x1 x2 x3 x4 HG
      go_wp2_with fail
      refine (c_Target' _ _ _ _ _ HTV.out _).mono ?_
      rintro e w4 ⟨rfl, hb4⟩
      have hB4 : Below w.heap.size w w4 := Below.trans (by repeat' (first | (with_reducible assumption) | (with_reducible exact Below.refl _ _) | (with_reducible refine Below.alloc ?_ ?_ _) | (with_reducible refine Bk.drewN_ ?_ _) | (with_reducible refine Below.drew ?_) | (with_reducible refine Below.setCell ?_ ?_ _) | go_size)) (hb4.mono (by go_size))
      have HG3l := HG3.out.lt
      have G4 := (HG3.out.alloc _).next hb4
      have K_1 : Blk w4 (w.heap.size) 30 #[.slice (some ⟨b, off, none⟩) n cap, .int .i64 im.mem, .int .i64 im.stacks] := Blk.next (by repeat' (first | with_reducible exact H_1.out | with_reducible exact K0_1 | (refine Blk.new' ?_ _ _; simp; done) | with_reducible refine Blk.alloc ?_ _ | with_reducible refine Blk.drewN ?_ _ | with_reducible refine Blk.drew ?_)) hb4; have K_2 : Blk w4 (w.heap.size + 1) 30 #[.slice none 0 0, .int .i64 0, .int .i64 0] := Blk.next (by repeat' (first | with_reducible exact H_2.out | with_reducible exact K0_2 | (refine Blk.new' ?_ _ _; simp; done) | with_reducible refine Blk.alloc ?_ _ | with_reducible refine Blk.drewN ?_ _ | with_reducible refine Blk.drew ?_)) hb4; have K_x : Blk w4 (w3.heap.size) 23 #[.int .u8 (inv x.op), .int .i64 x.a, .int .i64 x.b, .int .i64 x.c, .int .i64 x.d] := Blk.next (by repeat' (first | with_reducible exact H_x.out | with_reducible exact K0_x | (refine Blk.new' ?_ _ _; simp; done) | with_reducible refine Blk.alloc ?_ _ | with_reducible refine Blk.drewN ?_ _ | with_reducible refine Blk.drew ?_)) hb4; (try clear H_1); (try clear T_1); (try clear z_1); (try clear F_1); (try clear H_2); (try clear T_2); (try clear z_2); (try clear F_2); (try clear H_x); (try clear T_x); (try clear z_x); (try clear F_x); obtain ⟨z_1, T_1, F_1⟩ := K_1.open_; have H_1 := Lib.hid K_1; clear K_1; obtain ⟨z_2, T_2, F_2⟩ := K_2.open_; have H_2 := Lib.hid K_2; clear K_2; obtain ⟨z_x, T_x, F_x⟩ := K_x.open_; have H_x := Lib.hid K_x; clear K_x
      have gz := G4.lt
      have FG := G4.frozen
      have hjb : jn * 5 + 5 ≤ cs.size := by have := HCS.out; have := HJN'.out; omega
      obtain ⟨c0, cc0⟩ : ∃ u, w4.cell? ⟨g, jn * 5, none⟩ = some u := ⟨_, (G4.cell _).trans (Array.getElem?_eq_getElem (by omega))⟩
      obtain ⟨c1, cc1⟩ : ∃ u, w4.cell? ⟨g, jn * 5 + 1, none⟩ = some u := ⟨_, (G4.cell _).trans (Array.getElem?_eq_getElem (by omega))⟩
      obtain ⟨c2, cc2⟩ : ∃ u, w4.cell? ⟨g, jn * 5 + 2, none⟩ = some u := ⟨_, (G4.cell _).trans (Array.getElem?_eq_getElem (by omega))⟩
      obtain ⟨c3, cc3⟩ : ∃ u, w4.cell? ⟨g, jn * 5 + 3, none⟩ = some u := ⟨_, (G4.cell _).trans (Array.getElem?_eq_getElem (by omega))⟩
      obtain ⟨c4, cc4⟩ : ∃ u, w4.cell? ⟨g, jn * 5 + 4, none⟩ = some u := ⟨_, (G4.cell _).trans (Array.getElem?_eq_getElem (by omega))⟩
      have j1 : (0 : Int) ≤ (jn : Int) := by omega
      have j2 : (jn : Int) < (n : Int) := by have := HJN'.out; omega
      have HG4 := Lib.hid G4
      clear G4 hb4 HG3
      cases ok with
      | false =>
        go_wp2_with fail
        refine ⟨⟨i + 1, by omega, by go_num, by rw [show (n : Int) - 1 - ((i + 1 : Nat) : Int) = (jn : Int) - 1 from by have := HJN.out; omega], by repeat' (first | (with_reducible assumption) | (with_reducible exact Below.refl _ _) | (with_reducible refine Below.alloc ?_ ?_ _) | (with_reducible refine Bk.drewN_ ?_ _) | (with_reducible refine Below.drew ?_) | (with_reducible refine Below.setCell ?_ ?_ _) | go_size), ⟨_, by repeat' (first | with_reducible exact HG4.out | with_reducible apply Blk.set_ | with_reducible apply Blk.alloc), by simp; exact HCS.out, ?_⟩, by repeat' (first | with_reducible exact H_1.out | (with_reducible refine Blk.far ?_ ?_ _) | (simp; omega)), by repeat' (first | with_reducible exact H_2.out | (with_reducible refine Blk.far ?_ ?_ _) | (simp; omega))⟩, by simp [intOf]; omega⟩
        rw [HSucc.out, ← HN.out, ← HJN'.out, HI.out]
        exact set5 (x := x.inverse) HTK.out (by rw [invAt_length, HN.out]) (by omega) (by rw [HCS.out]; omega)
      | true =>
        obtain ⟨tn, e, rfl, htn, he, hit, hcall, hnc⟩ := HTgt.out rfl
        have HIT := Lib.hid hit
        have k1 : (0 : Int) ≤ (tn : Int) := by omega
        have k2 : (tn : Int) < (n : Int) := by omega
        have k3 : (0 : Int) ≤ (e : Int) := by omega
        have k4 : (e : Int) < (n : Int) := by omega
        have k5 : ¬ n ≤ tn := by omega
        have hcase : ((inv x.op == 30) = true ∧ (x.op = 30 ∨ x.op = 31)) ∨ ((inv x.op == 30) = false ∧ (inv x.op == 31) = true ∧ (x.op = 30 ∨ x.op = 31)) ∨ ((inv x.op == 30) = false ∧ (inv x.op == 31) = false ∧ ¬ (x.op = 30 ∨ x.op = 31)) := by
          have a := inv_30 x.op
          have b := inv_31 x.op
          simp only [beq_iff_eq, beq_eq_false_iff_ne, ne_eq]
          omega
        rcases hcase with ⟨o1, hop⟩ | ⟨o1, o2, hop⟩ | ⟨o1, o2, hop⟩
        · have hae := hcall hop
          obtain ⟨_, hcell, _, _, _⟩ := (HC.out.below hB4 (fun _ h => h)).insAt (k := tn) (HN.out ▸ htn)
          rw [hae] at hcell
          clear hit hcall hnc hop hae
          go_wp2_with fail
          (refine (c_Retarget _ _ _ _ _ _ _).mono ?_; rintro e' w5 ⟨rfl, hb5⟩; have hB5 : Below w.heap.size w w5 := Below.trans (by repeat' (first | (with_reducible assumption) | (with_reducible exact Below.refl _ _) | (with_reducible refine Below.alloc ?_ ?_ _) | (with_reducible refine Bk.drewN_ ?_ _) | (with_reducible refine Below.drew ?_) | (with_reducible refine Below.setCell ?_ ?_ _) | go_size)) (hb5.mono (by go_size)); have G5 := HG4.out.next hb5; have K_1 : Blk w5 (w.heap.size) 30 #[.slice (some ⟨b, off, none⟩) n cap, .int .i64 im.mem, .int .i64 im.stacks] := Blk.next (by repeat' (first | with_reducible exact H_1.out | with_reducible exact K0_1 | (refine Blk.new' ?_ _ _; simp; done) | with_reducible refine Blk.alloc ?_ _ | with_reducible refine Blk.drewN ?_ _ | with_reducible refine Blk.drew ?_)) hb5; have K_2 : Blk w5 (w.heap.size + 1) 30 #[.slice none 0 0, .int .i64 0, .int .i64 0] := Blk.next (by repeat' (first | with_reducible exact H_2.out | with_reducible exact K0_2 | (refine Blk.new' ?_ _ _; simp; done) | with_reducible refine Blk.alloc ?_ _ | with_reducible refine Blk.drewN ?_ _ | with_reducible refine Blk.drew ?_)) hb5; have K_x : Blk w5 (w3.heap.size) 23 #[.int .u8 (inv x.op), .int .i64 x.a, .int .i64 x.b, .int .i64 x.c, .int .i64 x.d] := Blk.next (by repeat' (first | with_reducible exact H_x.out | with_reducible exact K0_x | (refine Blk.new' ?_ _ _; simp; done) | with_reducible refine Blk.alloc ?_ _ | with_reducible refine Blk.drewN ?_ _ | with_reducible refine Blk.drew ?_)) hb5; (try clear H_1); (try clear T_1); (try clear z_1); (try clear F_1); (try clear H_2); (try clear T_2); (try clear z_2); (try clear F_2); (try clear H_x); (try clear T_x); (try clear z_x); (try clear F_x); obtain ⟨z_1, T_1, F_1⟩ := K_1.open_; have H_1 := Lib.hid K_1; clear K_1; obtain ⟨z_2, T_2, F_2⟩ := K_2.open_; have H_2 := Lib.hid K_2; clear K_2; obtain ⟨z_x, T_x, F_x⟩ := K_x.open_; have H_x := Lib.hid K_x; clear K_x; have gz5 := G5.lt; have FG5 := G5.frozen; obtain ⟨d0, dd0⟩ : ∃ u, w5.cell? ⟨g, jn * 5, none⟩ = some u := ⟨_, (G5.cell _).trans (Array.getElem?_eq_getElem (by omega))⟩; obtain ⟨d1, dd1⟩ : ∃ u, w5.cell? ⟨g, jn * 5 + 1, none⟩ = some u := ⟨_, (G5.cell _).trans (Array.getElem?_eq_getElem (by omega))⟩; obtain ⟨d2, dd2⟩ : ∃ u, w5.cell? ⟨g, jn * 5 + 2, none⟩ = some u := ⟨_, (G5.cell _).trans (Array.getElem?_eq_getElem (by omega))⟩; obtain ⟨d3, dd3⟩ : ∃ u, w5.cell? ⟨g, jn * 5 + 3, none⟩ = some u := ⟨_, (G5.cell _).trans (Array.getElem?_eq_getElem (by omega))⟩; obtain ⟨d4, dd4⟩ : ∃ u, w5.cell? ⟨g, jn * 5 + 4, none⟩ = some u := ⟨_, (G5.cell _).trans (Array.getElem?_eq_getElem (by omega))⟩; have HG5 := Lib.hid G5; have gne : g < w3.heap.size := HG3l; clear G5 hb5; go_wp2_with fail; refine ⟨⟨i + 1, by omega, by go_num, by rw [show (n : Int) - 1 - ((i + 1 : Nat) : Int) = (jn : Int) - 1 from by have := HJN.out; omega], by repeat' (first | (with_reducible assumption) | (with_reducible exact Below.refl _ _) | (with_reducible refine Below.alloc ?_ ?_ _) | (with_reducible refine Bk.drewN_ ?_ _) | (with_reducible refine Below.drew ?_) | (with_reducible refine Below.setCell ?_ ?_ _) | go_size), ⟨_, by repeat' (first | with_reducible exact HG5.out | with_reducible apply Blk.set_ | with_reducible apply Blk.far | (simp; omega)), by simp; exact HCS.out, ?_⟩, by repeat' (first | with_reducible exact H_1.out | (with_reducible refine Blk.far ?_ ?_ _) | (simp; omega)), by repeat' (first | with_reducible exact H_2.out | (with_reducible refine Blk.far ?_ ?_ _) | (simp; omega))⟩, by simp [intOf]; omega⟩; rw [HSucc.out, ← HN.out, ← HJN'.out, (by have h := HI.out; simp only [if_true, HIT.out] at h; exact h : invI im.code x = x.inverse.retarget ((n : Int) - 1 - (e : Int)))]; exact set5 (x := x.inverse.retarget ((n : Int) - 1 - (e : Int))) HTK.out (by rw [invAt_length, HN.out]) (by omega) (by rw [HCS.out]; omega))
        · have hae := hcall hop
          obtain ⟨_, hcell, _, _, _⟩ := (HC.out.below hB4 (fun _ h => h)).insAt (k := tn) (HN.out ▸ htn)
          rw [hae] at hcell
          clear hit hcall hnc hop hae
          go_wp2_with fail
          (refine (c_Retarget _ _ _ _ _ _ _).mono ?_; rintro e' w5 ⟨rfl, hb5⟩; have hB5 : Below w.heap.size w w5 := Below.trans (by repeat' (first | (with_reducible assumption) | (with_reducible exact Below.refl _ _) | (with_reducible refine Below.alloc ?_ ?_ _) | (with_reducible refine Bk.drewN_ ?_ _) | (with_reducible refine Below.drew ?_) | (with_reducible refine Below.setCell ?_ ?_ _) | go_size)) (hb5.mono (by go_size)); have G5 := HG4.out.next hb5; have K_1 : Blk w5 (w.heap.size) 30 #[.slice (some ⟨b, off, none⟩) n cap, .int .i64 im.mem, .int .i64 im.stacks] := Blk.next (by repeat' (first | with_reducible exact H_1.out | with_reducible exact K0_1 | (refine Blk.new' ?_ _ _; simp; done) | with_reducible refine Blk.alloc ?_ _ | with_reducible refine Blk.drewN ?_ _ | with_reducible refine Blk.drew ?_)) hb5; have K_2 : Blk w5 (w.heap.size + 1) 30 #[.slice none 0 0, .int .i64 0, .int .i64 0] := Blk.next (by repeat' (first | with_reducible exact H_2.out | with_reducible exact K0_2 | (refine Blk.new' ?_ _ _; simp; done) | with_reducible refine Blk.alloc ?_ _ | with_reducible refine Blk.drewN ?_ _ | with_reducible refine Blk.drew ?_)) hb5; have K_x : Blk w5 (w3.heap.size) 23 #[.int .u8 (inv x.op), .int .i64 x.a, .int .i64 x.b, .int .i64 x.c, .int .i64 x.d] := Blk.next (by repeat' (first | with_reducible exact H_x.out | with_reducible exact K0_x | (refine Blk.new' ?_ _ _; simp; done) | with_reducible refine Blk.alloc ?_ _ | with_reducible refine Blk.drewN ?_ _ | with_reducible refine Blk.drew ?_)) hb5; (try clear H_1); (try clear T_1); (try clear z_1); (try clear F_1); (try clear H_2); (try clear T_2); (try clear z_2); (try clear F_2); (try clear H_x); (try clear T_x); (try clear z_x); (try clear F_x); obtain ⟨z_1, T_1, F_1⟩ := K_1.open_; have H_1 := Lib.hid K_1; clear K_1; obtain ⟨z_2, T_2, F_2⟩ := K_2.open_; have H_2 := Lib.hid K_2; clear K_2; obtain ⟨z_x, T_x, F_x⟩ := K_x.open_; have H_x := Lib.hid K_x; clear K_x; have gz5 := G5.lt; have FG5 := G5.frozen; obtain ⟨d0, dd0⟩ : ∃ u, w5.cell? ⟨g, jn * 5, none⟩ = some u := ⟨_, (G5.cell _).trans (Array.getElem?_eq_getElem (by omega))⟩; obtain ⟨d1, dd1⟩ : ∃ u, w5.cell? ⟨g, jn * 5 + 1, none⟩ = some u := ⟨_, (G5.cell _).trans (Array.getElem?_eq_getElem (by omega))⟩; obtain ⟨d2, dd2⟩ : ∃ u, w5.cell? ⟨g, jn * 5 + 2, none⟩ = some u := ⟨_, (G5.cell _).trans (Array.getElem?_eq_getElem (by omega))⟩; obtain ⟨d3, dd3⟩ : ∃ u, w5.cell? ⟨g, jn * 5 + 3, none⟩ = some u := ⟨_, (G5.cell _).trans (Array.getElem?_eq_getElem (by omega))⟩; obtain ⟨d4, dd4⟩ : ∃ u, w5.cell? ⟨g, jn * 5 + 4, none⟩ = some u := ⟨_, (G5.cell _).trans (Array.getElem?_eq_getElem (by omega))⟩; have HG5 := Lib.hid G5; have gne : g < w3.heap.size := HG3l; clear G5 hb5; go_wp2_with fail; refine ⟨⟨i + 1, by omega, by go_num, by rw [show (n : Int) - 1 - ((i + 1 : Nat) : Int) = (jn : Int) - 1 from by have := HJN.out; omega], by repeat' (first | (with_reducible assumption) | (with_reducible exact Below.refl _ _) | (with_reducible refine Below.alloc ?_ ?_ _) | (with_reducible refine Bk.drewN_ ?_ _) | (with_reducible refine Below.drew ?_) | (with_reducible refine Below.setCell ?_ ?_ _) | go_size), ⟨_, by repeat' (first | with_reducible exact HG5.out | with_reducible apply Blk.set_ | with_reducible apply Blk.far | (simp; omega)), by simp; exact HCS.out, ?_⟩, by repeat' (first | with_reducible exact H_1.out | (with_reducible refine Blk.far ?_ ?_ _) | (simp; omega)), by repeat' (first | with_reducible exact H_2.out | (with_reducible refine Blk.far ?_ ?_ _) | (simp; omega))⟩, by simp [intOf]; omega⟩; rw [HSucc.out, ← HN.out, ← HJN'.out, (by have h := HI.out; simp only [if_true, HIT.out] at h; exact h : invI im.code x = x.inverse.retarget ((n : Int) - 1 - (e : Int)))]; exact set5 (x := x.inverse.retarget ((n : Int) - 1 - (e : Int))) HTK.out (by rw [invAt_length, HN.out]) (by omega) (by rw [HCS.out]; omega))
        · obtain rfl := hnc hop
          clear hit hcall hop
          go_wp2_with fail
          (refine (c_Retarget _ _ _ _ _ _ _).mono ?_; rintro e' w5 ⟨rfl, hb5⟩; have hB5 : Below w.heap.size w w5 := Below.trans (by repeat' (first | (with_reducible assumption) | (with_reducible exact Below.refl _ _) | (with_reducible refine Below.alloc ?_ ?_ _) | (with_reducible refine Bk.drewN_ ?_ _) | (with_reducible refine Below.drew ?_) | (with_reducible refine Below.setCell ?_ ?_ _) | go_size)) (hb5.mono (by go_size)); have G5 := HG4.out.next hb5; have K_1 : Blk w5 (w.heap.size) 30 #[.slice (some ⟨b, off, none⟩) n cap, .int .i64 im.mem, .int .i64 im.stacks] := Blk.next (by repeat' (first | with_reducible exact H_1.out | with_reducible exact K0_1 | (refine Blk.new' ?_ _ _; simp; done) | with_reducible refine Blk.alloc ?_ _ | with_reducible refine Blk.drewN ?_ _ | with_reducible refine Blk.drew ?_)) hb5; have K_2 : Blk w5 (w.heap.size + 1) 30 #[.slice none 0 0, .int .i64 0, .int .i64 0] := Blk.next (by repeat' (first | with_reducible exact H_2.out | with_reducible exact K0_2 | (refine Blk.new' ?_ _ _; simp; done) | with_reducible refine Blk.alloc ?_ _ | with_reducible refine Blk.drewN ?_ _ | with_reducible refine Blk.drew ?_)) hb5; have K_x : Blk w5 (w3.heap.size) 23 #[.int .u8 (inv x.op), .int .i64 x.a, .int .i64 x.b, .int .i64 x.c, .int .i64 x.d] := Blk.next (by repeat' (first | with_reducible exact H_x.out | with_reducible exact K0_x | (refine Blk.new' ?_ _ _; simp; done) | with_reducible refine Blk.alloc ?_ _ | with_reducible refine Blk.drewN ?_ _ | with_reducible refine Blk.drew ?_)) hb5; (try clear H_1); (try clear T_1); (try clear z_1); (try clear F_1); (try clear H_2); (try clear T_2); (try clear z_2); (try clear F_2); (try clear H_x); (try clear T_x); (try clear z_x); (try clear F_x); obtain ⟨z_1, T_1, F_1⟩ := K_1.open_; have H_1 := Lib.hid K_1; clear K_1; obtain ⟨z_2, T_2, F_2⟩ := K_2.open_; have H_2 := Lib.hid K_2; clear K_2; obtain ⟨z_x, T_x, F_x⟩ := K_x.open_; have H_x := Lib.hid K_x; clear K_x; have gz5 := G5.lt; have FG5 := G5.frozen; obtain ⟨d0, dd0⟩ : ∃ u, w5.cell? ⟨g, jn * 5, none⟩ = some u := ⟨_, (G5.cell _).trans (Array.getElem?_eq_getElem (by omega))⟩; obtain ⟨d1, dd1⟩ : ∃ u, w5.cell? ⟨g, jn * 5 + 1, none⟩ = some u := ⟨_, (G5.cell _).trans (Array.getElem?_eq_getElem (by omega))⟩; obtain ⟨d2, dd2⟩ : ∃ u, w5.cell? ⟨g, jn * 5 + 2, none⟩ = some u := ⟨_, (G5.cell _).trans (Array.getElem?_eq_getElem (by omega))⟩; obtain ⟨d3, dd3⟩ : ∃ u, w5.cell? ⟨g, jn * 5 + 3, none⟩ = some u := ⟨_, (G5.cell _).trans (Array.getElem?_eq_getElem (by omega))⟩; obtain ⟨d4, dd4⟩ : ∃ u, w5.cell? ⟨g, jn * 5 + 4, none⟩ = some u := ⟨_, (G5.cell _).trans (Array.getElem?_eq_getElem (by omega))⟩; have HG5 := Lib.hid G5; have gne : g < w3.heap.size := HG3l; clear G5 hb5; go_wp2_with fail; refine ⟨⟨i + 1, by omega, by go_num, by rw [show (n : Int) - 1 - ((i + 1 : Nat) : Int) = (jn : Int) - 1 from by have := HJN.out; omega], by repeat' (first | (with_reducible assumption) | (with_reducible exact Below.refl _ _) | (with_reducible refine Below.alloc ?_ ?_ _) | (with_reducible refine Bk.drewN_ ?_ _) | (with_reducible refine Below.drew ?_) | (with_reducible refine Below.setCell ?_ ?_ _) | go_size), ⟨_, by repeat' (first | with_reducible exact HG5.out | with_reducible apply Blk.set_ | with_reducible apply Blk.far | (simp; omega)), by simp; exact HCS.out, ?_⟩, by repeat' (first | with_reducible exact H_1.out | (with_reducible refine Blk.far ?_ ?_ _) | (simp; omega)), by repeat' (first | with_reducible exact H_2.out | (with_reducible refine Blk.far ?_ ?_ _) | (simp; omega))⟩, by simp [intOf]; omega⟩; rw [HSucc.out, ← HN.out, ← HJN'.out, (by have h := HI.out; simp only [if_true, HIT.out] at h; exact h : invI im.code x = x.inverse.retarget ((n : Int) - 1 - (e : Int)))]; exact set5 (x := x.inverse.retarget ((n : Int) - 1 - (e : Int))) HTK.out (by rw [invAt_length, HN.out]) (by omega) (by rw [HCS.out]; omega))
    · obtain rfl : i = n := by omega
      obtain ⟨z_1, T_1, F_1⟩ := K1.open_
      obtain ⟨z_2, T_2, F_2⟩ := K2.open_
      have H_1 := Lib.hid K1; have H_2 := Lib.hid K2
      have HG := Lib.hid hg'; have HCS := Lib.hid hcs; have HTK := Lib.hid htk
      clear K1 K2 hg' hcs htk
      have hrd : Rd wr (· = g) 5 (some ⟨g, 0, none⟩) i (codeCells (invC im.code)) := by
        have e : invAt im.code i = invC im.code := by rw [HN.out]; exact invAt_all _
        have htk := HTK.out
        rw [e] at htk
        refine ⟨by rw [codeCells_length, invC_length, HN.out], fun _ => ⟨_, _, rfl, rfl, fun j u hu => ?_⟩⟩
        rw [Nat.zero_add, HG.out.cell j]
        rw [← htk, List.getElem?_take] at hu
        split at hu
        · simpa using hu
        · cases hu
      have HRD := Lib.hid hrd; clear hrd
      have e20 : wr.cell? ⟨w.heap.size + 1, 0, none⟩ = some (.slice none 0 0) := T_2 0
      have e21 : wr.cell? ⟨w.heap.size + 1, 1, none⟩ = some (.int .i64 0) := T_2 1
      have e22 : wr.cell? ⟨w.heap.size + 1, 2, none⟩ = some (.int .i64 0) := T_2 2
      have hgl := HG.out.lt
      go_wp2_with fail
      refine bodyPost_ret (v := .tuple #[.agg #[.slice (some ⟨g, 0, none⟩) i cap2, .int .i64 im.mem, .int .i64 im.stacks], .int .i64 0]) (by simp [results, Tryd.results25, go_sem, e20, e21, e22]) rfl ⟨_, _, _, rfl, ?_, by repeat' (first | (with_reducible assumption) | (with_reducible exact Below.refl _ _) | (with_reducible refine Below.alloc ?_ ?_ _) | (with_reducible refine Bk.drewN_ ?_ _) | (with_reducible refine Below.drew ?_) | (with_reducible refine Below.setCell ?_ ?_ _) | go_size)⟩
      refine (HRD.out.keep fun b' o hd => ?_).mono fun k hk => by subst hk; simpa using hgl
      subst hd
      rw [cell_far _ _ _ _ (by simp; omega), cell_far _ _ _ _ (by simp; omega), cell_far _ _ _ _ (by simp; omega)]
end Go.Proofs.YtfobnkgfbdmakaaDoor
