/- scope: paths, and the report of a fault. -/
import Derived.Test.YtbijhlgdilkopaaGreatDoorZNmD
import Derived.Test.YtbijhlgdilkopaaGreatDoorCpX
import Derived.Test.YtbijhlgdilkopaaGreatDoorEaX
import Derived.Test.YtbijhlgdilkopaaGreatDoorErX
import Derived.Test.YtbijhlgdilkopaaGreatDoorEjX
set_option linter.unusedVariables false
set_option linter.unusedSimpArgs false
set_option maxRecDepth 100000
set_option maxHeartbeats 4000000
namespace Bk
open Go Go.RowKit
/-- 'append' to a slice without room: a new row. -/
theorem wpList_append_new {P : Program} {w : World} {ops : Array Oper} {rest : List Oper} {o : Oper} {a : Act} {Q : Exit → Act → World → Prop} (hgd : o.guard = none) (s x : Operand) (t : TypeId) (ho : o.op = .call { callee := .builtin .append, args := #[s, x], argTypes := #[t, t] })
    (e : TypeId) (i : TypeInfo) (z : Value) (size bytes : Nat) (ht : P.underlying t = some (.slice e)) (hi : P.info? e = some i) (hz : i.zero = some z) (hsize : i.size = size) (hby : i.bytes = bytes) (hzs : z.cells.size = size) (hsz : 0 < size)
    {D : Nat → Prop} {A : Option Addr} {n : Nat} {xs : List Value} (hs : a.eval s = .slice A n n) (hS : Sl w D size (.slice A n n) n xs)
    (ad : Addr) (m c : Nat) (news : List Value) (hx : a.eval x = .slice (some ad) m c) (hm : 0 < m) (hl : news.length = m * size) (hnews : ∀ j u, news[j]? = some u → w.cell? (ad.add j) = some u)
    (h63 : n + m ≤ maxLen) (hbytes : (n + m) * bytes ≤ 140737488355328)
    (h : ∀ v' w', w'.ownsRow w.heap.size e size v' (n + m) (xs ++ news) → Below w.heap.size w w' → wpList P ops Q rest (a.put o.dst v') w') : wpList P ops Q (o :: rest) a w := by
  refine wpList_plain hgd fun K hK => ?_
  subst hsize
  subst hby
  have hsmall : n + m ≤ 9223372036854775807 := by simp only [maxLen] at h63; omega
  obtain ⟨A', cap', hv, hcap, hA, hR⟩ := hS
  injection hv with hv1 _ hv3
  subst hv1; subst hv3
  have hxl : xs.length = n * i.size := hR.1
  have hlen : (xs ++ news).length = (n + m) * i.size := by rw [List.length_append, hxl, hl, Nat.add_mul]
  have grown : ∀ (old : Nat), old < n + m →
      (w.drew.alloc (.cells (xs.toArray ++ news.toArray ++ Builtin.zeroCells z.cells (grownCap w (n + m) old e - (n + m))) e)).ownsRow w.heap.size e i.size
        (.slice (some ⟨w.heap.size, 0, none⟩) (n + m) (grownCap w (n + m) old e)) (n + m) (xs ++ news) ∧
      Below w.heap.size w (w.drew.alloc (.cells (xs.toArray ++ news.toArray ++ Builtin.zeroCells z.cells (grownCap w (n + m) old e - (n + m))) e)) := by
    intro old hlt
    have hge := grownCap_ge w (n + m) old e
    have hcm : grownCap w (n + m) old e ≤ maxLen := grownCap_le_maxLen w (n + m) old e h63
    refine ⟨⟨hlen, .inr ⟨w.heap.size, _, _, rfl, Nat.le_refl _, heap_alloc_new w.drew _, hge, hcm, ?_, ?_⟩⟩, (Below.refl _ _).drew.alloc (Nat.le_refl _) _⟩
    · simp only [Array.size_append, List.size_toArray, size_zeroCells, hzs, hxl, hl, ← Nat.add_mul]
      congr 1
      omega
    · simp only [Array.toList_append, List.append_assoc]
      rw [← List.append_assoc, ← hlen]
      exact List.take_left
  cases A with
  | none =>
    have hn0 : n = 0 := hA rfl
    subst hn0
    have hx0 : xs = [] := List.eq_nil_of_length_eq_zero (by simpa using hxl)
    subst hx0
    have hr := run_append_nil (P := P) w t o.type e i z ht hi hz ad m c news hl hnews hm (by omega) (by have hb := hbytes; simp only [Nat.zero_add] at hb; omega)
    have hgr := grown 0 (by omega)
    simp only [Nat.zero_add, List.nil_append, Array.empty_append] at hgr h
    unfold Oper.wp execOp
    simp only [ho, resolve, invoke, builtin, Sem.run_bind, Sem.run_pure, Result.andThen_ok, List.map_toArray, List.map_cons, List.map_nil, hs, hx, hr]
    exact hK _ _ (h _ _ hgr.1 hgr.2)
  | some b =>
    have holds : ∀ j u, xs[j]? = some u → w.cell? (b.add j) = some u := fun j u hu => by
      have hj := (List.getElem?_eq_some_iff.1 hu).1
      have h0 : 0 < n := by rcases Nat.eq_zero_or_pos n with h | h; (subst h; omega); exact h
      obtain ⟨g, off, eb, _, hc⟩ := hR.2 h0
      injection eb with eb
      subst eb
      rw [Addr.add_lit]
      exact hc j u hu
    have hr := run_append_grow (P := P) w t o.type e i z ht hi hz b n n xs hxl holds ad m c news hl hnews (by omega) (by omega) (growslice_fits (by omega) hbytes)
    have hgr := grown n (by omega)
    unfold Oper.wp execOp
    simp only [ho, resolve, invoke, builtin, Sem.run_bind, Sem.run_pure, Result.andThen_ok, List.map_toArray, List.map_cons, List.map_nil, hs, hx, hr]
    exact hK _ _ (h _ _ hgr.1 hgr.2)
end Bk
namespace Go.Proofs.YtbijhlgdilkopaaGreatDoor
open Go.RowKit Bk
theorem info_int8N : (Tryz.prog.info? 3).map (fun i => (i.zero, i.size, i.bytes)) = some (some (.int .i64 0), 1, 8) := by kernel_rfl
theorem e_Clip (w : World) {D : Nat → Prop} {v : Value} {n : Nat} {xs : List Value} (h : Sl w D 1 v n xs) (hn : n ≤ 1000000) :
    Calls Tryz.prog 65 #[v] w fun en w' => ∃ A, en = .returned (.slice A n n) ∧ Sl w D 1 (.slice A n n) n xs ∧ Below w.heap.size w w' := by
  obtain ⟨A, cap, rfl, hcap, hA, hR⟩ := h
  cases A with
  | none =>
    obtain rfl := hA rfl
    obtain rfl : n = 0 := by omega
    have HR := Lib.hid hR
    clear hR hA hcap
    go_enter Tryz.func65, Tryz.ntmps65
    go_wp2_with fail
    go_ret
    exact ⟨none, rfl, ⟨none, 0, rfl, Nat.le_refl _, fun _ => rfl, HR.out⟩, by go_grown⟩
  | some b =>
    have HR := Lib.hid hR
    have q0 : (0 : Int) ≤ (n : Int) := by omega
    have q1 : (n : Int) ≤ (cap : Int) := by omega
    clear hR hA
    obtain ⟨g, o, sp⟩ := b
    go_enter Tryz.func65, Tryz.ntmps65
    go_wp2_with fail
    go_ret
    exact ⟨_, rfl, ⟨_, n, rfl, Nat.le_refl _, (fun e => by cases e), by simpa using HR.out⟩, by go_grown⟩
theorem e_child (w : World) {D : Nat → Prop} {v : Value} {n : Nat} {l : List Int} (h : Sl w D 1 v n (intCells l)) (hD : ∀ k, D k → k < w.heap.size) (hn : n ≤ 1000000) (i : Int) :
    Calls Tryz.prog 39 #[v, .int .i64 i] w fun en w' => ∃ v', en = .returned v' ∧ w'.ownsRow w.heap.size 3 1 v' (n + 1) (intCells (l ++ [i])) ∧ Below w.heap.size w w' := by
  have HCL := Lib.hid (e_Clip w h hn)
  obtain ⟨i1, li, lz, ls, lb⟩ := info_parts info_int8N
  have HI := Lib.hid li; have HZ := Lib.hid lz; have HSZ := Lib.hid ls; have HBY := Lib.hid lb
  have HD := Lib.hid hD
  clear h li lz ls lb hD
  go_enter Tryz.func39, Tryz.ntmps39
  go_wp2_with fail
  refine HCL.out.mono ?_
  rintro en w1 ⟨A, rfl, hs, hb1⟩
  have HS := Lib.hid hs; have HB1 := Lib.hid hb1
  clear hs hb1
  go_wp2_with (at_builtin; refine wpList_append_new rfl (.tmp 6) (.tmp 8) 46 rfl 3 i1 _ 1 8 Tryz.underlying46 HI.out HZ.out HSZ.out HBY.out rfl (by decide) (D := fun k => k < w.heap.size) rfl ((HS.out.keep (D' := fun k => k < w.heap.size) (fun b o hd => (Below.next HB1.out ((Below.refl _ _).alloc (Nat.le_refl _) _)).cell (p := ⟨b, o, none⟩) (HD.out _ hd)) (fun k hk => HD.out k hk))) ⟨w1.heap.size, 0, none⟩ 1 1 [.int .i64 i] rfl (by decide) rfl (cell_one_new _ _ _) (by unfold maxLen; omega) (by omega) ?_)
  intro v2 w2 hown hb2
  have HOW := Lib.hid hown
  have hz1 := HB1.out.size
  have HB2 : Hid (Below w.heap.size w w2) := Lib.hid (HB1.out.trans ((((Below.refl w1.heap.size w1).alloc (Nat.le_refl _) _).trans (hb2.mono (Nat.le_succ _))).mono hz1))
  clear hown hb2
  go_wp2_with fail
  go_ret
  refine ⟨v2, rfl, ?_, HB2.out⟩
  have h := own_lowE HOW.out (base' := w.heap.size) (by omega)
  rw [show intCells (l ++ [i]) = intCells l ++ [.int .i64 i] by simp [intCells]]
  exact h
end Go.Proofs.YtbijhlgdilkopaaGreatDoor
