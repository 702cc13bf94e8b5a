/- Lists of their own, paths, the report of a fault. Printed by gen_whk.py. -/
import Derived.Test.YtakfdnnlhjhcfaaGreatDoorM8
import Derived.Maps.AppendAt
import Derived.Laws.OwnMore
import Derived.Laws.AppendOwnNone
import Derived.Lib.SliceRun
import Derived.Outline
import Derived.Deep.DeepAppendWide
set_option linter.unusedVariables false
set_option linter.unusedSimpArgs false
set_option maxRecDepth 100000
set_option maxHeartbeats 8000000
set_option maxRecDepth 100000
set_option maxHeartbeats 4000000
namespace Bk
open Go Go.RowKit
theorem run_append_sl {P : Program} (w : World) (base : Nat) (t ty e : TypeId) (i : TypeInfo) (z : Value) (size bytes : Nat) (ht : P.underlying t = some (.slice e)) (hi : P.info? e = some i) (hz : i.zero = some z) (hsize : i.size = size) (hby : i.bytes = bytes) (hzs : z.cells.size = size) (hsz : 0 < size)
    (v : Value) (n : Nat) (xs : List Value) (hown : w.ownsRow base e size v n xs) {D : Nat → Prop} {u : Value} {m : Nat} {ys : List Value} (hu : Sl w D size u m ys) (h1 : ∀ u ∈ ys, u.oneCell' = true) (h63 : n + m ≤ maxLen) (hbytes : (n + m) * bytes ≤ 140737488355328) (hbase : base ≤ w.heap.size) :
    ∃ v' w', (Builtin.append_ #[t, t] ty #[v, u]).run P w = .ok v' w' ∧ w'.ownsRow base e size v' (n + m) (xs ++ ys) ∧ w.grownBy w' v.ownBlock ∧ (v'.ownBlock = v.ownBlock ∨ v'.ownBlock = some w.heap.size) := by
  obtain ⟨A, cap, rfl, hcap, hA, hR⟩ := hu
  have hl := hR.1
  cases A with
  | none =>
    obtain rfl := hA rfl
    obtain rfl : m = 0 := by omega
    obtain rfl : ys = [] := List.eq_nil_of_length_eq_zero (by rw [hl, Nat.zero_mul])
    exact ⟨v, w, run_append_owned_none w base t ty e i size ht hi v n xs hown, by simpa using hown, World.grownBy.refl _ _, .inl rfl⟩
  | some ad =>
    obtain ⟨v', w', h2, h3, h4, _, h5⟩ := run_append_own_at (P := P) w base t ty e i z size bytes ht hi hz hsize hby hzs hsz v n xs hown ad m cap ys hl (fun j u hu => by
      have hj : j < ys.length := (List.getElem?_eq_some_iff.1 hu).1
      have h0 : 0 < m := by rcases Nat.eq_zero_or_pos m with h | h; (subst h; rw [hl] at hj; omega); exact h
      obtain ⟨b, off, e, _, hc⟩ := hR.2 h0
      injection e with e
      subst e
      rw [Addr.add_lit]
      exact hc j u hu) h1 h63 hbytes hbase
    exact ⟨v', w', h2, h3, h4, h5⟩
theorem wp_appS {P : Program} {o : Oper} {a : Act} {w : World} {K : Act → World → Prop} {Q : Exit → Act → World → Prop} (s x : Operand) (t : TypeId) (ho : o.op = .call { callee := .builtin .append, args := #[s, x], argTypes := #[t, t] })
    (base : Nat) (e : TypeId) (i : TypeInfo) (z : Value) (size bytes : Nat) (ht : P.underlying t = some (.slice e)) (hi : P.info? e = some i) (hz : i.zero = some z) (hsize : i.size = size) (hby : i.bytes = bytes) (hzs : z.cells.size = size) (hsz : 0 < size)
    (v : Value) (n : Nat) (xs : List Value) (hs : a.eval s = v) (hown : w.ownsRow base e size v n xs) {D : Nat → Prop} {u : Value} {m : Nat} {ys : List Value} (hx : a.eval x = u) (hu : Sl w D size u m ys) (h1 : ∀ u ∈ ys, u.oneCell' = true) (h63 : n + m ≤ maxLen) (hbytes : (n + m) * bytes ≤ 140737488355328) (hbase : base ≤ w.heap.size)
    (h : ∀ v' w', w'.ownsRow base e size v' (n + m) (xs ++ ys) → w.grownBy w' v.ownBlock → (v'.ownBlock = v.ownBlock ∨ v'.ownBlock = some w.heap.size) → K (a.put o.dst v') w') : o.wp P a w K Q := by
  obtain ⟨v', w', hr, h2, h3, h5⟩ := run_append_sl (P := P) w base t o.type e i z size bytes ht hi hz hsize hby hzs hsz v n xs hown hu h1 h63 hbytes hbase
  unfold Oper.wp execOp
  simp only [ho, resolve, invoke, builtin, Sem.run_bind, Sem.run_pure, Result.andThen_ok, List.map_toArray, List.map_cons, List.map_nil, hs, hx, hr]
  exact h v' w' h2 h3 h5
theorem sl_blk1 {w : World} {g : Nat} {t : TypeId} {u : Value} (h : Blk w g t #[u]) : Sl w (fun _ => True) 1 (.slice (some ⟨g, 0, none⟩) 1 1) 1 [u] :=
  ⟨_, 1, rfl, Nat.le_refl _, (fun e => by cases e), rfl, fun _ => ⟨g, 0, rfl, trivial, fun j v hv => by
    match j, hv with
    | 0, hv => simp at hv; subst hv; exact h.cell 0⟩⟩
end Bk
namespace Bk
open Go Go.RowKit
theorem own_gE {w : World} {base : Nat} {e : TypeId} {size n : Nat} {v : Value} {xs : List Value} (h : w.ownsRow base e size v n xs) {k : Nat} (hk : v.ownBlock = some k) : base ≤ k ∧ k < w.heap.size := by
  rcases h.2 with ⟨rfl, _⟩ | ⟨g, cap, cur, rfl, hg, hh, _⟩
  · cases hk
  · injection hk with hk; subst hk
    exact ⟨hg, Blk.lt (cs := cur) hh⟩
theorem own_lowE {w : World} {base base' : Nat} {e : TypeId} {size n : Nat} {v : Value} {xs : List Value} (h : w.ownsRow base e size v n xs) (hb : base' ≤ base) : w.ownsRow base' e size v n xs := by
  refine ⟨h.1, ?_⟩
  rcases h.2 with h0 | ⟨g, cap, cur, e1, hg, r⟩
  · exact .inl h0
  · exact .inr ⟨g, cap, cur, e1, Nat.le_trans hb hg, r⟩
end Bk
namespace Bk
open Go
theorem addr_add' (b off j : Nat) : (⟨b, off, none⟩ : Addr).add j = ⟨b, off + j, none⟩ := by
  unfold Addr.add
  split
  · rename_i h0; subst h0; rfl
  · rfl
end Bk
namespace Go.Proofs.YtakfdnnlhjhcfaaGreatDoor
open Go.RowKit Bk
theorem info_int8N : (Tryz.prog.info? 3).map (fun i => (i.zero, i.size, i.bytes)) = some (some (.int .i64 0), 1, 8) := by kernel_rfl
theorem oneInt (l : List Int) : ∀ u ∈ intCells l, u.oneCell' = true := by
  intro u hu; simp [intCells] at hu; obtain ⟨x, _, rfl⟩ := hu; rfl
theorem CloneI.some_ (ad : Addr) (n cap : Nat) (l : List Int) (w : World) (hmax : n ≤ 17592186044400) (hl : (intCells l).length = n * 1) (hc : ∀ j u, (intCells l)[j]? = some u → w.cell? (ad.add j) = some u) :
    Calls Tryz.prog 30 #[.slice (some ad) n cap] w fun e w' => ∃ v, e = .returned v ∧ w'.ownsRow w.heap.size 3 1 v n (intCells l) ∧ Below w.heap.size w w' := by
  obtain ⟨i2, li, lz, ls, lb⟩ := info_parts info_int8N
  have q28 : ∀ (w : World) (a : Option Addr) (n c n' c' : Nat), (binOp .eql 30 (.slice a n c) (.slice none n' c')).run Tryz.prog w = .ok (.bool a.isNone) w := fun w a n c n' c' => Lib.run_eql_slice_nil w _ _ a n c n' c' Tryz.underlying30
  have HC := Lib.hid hc; clear hc
  have HL := Lib.hid hl; clear hl
  go_enter Tryz.func30, Tryz.ntmps30
  go_wp2_with (at_builtin; refine wpList_append_own_wide _ rfl _ _ 30 rfl w.heap.size 3 i2 _ 1 8 Tryz.underlying30 li lz ls lb rfl (by decide) _ _ _ rfl (World.ownsRow_made w #[] 0 (Nat.le_refl _) (Nat.zero_le _) rfl) ad n cap (intCells l) rfl ?qc1 ?qc2 ?qc3 ?qc4 ?qc5 ?qc6 ?_)
  case qc1 => exact HL.out
  case qc2 =>
    intro j u hj
    have h := HC.out j u hj
    refine Lib.cell?_alloc_some _ h
  case qc3 => exact oneInt l
  case qc4 => unfold maxLen; omega
  case qc5 => omega
  case qc6 => simp
  intro v' w1 hown hgrow hnil
  go_wp2
  go_ret
  refine ⟨v', rfl, by simpa using hown, ?_⟩
  exact ((Below.refl _ w).alloc (Nat.le_refl _) _).grown hgrow (by simp) (by intro k hk; simp [Value.ownBlock] at hk; omega)
theorem c_CloneI {w : World} {D : Nat → Prop} {v : Value} {l : List Int} (h : Sl w D 1 v l.length (intCells l)) (hmax : l.length ≤ 17592186044400) :
    Calls Tryz.prog 30 #[v] w fun e w' => ∃ v, e = .returned v ∧ w'.ownsRow w.heap.size 3 1 v l.length (intCells l) ∧ Below w.heap.size w w' := by
  obtain ⟨A, cap, rfl, hcap, hA, hC⟩ := h
  cases A with
  | none =>
    have hcode : l = [] := by
      rcases Nat.eq_zero_or_pos l.length with h | h
      · exact List.eq_nil_of_length_eq_zero h
      · obtain ⟨b, off, e, _⟩ := hC.2 h; cases e
    subst hcode
    have q28 : ∀ (w : World) (a : Option Addr) (n c n' c' : Nat), (binOp .eql 30 (.slice a n c) (.slice none n' c')).run Tryz.prog w = .ok (.bool a.isNone) w := fun w a n c n' c' => Lib.run_eql_slice_nil w _ _ a n c n' c' Tryz.underlying30
    clear hC hcap hA hmax
    go_enter Tryz.func30, Tryz.ntmps30
    go_wp2
    go_ret
    exact ⟨_, rfl, ⟨rfl, .inl ⟨rfl, rfl⟩⟩, Below.refl _ _⟩
  | some ad =>
    refine CloneI.some_ ad _ cap l w hmax hC.1 fun j u hu => ?_
    rcases Nat.eq_zero_or_pos l.length with h | h
    · have : l = [] := List.eq_nil_of_length_eq_zero h
      subst this
      simp [intCells] at hu
    · obtain ⟨b, off, e, _, hc⟩ := hC.2 h
      injection e with e
      subst e
      rw [addr_add']
      exact hc j u hu
def Emt (cb : Nat) (w w' : World) (q q' : Value) : Prop := Fr (fun k => k = cb ∨ q.ownBlock = some k) w w' ∧ (q'.ownBlock = q.ownBlock ∨ ∀ k, q'.ownBlock = some k → w.heap.size ≤ k)
theorem Emt.refl (cb : Nat) (w : World) (q : Value) : Emt cb w w q q := ⟨Fr.refl _ _, .inl rfl⟩
theorem Emt.trans {cb : Nat} {w w' w'' : World} {q q' q'' : Value} (h : Emt cb w w' q q') (h' : Emt cb w' w'' q' q'') : Emt cb w w'' q q'' := by
  obtain ⟨f1, e1⟩ := h
  obtain ⟨f2, e2⟩ := h'
  refine ⟨⟨f2.os.trans f1.os, f2.tape.trans f1.tape, f2.output.trans f1.output, Nat.le_trans f1.size f2.size, fun k hk ho => (f2.block k (Nat.lt_of_lt_of_le hk f1.size) fun h => ?_).trans (f1.block k hk ho)⟩, ?_⟩
  · rcases h with h | h
    · exact ho (.inl h)
    · rcases e1 with e | e
      · rw [e] at h; exact ho (.inr h)
      · have := e k h; omega
  · rcases e2 with e | e
    · rw [e]; exact e1
    · exact .inr fun k hk => Nat.le_trans f1.size (e k hk)
theorem Emt.next {cb : Nat} {w w' w'' : World} {q q' : Value} (h : Emt cb w w' q q') (hb : Below w'.heap.size w' w'') : Emt cb w w'' q q' := ⟨h.1.next hb, h.2⟩
theorem Emt.pre {cb : Nat} {w w' w'' : World} {q q' : Value} (hb : Below w.heap.size w w') (h : Emt cb w' w'' q q') : Emt cb w w'' q q' := ⟨(Fr.of hb).trans h.1, h.2.imp id fun e k hk => Nat.le_trans hb.size (e k hk)⟩
end Go.Proofs.YtakfdnnlhjhcfaaGreatDoor
namespace Bk
open Go Go.RowKit
theorem wpList_append_new {P : Program} {w : World} {ops : Array Oper} {rest : List Oper} {o : Oper} {a : Act} {Q : Exit → Act → World → Prop} (hgd : o.guard = none) (s x : Operand) (t : TypeId) (ho : o.op = .call { callee := .builtin .append, args := #[s, x], argTypes := #[t, t] })
    (e : TypeId) (i : TypeInfo) (z : Value) (size bytes : Nat) (ht : P.underlying t = some (.slice e)) (hi : P.info? e = some i) (hz : i.zero = some z) (hsize : i.size = size) (hby : i.bytes = bytes) (hzs : z.cells.size = size) (hsz : 0 < size)
    {D : Nat → Prop} {A : Option Addr} {n : Nat} {xs : List Value} (hs : a.eval s = .slice A n n) (hS : Sl w D size (.slice A n n) n xs)
    (ad : Addr) (m c : Nat) (news : List Value) (hx : a.eval x = .slice (some ad) m c) (hm : 0 < m) (hl : news.length = m * size) (hnews : ∀ j u, news[j]? = some u → w.cell? (ad.add j) = some u)
    (h63 : n + m ≤ maxLen) (hbytes : (n + m) * bytes ≤ 140737488355328)
    (h : ∀ v' w', w'.ownsRow w.heap.size e size v' (n + m) (xs ++ news) → Below w.heap.size w w' → wpList P ops Q rest (a.put o.dst v') w') : wpList P ops Q (o :: rest) a w := by
  refine wpList_plain hgd fun K hK => ?_
  subst hsize
  subst hby
  have hsmall : n + m ≤ 9223372036854775807 := by simp only [maxLen] at h63; omega
  obtain ⟨A', cap', hv, hcap, hA, hR⟩ := hS
  injection hv with hv1 _ hv3
  subst hv1; subst hv3
  have hxl : xs.length = n * i.size := hR.1
  have hlen : (xs ++ news).length = (n + m) * i.size := by rw [List.length_append, hxl, hl, Nat.add_mul]
  have grown : ∀ (old : Nat), old < n + m →
      (w.drew.alloc (.cells (xs.toArray ++ news.toArray ++ Builtin.zeroCells z.cells (grownCap w (n + m) old e - (n + m))) e)).ownsRow w.heap.size e i.size
        (.slice (some ⟨w.heap.size, 0, none⟩) (n + m) (grownCap w (n + m) old e)) (n + m) (xs ++ news) ∧
      Below w.heap.size w (w.drew.alloc (.cells (xs.toArray ++ news.toArray ++ Builtin.zeroCells z.cells (grownCap w (n + m) old e - (n + m))) e)) := by
    intro old hlt
    have hge := grownCap_ge w (n + m) old e
    have hcm : grownCap w (n + m) old e ≤ maxLen := grownCap_le_maxLen w (n + m) old e h63
    refine ⟨⟨hlen, .inr ⟨w.heap.size, _, _, rfl, Nat.le_refl _, heap_alloc_new w.drew _, hge, hcm, ?_, ?_⟩⟩, (Below.refl _ _).drew.alloc (Nat.le_refl _) _⟩
    · simp only [Array.size_append, List.size_toArray, size_zeroCells, hzs, hxl, hl, ← Nat.add_mul]
      congr 1
      omega
    · simp only [Array.toList_append, List.append_assoc]
      rw [← List.append_assoc, ← hlen]
      exact List.take_left
  cases A with
  | none =>
    have hn0 : n = 0 := hA rfl
    subst hn0
    have hx0 : xs = [] := List.eq_nil_of_length_eq_zero (by simpa using hxl)
    subst hx0
    have hr := run_append_nil (P := P) w t o.type e i z ht hi hz ad m c news hl hnews hm (by omega) (by have hb := hbytes; simp only [Nat.zero_add] at hb; omega)
    have hgr := grown 0 (by omega)
    simp only [Nat.zero_add, List.nil_append, Array.empty_append] at hgr h
    unfold Oper.wp execOp
    simp only [ho, resolve, invoke, builtin, Sem.run_bind, Sem.run_pure, Result.andThen_ok, List.map_toArray, List.map_cons, List.map_nil, hs, hx, hr]
    exact hK _ _ (h _ _ hgr.1 hgr.2)
  | some b =>
    have holds : ∀ j u, xs[j]? = some u → w.cell? (b.add j) = some u := fun j u hu => by
      have hj := (List.getElem?_eq_some_iff.1 hu).1
      have h0 : 0 < n := by rcases Nat.eq_zero_or_pos n with h | h; (subst h; omega); exact h
      obtain ⟨g, off, eb, _, hc⟩ := hR.2 h0
      injection eb with eb
      subst eb
      rw [Addr.add_lit]
      exact hc j u hu
    have hr := run_append_grow (P := P) w t o.type e i z ht hi hz b n n xs hxl holds ad m c news hl hnews (by omega) (by omega) (growslice_fits (by omega) hbytes)
    have hgr := grown n (by omega)
    unfold Oper.wp execOp
    simp only [ho, resolve, invoke, builtin, Sem.run_bind, Sem.run_pure, Result.andThen_ok, List.map_toArray, List.map_cons, List.map_nil, hs, hx, hr]
    exact hK _ _ (h _ _ hgr.1 hgr.2)
end Bk
namespace Go.Proofs.YtakfdnnlhjhcfaaGreatDoor
section
open Go.RowKit Bk
theorem e_Clip (w : World) {D : Nat → Prop} {v : Value} {n : Nat} {xs : List Value} (h : Sl w D 1 v n xs) (hn : n ≤ 17592186043904) :
    Calls Tryz.prog 95 #[v] w fun en w' => ∃ A, en = .returned (.slice A n n) ∧ Sl w D 1 (.slice A n n) n xs ∧ Below w.heap.size w w' := by
  obtain ⟨A, cap, rfl, hcap, hA, hR⟩ := h
  cases A with
  | none =>
    obtain rfl := hA rfl
    obtain rfl : n = 0 := by omega
    have HR := Lib.hid hR
    clear hR hA hcap
    go_enter Tryz.func95, Tryz.ntmps95
    go_wp2_with fail
    go_ret
    exact ⟨none, rfl, ⟨none, 0, rfl, Nat.le_refl _, fun _ => rfl, HR.out⟩, by go_grown⟩
  | some b =>
    have HR := Lib.hid hR
    have q0 : (0 : Int) ≤ (n : Int) := by omega
    have q1 : (n : Int) ≤ (cap : Int) := by omega
    clear hR hA
    obtain ⟨g, o, sp⟩ := b
    go_enter Tryz.func95, Tryz.ntmps95
    go_wp2_with fail
    go_ret
    exact ⟨_, rfl, ⟨_, n, rfl, Nat.le_refl _, (fun e => by cases e), by simpa using HR.out⟩, by go_grown⟩
theorem e_child (w : World) {D : Nat → Prop} {v : Value} {n : Nat} {l : List Int} (h : Sl w D 1 v n (intCells l)) (hD : ∀ k, D k → k < w.heap.size) (hn : n ≤ 17592186043904) (i : Int) :
    Calls Tryz.prog 59 #[v, .int .i64 i] w fun en w' => ∃ v', en = .returned v' ∧ w'.ownsRow w.heap.size 3 1 v' (n + 1) (intCells (l ++ [i])) ∧ Below w.heap.size w w' := by
  have HCL := Lib.hid (e_Clip w h hn)
  obtain ⟨i1, li, lz, ls, lb⟩ := info_parts info_int8N
  have HI := Lib.hid li; have HZ := Lib.hid lz; have HSZ := Lib.hid ls; have HBY := Lib.hid lb
  have HD := Lib.hid hD
  clear h li lz ls lb hD
  go_enter Tryz.func59, Tryz.ntmps59
  go_wp2_with fail
  refine HCL.out.mono ?_
  rintro en w1 ⟨A, rfl, hs, hb1⟩
  have HS := Lib.hid hs; have HB1 := Lib.hid hb1
  clear hs hb1
  go_wp2_with (at_builtin; refine wpList_append_new rfl (.tmp 6) (.tmp 8) 30 rfl 3 i1 _ 1 8 Tryz.underlying30 HI.out HZ.out HSZ.out HBY.out rfl (by decide) (D := fun k => k < w.heap.size) rfl ((HS.out.keep (D' := fun k => k < w.heap.size) (fun b o hd => (Below.next HB1.out ((Below.refl _ _).alloc (Nat.le_refl _) _)).cell (p := ⟨b, o, none⟩) (HD.out _ hd)) (fun k hk => HD.out k hk))) ⟨w1.heap.size, 0, none⟩ 1 1 [.int .i64 i] rfl (by decide) rfl (cell_one_new _ _ _) (by unfold maxLen; omega) (by omega) ?_)
  intro v2 w2 hown hb2
  have HOW := Lib.hid hown
  have hz1 := HB1.out.size
  have HB2 : Hid (Below w.heap.size w w2) := Lib.hid (HB1.out.trans ((((Below.refl w1.heap.size w1).alloc (Nat.le_refl _) _).trans (hb2.mono (Nat.le_succ _))).mono hz1))
  clear hown hb2
  go_wp2_with fail
  go_ret
  refine ⟨v2, rfl, ?_, HB2.out⟩
  have h := own_lowE HOW.out (base' := w.heap.size) (by omega)
  rw [show intCells (l ++ [i]) = intCells l ++ [.int .i64 i] by simp [intCells]]
  exact h
end
section
open Go.RowKit Bk
theorem info_fault : (Tryz.prog.info? 69).map (fun i => (i.zero, i.size, i.bytes)) = some (some (.agg #[.int .i64 0, .slice none 0 0, .int .i64 0, .string ⟨#[]⟩]), 4, 56) := by kernel_rfl
structure Flt (w : World) (bf base : Nat) (q : Value) (n : Nat) : Prop where
  blk : Blk w bf 49 #[q]
  own : ∃ xs, w.ownsRow base 69 4 q n xs ∧ ∀ u ∈ xs, u.oneCell' = true
theorem Flt.next {w w' : World} {bf base : Nat} {q : Value} {n : Nat} (h : Flt w bf base q n) (hb : Below w.heap.size w w') : Flt w' bf base q n :=
  ⟨h.blk.next hb, let ⟨xs, h1, h2⟩ := h.own; ⟨xs, own_below h1 hb (Nat.le_refl _), h2⟩⟩
def Dn (bf : Nat) (q : Value) (w : World) (k : Nat) : Prop := k < w.heap.size ∧ ¬ (k = bf ∨ q.ownBlock = some k)
theorem Dn.next {bf : Nat} {q : Value} {w w' : World} {v : Value} {n : Nat} {xs : List Value} (h : Sl w (Dn bf q w) 1 v n xs) (hb : Below w.heap.size w w') : Sl w' (Dn bf q w') 1 v n xs :=
  h.keep (fun b o hd => hb.cell (p := ⟨b, o, none⟩) hd.1) (fun k hk => ⟨Nat.lt_of_lt_of_le hk.1 hb.size, hk.2⟩)
theorem Dn.emt {bf : Nat} {q q' : Value} {w w' : World} {v : Value} {n : Nat} {xs : List Value} (h : Sl w (Dn bf q w) 1 v n xs) (he : Emt bf w w' q q') : Sl w' (Dn bf q' w') 1 v n xs :=
  h.keep (fun b o hd => he.1.cell hd.1 hd.2 o) (fun k hk => ⟨Nat.lt_of_lt_of_le hk.1 he.1.size, fun ho => by
    rcases ho with ho | ho
    · exact hk.2 (.inl ho)
    · rcases he.2 with e | e
      · exact hk.2 (.inr (by rw [← e]; exact ho))
      · have := e k ho; have := hk.1; omega⟩)
theorem Fr.ofGrownN {w w' : World} {row : Option Nat} (hg : w.grownBy w' row) : Fr (fun k => row = some k) w w' := ⟨hg.os, hg.tape, hg.output, hg.size, fun k hk ho => hg.block k hk (fun e => ho e.symm)⟩
theorem sl_blk4 {w : World} {g : Nat} {t : TypeId} {u0 u1 u2 u3 : Value} (h : Blk w g t #[u0, u1, u2, u3]) : Sl w (fun _ => True) 4 (.slice (some ⟨g, 0, none⟩) 1 1) 1 [u0, u1, u2, u3] :=
  ⟨_, 1, rfl, Nat.le_refl _, (fun e => by cases e), rfl, fun _ => ⟨g, 0, rfl, trivial, fun j v hv => by rw [Nat.zero_add]; exact (h.cell j).trans (by rw [List.getElem?_toArray]; exact hv)⟩⟩
def RepP (w w' : World) (bf base : Nat) (q : Value) (n : Nat) (err : Int) : Prop :=
  (err = 0 ∧ Below w.heap.size w w') ∨ err ≠ 0 ∧ ∃ q', Flt w' bf base q' (n + 1) ∧ Emt bf w w' q q'
theorem e_report {w : World} {bf base : Nat} {q : Value} {n : Nat} (hf : Flt w bf base q n) (hbl : bf < base) (hbs : base ≤ w.heap.size) (hn : n ≤ 1000000) (pr err : Int) (nm : ByteArray) {v : Value} {l : List Int} (hl : l.length ≤ 17592186043904) (hs : Sl w (fun k => k < w.heap.size) 1 v l.length (intCells l)) :
    Calls Tryz.prog 29 #[.int .i64 pr, v, .string nm, .int .i64 err, .pointer (some ⟨bf, 0, none⟩)] w fun en w' => en = .returned (.tuple #[]) ∧ RepP w w' bf base q n err := by
  obtain ⟨hfb, xs, hown, hx1⟩ := hf
  have HF := Lib.hid hfb; have HOW := Lib.hid hown; have HX1 := Lib.hid hx1; have HS := Lib.hid hs
  obtain ⟨Aq, cq, rfl⟩ := own_form hown
  have HOB : Hid (∀ k, (Value.slice Aq n cq).ownBlock = some k → base ≤ k) := Lib.hid fun k hk => (own_gE HOW.out hk).1
  obtain ⟨z_f, T_f, F_f⟩ := hfb.open_
  clear hfb hown hx1 hs
  by_cases he : err = 0
  · subst he
    go_enter Tryz.func29, Tryz.ntmps29
    go_wp2_with fail
    refine bodyPost_end (results_none rfl _ _ _) rfl ?_
    exact ⟨rfl, .inl ⟨rfl, Below.refl _ _⟩⟩
  · have he' : (err != 0) = true := by simpa using he
    have HNE := Lib.hid he
    obtain ⟨i4, li, lz, lsz, lb⟩ := info_parts info_fault
    have HI := Lib.hid li; have HZ := Lib.hid lz; have HSI := Lib.hid lsz; have HBY := Lib.hid lb
    clear li lz lsz lb he T_f F_f
    go_enter Tryz.func29, Tryz.ntmps29
    go_upto_region 1 with fail
    refine wp_region_heldL (S := fun W => Fr (fun k => (Value.slice Aq n cq).ownBlock = some k) w W) 9 (by kernel_rfl) ((Fr.refl _ _).drew) (fun hH => ?_)
    refine wpAnyL_at ?_
    intro wa hwa
    have hX : Fr (fun k => (Value.slice Aq n cq).ownBlock = some k) w wa := by rw [hwa]; exact (Fr.refl _ _).drew
    have HO : wa.ownsRow base 69 4 (.slice Aq n cq) n xs := by rw [hwa]; exact own_drew HOW.out
    have HSA := Lib.hid (HS.out.keep (w' := wa) (D' := fun k => k < w.heap.size) (fun b o hd => by rw [hwa]; rfl) (fun k hk => hk))
    replace hH := hX
    clear hwa
    refine tkL 0 (v := ?_) rfl (by kernel_rfl) (fun _ _ _ h => h) (by rfl) ?hy hH ?_
    case hy => (intro w9_ hS9; have t := (hS9.blk HF.out (by intro e; have := HOB.out _ e; omega)).cell; clear hS9; go_simp; try with_reducible rfl)
    (try simp only [PU, Act.put])
    refine tkL 1 (v := ?_) rfl (by kernel_rfl) (fun _ _ _ h => h) (by rfl) ?hy hH ?_
    case hy => (intro w9_ hS9; clear hS9; go_simp; try with_reducible rfl)
    (try simp only [PU, Act.put])
    refine tkL 2 (v := ?_) rfl (by kernel_rfl) (fun _ _ _ h => h) (by rfl) ?hy hH ?_
    case hy => (intro w9_ hS9; clear hS9; go_simp; try with_reducible rfl)
    (try simp only [PU, Act.put])
    refine tkL 4 (v := ?_) rfl (by kernel_rfl) (fun _ _ _ h => h) (by rfl) ?hy hH ?_
    case hy => (intro w9_ hS9; clear hS9; go_simp; try with_reducible rfl)
    (try simp only [PU, Act.put])
    refine tkL 5 (v := ?_) rfl (by kernel_rfl) (fun _ _ _ h => h) (by rfl) ?hy hH ?_
    case hy => (intro w9_ hS9; clear hS9; go_simp; try with_reducible rfl)
    (try simp only [PU, Act.put])
    refine wpAnyL_next (i := 3) rfl (by kernel_rfl) (fun K hK => ?_)
    go_simp
    refine (c_CloneI HSA.out (by omega)).mono ?_
    rintro en wb ⟨vc, rfl, hown, hbn⟩
    replace hX := hX.next hbn
    replace hH := hX
    replace HO := own_below HO hbn (Nat.le_refl _)
    obtain ⟨A_c, c_c, rfl⟩ := own_form hown
    clear hown hbn
    refine hK.out _ _ hH (fun _ => ?_)
    clear hK
    (try simp only [PU, Act.put])
    refine tkL 6 (v := ?_) rfl (by kernel_rfl) (fun _ _ _ h => h) (by rfl) ?hy hH ?_
    case hy => (intro w9_ hS9; clear hS9; go_simp; try with_reducible rfl)
    (try simp only [PU, Act.put])
    refine wpAnyL_next (i := 7) rfl (by kernel_rfl) (fun K hK => ?_)
    go_simp
    replace hH := hX.alloc (.cells #[.int .i64 pr, .slice A_c l.length c_c, .int .i64 err, .string nm] 69)
    refine hK.out _ _ hH (fun _ => ?_)
    clear hK
    (try simp only [PU, Act.put])
    refine wpAnyL_at ?_
    intro wc hwn
    have hbn : Below wb.heap.size wb wc := by rw [hwn]; exact (Below.refl _ _).alloc (Nat.le_refl _) _
    have K_n : Blk wc wb.heap.size 69 #[.int .i64 pr, .slice A_c l.length c_c, .int .i64 err, .string nm] := by rw [hwn]; exact Blk.new _ _ _
    replace HO := own_below HO hbn (Nat.le_refl _)
    replace hX := hX.next hbn
    replace hH := hX
    clear hwn hbn
    refine wpAnyL_next (i := 8) rfl (by kernel_rfl) (fun K hK => ?_)
    rw [if_pos (by rfl)]
    refine wp_appS (.tmp 11) (.tmp 18) 49 rfl base 69 i4 _ 4 56 Tryz.underlying49 HI.out HZ.out HSI.out HBY.out rfl (by decide) (.slice Aq n cq) n xs (by simp [Act.eval]) HO (by simp [Act.eval]) (sl_blk4 K_n) (by intro u hu; simp at hu; rcases hu with rfl | rfl | rfl | rfl <;> rfl) (by unfold maxLen; omega) (by omega) (by have := hX.size; omega) ?_
    intro v_2 wd hown hgr hat
    have hXB := hX.size
    replace hX : Fr (fun k => (Value.slice Aq n cq).ownBlock = some k) w wd := hX.trans (Fr.ofGrownN hgr)
    replace hH := hX
    obtain ⟨A_2, c_2, rfl⟩ := own_form hown
    have HAT := Lib.hid hat
    have HXB := Lib.hid hXB
    clear hgr hat hXB
    refine hK.out _ _ hH (fun _ => ?_)
    clear hK
    (try simp only [PU, Act.put])
    refine wpAnyL_last (l := 9) rfl (by kernel_rfl) (by kernel_rfl) (fun K hK => ?_)
    have F_f : wd.frozen? ⟨bf, 0, none⟩ = false := (hX.blk HF.out (by intro e; have := HOB.out _ e; omega)).frozen 0
    have C_f : wd.cell? ⟨bf, 0, none⟩ = some (.slice Aq n cq) := (hX.blk HF.out (by intro e; have := HOB.out _ e; omega)).cell 0
    go_simp
    refine hK.out _ _ ?_
    clear hK
    (try simp only [PU, Act.put])
    have HOZ := Lib.hid hown; have HXZ := Lib.hid hX; clear hown hX hH
    go_wp2_with fail
    refine bodyPost_end (results_none rfl _ _ _) rfl ?_
    refine ⟨rfl, .inr ⟨HNE.out, .slice A_2 (n + 1) c_2, ⟨?_, xs ++ [.int .i64 pr, .slice A_c l.length c_c, .int .i64 err, .string nm], ?_, ?_⟩, ⟨?_, ?_⟩⟩⟩
    · simpa using (HXZ.out.blk HF.out (by intro e; have := HOB.out _ e; omega)).set_ 0 (.slice A_2 (n + 1) c_2)
    · exact own_setCell HOZ.out hbl
    · intro u hu
      rcases List.mem_append.1 hu with hu | hu
      · exact HX1.out u hu
      · simp at hu; rcases hu with rfl | rfl | rfl | rfl <;> rfl
    · exact Fr.set (HXZ.out.mono (fun k hk => .inr hk)) (.inl rfl) _
    · exact HAT.out.imp id (fun e k hk => by rw [hk] at e; have e := Option.some.inj e; have := HXB.out; omega)
end
end Go.Proofs.YtakfdnnlhjhcfaaGreatDoor
