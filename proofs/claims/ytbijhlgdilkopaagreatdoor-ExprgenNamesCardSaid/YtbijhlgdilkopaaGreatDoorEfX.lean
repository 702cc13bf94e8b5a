/- Several texts in one: EgF EgG EgH. -/
import Derived.Test.YtbijhlgdilkopaaGreatDoorEsX
import Derived.Maps.AppendAt
set_option linter.unusedVariables false
set_option linter.unusedSimpArgs false
/- The reference's Slots, the law's frame. -/
set_option linter.unusedVariables false
set_option linter.unusedSimpArgs false
set_option maxRecDepth 100000
set_option maxHeartbeats 4000000
namespace Bk
open Go Go.RowKit
/-- A slot of a frame. -/
structure St4 where
  nm : ByteArray
  k : Int
  len : Int
  pos : Int
def slotCells (l : List St4) : List Value := l.flatMap fun v => [.string v.nm, .int .u8 v.k, .int .i64 v.len, .int .i64 v.pos]
theorem slotCells_length (l : List St4) : (slotCells l).length = l.length * 4 := by
  induction l with
  | nil => rfl
  | cons a l ih => simp [slotCells] at ih ⊢; omega
theorem slotCells_append (l r : List St4) : slotCells (l ++ r) = slotCells l ++ slotCells r := by simp [slotCells]
theorem slotCells_get (l : List St4) : ∀ i v, l[i]? = some v → (slotCells l)[i * 4]? = some (.string v.nm) ∧ (slotCells l)[i * 4 + 1]? = some (.int .u8 v.k) ∧ (slotCells l)[i * 4 + 2]? = some (.int .i64 v.len) ∧ (slotCells l)[i * 4 + 3]? = some (.int .i64 v.pos) := by
  induction l with
  | nil => intro i v h; simp at h
  | cons a l ih =>
    intro i v h
    cases i with
    | zero => simp at h; subst h; exact ⟨rfl, rfl, rfl, rfl⟩
    | succ i =>
      have := ih i v (by simpa using h)
      have e : (i + 1) * 4 = i * 4 + 1 + 1 + 1 + 1 := by omega
      rw [e]
      exact this
def Vr.cells (v : Vr) : Int := if v.k = 3 then 0 else max v.len 1
def Vr.stk (v : Vr) : Int := if v.k = 3 then 1 else 0
def cellsOf (l : List Vr) : Int := (l.map Vr.cells).sum
def stksOf (l : List Vr) : Int := (l.map Vr.stk).sum
/-- The slots of variables behind c cells, s stacks. -/
def slotsL : List Vr → Int → Int → List St4
  | [], _, _ => []
  | v :: l, c, s => ⟨v.nm, v.k, v.len, if v.k = 3 then s + 1 else c⟩ :: slotsL l (c + v.cells) (s + v.stk)
theorem slotsL_length (l : List Vr) : ∀ c s, (slotsL l c s).length = l.length := by
  induction l with
  | nil => intros; rfl
  | cons a l ih => intro c s; simp [slotsL, ih]
theorem slotsL_snoc (l : List Vr) (v : Vr) : ∀ c s, slotsL (l ++ [v]) c s = slotsL l c s ++ [⟨v.nm, v.k, v.len, if v.k = 3 then s + stksOf l + 1 else c + cellsOf l⟩] := by
  induction l with
  | nil => intro c s; simp [slotsL, stksOf, cellsOf]
  | cons a l ih =>
    intro c s
    simp only [List.cons_append, slotsL, ih, stksOf, cellsOf, List.map_cons, List.sum_cons]
    congr 4
    split <;> omega
theorem cellsOf_snoc (l : List Vr) (v : Vr) : cellsOf (l ++ [v]) = cellsOf l + v.cells := by simp [cellsOf]
theorem stksOf_snoc (l : List Vr) (v : Vr) : stksOf (l ++ [v]) = stksOf l + v.stk := by simp [stksOf]
theorem Vr.Ok.b {v : Vr} (h : v.Ok) : 0 ≤ v.cells ∧ v.cells ≤ 16 ∧ 0 ≤ v.stk ∧ v.stk ≤ 1 := by
  unfold Vr.Ok at h
  unfold Vr.cells Vr.stk
  split <;> omega
theorem sums_le (l : List Vr) (h : ∀ v ∈ l, v.Ok) : 0 ≤ cellsOf l ∧ cellsOf l ≤ 16 * l.length ∧ 0 ≤ stksOf l ∧ stksOf l ≤ l.length := by
  induction l with
  | nil => simp [cellsOf, stksOf]
  | cons a l ih =>
    have h1 := (h a (by simp)).b
    have h2 := ih fun v hv => h v (by simp [hv])
    simp only [cellsOf, stksOf, List.map_cons, List.sum_cons, List.length_cons] at *
    omega
theorem cells4_new (w : World) (u0 u1 u2 u3 : Value) (t : TypeId) : ∀ (j : Nat) (v : Value), [u0, u1, u2, u3][j]? = some v → (w.alloc (.cells #[u0, u1, u2, u3] t)).cell? ((⟨w.heap.size, 0, none⟩ : Addr).add j) = some v := fun j v h => cells_new w #[u0, u1, u2, u3] t j v h
theorem own_gE {w : World} {base : Nat} {e : TypeId} {size n : Nat} {v : Value} {xs : List Value} (h : w.ownsRow base e size v n xs) {k : Nat} (hk : v.ownBlock = some k) : base ≤ k ∧ k < w.heap.size := by
  rcases h.2 with ⟨rfl, _⟩ | ⟨g, cap, cur, rfl, hg, hh, _⟩
  · cases hk
  · injection hk with hk; subst hk
    exact ⟨hg, Blk.lt (cs := cur) hh⟩
theorem own_lowE {w : World} {base base' : Nat} {e : TypeId} {size n : Nat} {v : Value} {xs : List Value} (h : w.ownsRow base e size v n xs) (hb : base' ≤ base) : w.ownsRow base' e size v n xs := by
  refine ⟨h.1, ?_⟩
  rcases h.2 with h0 | ⟨g, cap, cur, e1, hg, r⟩
  · exact .inl h0
  · exact .inr ⟨g, cap, cur, e1, Nat.le_trans hb hg, r⟩
end Bk
namespace Go.Proofs.YtbijhlgdilkopaaGreatDoor
open Go.RowKit Bk
theorem info_rslot : (Tryz.prog.info? 78).map (fun i => (i.zero, i.size, i.bytes)) = some (some (.agg #[.string ⟨#[]⟩, .int .u8 0, .int .i64 0, .int .i64 0]), 4, 40) := by kernel_rfl
theorem e_Slots {w : World} {B : Nat} (hBw : B ≤ w.heap.size) (V : Option Addr) (nv cv : Nat) (vs : List Vr) (hv : VsAt w B V vs) (hnv : vs.length = nv) (h32 : nv ≤ 32) (hok : ∀ v ∈ vs, v.Ok) (w' : World) (hb : Below B w w') :
    Calls Tryz.prog 28 #[.slice V nv cv] w' fun e w'' => ∃ u, e = .returned (.tuple #[u, .int .i64 (cellsOf vs), .int .i64 (stksOf vs)]) ∧ w''.ownsRow w'.heap.size 78 4 u nv (slotCells (slotsL vs 0 0)) ∧ Below w'.heap.size w' w'' := by
  have HV := Lib.hid hv; have HNV := Lib.hid hnv; have HB := Lib.hid hb; have HOK := Lib.hid hok
  clear hv hnv hb hok
  obtain ⟨i2, li, lz, ls, lb⟩ := info_parts info_rslot
  have HI := Lib.hid li; have HZ := Lib.hid lz; have HS := Lib.hid ls; have HBy := Lib.hid lb
  clear li lz ls lb
  go_enter Tryz.func28, Tryz.ntmps28
  go_wp2_with fail
  go_loopw [5, 6, 7, 8] (fun v5 v6 v7 v8 wr => ∃ (j : Nat), j ≤ nv ∧ v8 = .int .i64 j ∧ v6 = .int .i64 (cellsOf (vs.take j)) ∧ v7 = .int .i64 (stksOf (vs.take j)) ∧ wr.ownsRow w'.heap.size 78 4 v5 j (slotCells (slotsL (vs.take j) 0 0)) ∧ Below w'.heap.size w' wr) (fun _ _ _ v _ => nv - (intOf v).toNat)
  case atStart => exact ⟨0, Nat.zero_le _, rfl, rfl, rfl, ⟨rfl, .inl ⟨rfl, rfl⟩⟩, Below.refl _ _⟩
  case round =>
    obtain ⟨j, hj, rfl, rfl, rfl, how, hbr⟩ := hrel
    have HOW := Lib.hid how; have HBR := Lib.hid hbr
    clear how
    by_cases hjn : j < nv
    · obtain ⟨v, hvj⟩ : ∃ v, vs[j]? = some v := ⟨_, List.getElem?_eq_getElem (by have := HNV.out; omega)⟩
      obtain ⟨g, o, hA2, hgB, c0, c1, c2⟩ := (HV.out.next HB.out) j v hvj
      subst hA2
      have hgw : g < w'.heap.size := by have := HB.out.size; omega
      have d0 := (hbr.cell (p := ⟨g, o + j * 3, none⟩) hgw).trans c0
      have d1 := (hbr.cell (p := ⟨g, o + j * 3 + 1, none⟩) hgw).trans c1
      have d2 := (hbr.cell (p := ⟨g, o + j * 3 + 2, none⟩) hgw).trans c2
      have htk : vs.take (j + 1) = vs.take j ++ [v] := by rw [List.take_add_one, hvj]; rfl
      obtain ⟨s0, s1, s2, s3⟩ := sums_le (vs.take j) fun v hv => HOK.out v (List.mem_of_mem_take hv)
      have hll : (vs.take j).length ≤ 32 := by rw [List.length_take]; omega
      have hvb := (HOK.out v (List.mem_of_getElem? hvj)).b
      have hsn := slotsL_snoc (vs.take j) v 0 0
      have hcs := cellsOf_snoc (vs.take j) v; have hss := stksOf_snoc (vs.take j) v
      rw [← htk] at hsn hcs hss
      obtain ⟨cc, hcc⟩ : ∃ cc, cellsOf (vs.take j) = cc := ⟨_, rfl⟩
      obtain ⟨ss, hss'⟩ : ∃ ss, stksOf (vs.take j) = ss := ⟨_, rfl⟩
      rw [hcc] at s0 s1 hsn hcs ⊢; rw [hss'] at s2 s3 hsn hss ⊢
      have HSN := Lib.hid hsn; have HCS := Lib.hid hcs; have HSS := Lib.hid hss
      obtain ⟨nm, k, len⟩ := v
      dsimp only at d0 d1 d2
      have j0 : (0 : Int) ≤ (j : Int) := by omega
      have j1 : (j : Int) < (nv : Int) := by omega
      have hb1 : cc ≤ 1000 := by omega
      have hb2 : ss ≤ 1000 := by omega
      have HVB := Lib.hid hvb
      clear hvj c0 c1 c2 hbr htk hsn hcs hss hcc hss' hvb hll
      by_cases hk3 : k = 3
      · subst hk3
        have hb3 : IntKind.i64.wrap (ss + 1) = ss + 1 := wrap_small _ (by omega) (by omega)
        go_upto_region 8 with fail
        refine wp_nameE ?_
        intro w2 hw2
        have hb2' : Below wr.heap.size wr w2 := by rw [hw2]; exact (by go_grown)
        have K9 : Blk w2 wr.heap.size 45 #[.string nm, .int .u8 3, .int .i64 len] := by rw [hw2]; exact (by repeat' (first | assumption | exact Blk.new' (by simp) _ _ | apply Blk.alloc | apply Blk.drew))
        have K10 : Blk w2 (wr.heap.size + 1) 78 #[.string nm, .int .u8 3, .int .i64 len, .int .i64 0] := by rw [hw2]; exact Blk.new' (by simp) _ _
        clear hw2 d0 d1 d2
        have HOW2 : Hid (w2.ownsRow w'.heap.size 78 4 u5 j (slotCells (slotsL (vs.take j) 0 0))) := Lib.hid (own_of_block HOW.out fun k hk _ => hb2'.block k hk)
        have HBR2 := Lib.hid (HBR.out.next hb2')
        have H_10 := Lib.hid K10
        obtain ⟨z_9, T_9, F_9⟩ := K9.open_
        obtain ⟨z_10, T_10, F_10⟩ := K10.open_
        have z2 := hb2'.size
        clear K9 K10 hb2'
        go_upto_region 13 with fail
        refine wp_nameE ?_
        intro w3 hw3
        have K10 : Blk w3 (wr.heap.size + 1) 78 #[.string nm, .int .u8 3, .int .i64 len, .int .i64 (ss + 1)] := by
          rw [hw3]
          have := H_10.out.set_ 3 (.int .i64 (ss + 1))
          simpa using this
        have hlo : w'.heap.size ≤ wr.heap.size := HBR.out.size
        have hB3 : Below w'.heap.size w' w3 := by rw [hw3]; exact HBR2.out.setCell (by show w'.heap.size ≤ wr.heap.size + 1; omega) _
        have HOW3 : Hid (w3.ownsRow w'.heap.size 78 4 u5 j (slotCells (slotsL (vs.take j) 0 0))) := Lib.hid (own_of_block HOW2.out fun k hk hv => by
          rw [hw3]
          exact Below.heap_setCell _ _ _ _ (by have := (own_gE HOW.out hv).2; show k ≠ wr.heap.size + 1; omega))
        clear hw3 T_9 z_9 F_9 T_10 z_10 F_10 H_10
        obtain ⟨z_10, T_10, F_10⟩ := K10.open_
        have HB3 := Lib.hid hB3
        clear K10 hB3
        go_wp2_with (at_builtin; refine wpList_append_own_at _ rfl (.tmp 42) (.tmp 44) 74 rfl w'.heap.size 78 i2 _ 4 40 Tryz.underlying74 HI.out HZ.out HS.out HBy.out rfl (by decide) _ _ _ rfl (HOW3.out.alloc _) ⟨w3.heap.size, 0, none⟩ 1 1 [.string nm, .int .u8 3, .int .i64 len, .int .i64 (ss + 1)] rfl rfl (cells4_new _ _ _ _ _ _) (by intro u hu; simp at hu; rcases hu with rfl | rfl | rfl | rfl <;> rfl) (by simp [maxLen]; omega) (by omega) (by simp; have := HB3.out.size; omega) ?_)
        intro v11 w4 hown hgr _ hat
        have hB4 : Below w'.heap.size w' w4 := (HB3.out.alloc (by have := HB3.out.size; omega) _).grown hgr (by simp; have := HB3.out.size; omega) (fun k hk => (own_gE HOW3.out hk).1)
        have HOWN : Hid (w4.ownsRow w'.heap.size 78 4 v11 (j + 1) (slotCells (slotsL (vs.take (j + 1)) 0 0))) := Lib.hid (by rw [HSN.out, slotCells_append]; simpa [slotCells] using hown)
        have HB4 := Lib.hid hB4
        clear hown hgr hat hB4
        go_wp2_with fail
        exact ⟨⟨j + 1, by omega, by go_num, by rw [HCS.out]; simp [Vr.cells], by rw [HSS.out]; simp [Vr.stk]; try omega, HOWN.out, HB4.out⟩, by simp [intOf]; omega⟩
      · have hk3' : (k == 3) = false := by simpa using hk3
        have hm1 : max len 1 = (Vr.mk nm k len).cells := by simp [Vr.cells, hk3]
        obtain ⟨mm, hmm⟩ : ∃ mm, max len 1 = mm := ⟨_, rfl⟩
        have hmb : 0 ≤ mm ∧ mm ≤ 16 := by rw [← hmm, hm1]; exact ⟨HVB.out.1, HVB.out.2.1⟩
        have hb3 : IntKind.i64.wrap (cc + mm) = cc + mm := wrap_small _ (by omega) (by omega)
        have HMM := Lib.hid hmm
        go_upto_region 8 with fail
        refine wp_nameE ?_
        intro w2 hw2
        have hb2' : Below wr.heap.size wr w2 := by rw [hw2]; exact (by go_grown)
        have K9 : Blk w2 wr.heap.size 45 #[.string nm, .int .u8 k, .int .i64 len] := by rw [hw2]; exact (by repeat' (first | assumption | exact Blk.new' (by simp) _ _ | apply Blk.alloc | apply Blk.drew))
        have K10 : Blk w2 (wr.heap.size + 1) 78 #[.string nm, .int .u8 k, .int .i64 len, .int .i64 0] := by rw [hw2]; exact Blk.new' (by simp) _ _
        clear hw2 d0 d1 d2
        have HOW2 : Hid (w2.ownsRow w'.heap.size 78 4 u5 j (slotCells (slotsL (vs.take j) 0 0))) := Lib.hid (own_of_block HOW.out fun k hk _ => hb2'.block k hk)
        have HBR2 := Lib.hid (HBR.out.next hb2')
        have H_10 := Lib.hid K10
        obtain ⟨z_9, T_9, F_9⟩ := K9.open_
        obtain ⟨z_10, T_10, F_10⟩ := K10.open_
        have z2 := hb2'.size
        clear K9 K10 hb2'
        go_upto_region 13 with fail
        refine wp_nameE ?_
        intro w3 hw3
        have K10 : Blk w3 (wr.heap.size + 1) 78 #[.string nm, .int .u8 k, .int .i64 len, .int .i64 (cc)] := by
          rw [hw3]
          have := H_10.out.set_ 3 (.int .i64 (cc))
          simpa using this
        have hlo : w'.heap.size ≤ wr.heap.size := HBR.out.size
        have hB3 : Below w'.heap.size w' w3 := by rw [hw3]; exact HBR2.out.setCell (by show w'.heap.size ≤ wr.heap.size + 1; omega) _
        have HOW3 : Hid (w3.ownsRow w'.heap.size 78 4 u5 j (slotCells (slotsL (vs.take j) 0 0))) := Lib.hid (own_of_block HOW2.out fun k hk hv => by
          rw [hw3]
          exact Below.heap_setCell _ _ _ _ (by have := (own_gE HOW.out hv).2; show k ≠ wr.heap.size + 1; omega))
        clear hw3 T_9 z_9 F_9 T_10 z_10 F_10 H_10
        obtain ⟨z_10, T_10, F_10⟩ := K10.open_
        have HB3 := Lib.hid hB3
        clear K10 hB3
        go_wp2_with (at_builtin; refine wpList_append_own_at _ rfl (.tmp 42) (.tmp 44) 74 rfl w'.heap.size 78 i2 _ 4 40 Tryz.underlying74 HI.out HZ.out HS.out HBy.out rfl (by decide) _ _ _ rfl (HOW3.out.alloc _) ⟨w3.heap.size, 0, none⟩ 1 1 [.string nm, .int .u8 k, .int .i64 len, .int .i64 (cc)] rfl rfl (cells4_new _ _ _ _ _ _) (by intro u hu; simp at hu; rcases hu with rfl | rfl | rfl | rfl <;> rfl) (by simp [maxLen]; omega) (by omega) (by simp; have := HB3.out.size; omega) ?_)
        intro v11 w4 hown hgr _ hat
        have hB4 : Below w'.heap.size w' w4 := (HB3.out.alloc (by have := HB3.out.size; omega) _).grown hgr (by simp; have := HB3.out.size; omega) (fun k hk => (own_gE HOW3.out hk).1)
        have HOWN : Hid (w4.ownsRow w'.heap.size 78 4 v11 (j + 1) (slotCells (slotsL (vs.take (j + 1)) 0 0))) := Lib.hid (by rw [HSN.out, slotCells_append]; simpa [slotCells, hk3] using hown)
        have HB4 := Lib.hid hB4
        clear hown hgr hat hB4
        go_wp2_with fail
        exact ⟨⟨j + 1, by omega, by go_num, by rw [HCS.out, ← hm1, HMM.out], by rw [HSS.out]; simp [Vr.stk, hk3], HOWN.out, HB4.out⟩, by simp [intOf]; omega⟩
    · obtain rfl : j = nv := by omega
      go_wp2_with fail
      go_ret3
      have e : vs.take j = vs := by rw [← HNV.out]; exact List.take_length
      have how := HOW.out
      rw [e] at how ⊢
      exact ⟨_, rfl, how, HBR.out⟩
theorem info_lslot : (Tryz.prog.info? 79).map (fun i => (i.zero, i.size, i.bytes)) = some (some (.agg #[.string ⟨#[]⟩, .int .u8 0, .int .i64 0, .int .i64 0]), 4, 40) := by kernel_rfl
theorem e_frame {w : World} {B : Nat} (hBw : B ≤ w.heap.size) (V : Option Addr) (nv cv : Nat) (vs : List Vr) (hv : VsAt w B V vs) (hnv : vs.length = nv) (h32 : nv ≤ 32) (hok : ∀ v ∈ vs, v.Ok) (w' : World) (hb : Below B w w') :
    Calls Tryz.prog 10 #[.slice V nv cv] w' fun e w'' => ∃ u, e = .returned (.agg #[u, .int .i64 (cellsOf vs), .int .i64 (stksOf vs)]) ∧ w''.ownsRow w'.heap.size 79 4 u nv (slotCells (slotsL vs 0 0)) ∧ Below w'.heap.size w' w'' := by
  have HV := Lib.hid hv; have HNV := Lib.hid hnv; have HB := Lib.hid hb; have HOK := Lib.hid hok
  have hll := slotsL_length vs 0 0
  rw [hnv] at hll
  obtain ⟨sl, hsl⟩ : ∃ sl, slotsL vs 0 0 = sl := ⟨_, rfl⟩
  obtain ⟨cc, hcc⟩ : ∃ cc, cellsOf vs = cc := ⟨_, rfl⟩
  obtain ⟨ss, hss⟩ : ∃ ss, stksOf vs = ss := ⟨_, rfl⟩
  have HSL := Lib.hid hsl; have HCC := Lib.hid hcc; have HSS := Lib.hid hss
  rw [hsl, hcc, hss]
  rw [hsl] at hll
  have HLL := Lib.hid hll
  clear hv hnv hb hok hsl hcc hss hll
  obtain ⟨i2, li, lz, ls, lb⟩ := info_parts info_lslot
  have HI := Lib.hid li; have HZ := Lib.hid lz; have HS := Lib.hid ls; have HBy := Lib.hid lb
  clear li lz ls lb
  go_enter Tryz.func10, Tryz.ntmps10
  go_upto_region 1 with fail
  refine wp_nameE ?_
  intro w1 hw1
  have hB1 : Below w'.heap.size w' w1 := by rw [hw1]; exact (by go_grown)
  have KR : Blk w1 w'.heap.size 41 #[.slice none 0 0, .int .i64 0, .int .i64 0] := by rw [hw1]; exact (by repeat' (first | assumption | exact Blk.new' (by simp) _ _ | apply Blk.alloc | apply Blk.drew))
  have HKR := Lib.hid KR
  have hz1 : w'.heap.size < w1.heap.size := KR.lt
  clear hw1 KR
  go_wp2_with fail
  refine (e_Slots hBw V nv cv vs HV.out HNV.out h32 HOK.out _ (HB.out.trans (hB1.mono (by have := HB.out.size; omega)))).mono ?_
  rintro e w2 ⟨u, rfl, how, hb2⟩
  rw [HSL.out] at how
  rw [HCC.out, HSS.out]
  have hB2 := hB1.next hb2
  have HOW := Lib.hid how
  replace HKR := Lib.hid (HKR.out.next hb2)
  obtain ⟨Au, cu, rfl⟩ := own_form how
  have z2 := hb2.size
  clear how hb2
  go_upto_region 3 with fail
  refine wp_nameE ?_
  intro w3 hw3
  have hb3 : Below w2.heap.size w2 w3 := by rw [hw3]; exact (by go_grown)
  have K3 : Blk w3 w2.heap.size 41 #[.slice none 0 0, .int .i64 cc, .int .i64 ss] := by rw [hw3]; exact (by repeat' (first | assumption | exact Blk.new' (by simp) _ _ | apply Blk.alloc | apply Blk.drew))
  have HK3 := Lib.hid K3
  have zz3 : w3.heap.size = w2.heap.size + 1 := by rw [hw3]; simp
  have HB3 := Lib.hid hb3
  clear hw3 K3 hb3
  go_wp2_with fail
  go_loopw [20] (fun v20 wr => ∃ (j : Nat) (q : Value), j ≤ nv ∧ v20 = .int .i64 j ∧ Blk wr w2.heap.size 41 #[q, .int .i64 cc, .int .i64 ss] ∧ wr.ownsRow (w2.heap.size + 1) 79 4 q j (slotCells (sl.take j)) ∧ Below w2.heap.size w2 wr) (fun v _ => nv - (intOf v).toNat)
  case atStart => exact ⟨0, _, Nat.zero_le _, rfl, HK3.out, ⟨rfl, .inl ⟨rfl, rfl⟩⟩, HB3.out⟩
  case round =>
    obtain ⟨j, q, hj, rfl, hk, hq, hbr⟩ := hrel
    have HK := Lib.hid hk; have HQ := Lib.hid hq; have HBR := Lib.hid hbr
    obtain ⟨Aq, cq, rfl⟩ := own_form hq
    by_cases hjn : j < nv
    · obtain ⟨v, hvj⟩ : ∃ v, sl[j]? = some v := ⟨_, List.getElem?_eq_getElem (by have := HLL.out; omega)⟩
      obtain ⟨g, cap, ev, hg1, hg2, hcp, _, hcl⟩ := own_some HOW.out (by omega)
      injection ev with ev _ ev2
      subst ev; subst ev2
      obtain ⟨t0, t1, t2, t3⟩ := slotCells_get sl j v hvj
      have d0 := (hbr.cell (p := ⟨g, j * 4, none⟩) hg2).trans (hcl _ _ t0)
      have d1 := (hbr.cell (p := ⟨g, j * 4 + 1, none⟩) hg2).trans (hcl _ _ t1)
      have d2 := (hbr.cell (p := ⟨g, j * 4 + 2, none⟩) hg2).trans (hcl _ _ t2)
      have d3 := (hbr.cell (p := ⟨g, j * 4 + 3, none⟩) hg2).trans (hcl _ _ t3)
      have htk : sl.take (j + 1) = sl.take j ++ [v] := by rw [List.take_add_one, hvj]; rfl
      have HTK := Lib.hid htk
      obtain ⟨nm, k, len, pos⟩ := v
      dsimp only at d0 d1 d2 d3
      have j0 : (0 : Int) ≤ (j : Int) := by omega
      have j1 : (j : Int) < (nv : Int) := by omega
      have zr := hk.lt
      clear hvj hk hq hbr hcl t0 t1 t2 t3 htk
      go_upto_region 6 with fail
      refine wp_nameE ?_
      intro w5 hw5
      have hb5 : Below wr.heap.size wr w5 := by rw [hw5]; exact (by go_grown)
      have K8 : Blk w5 wr.heap.size 78 #[.string nm, .int .u8 k, .int .i64 len, .int .i64 pos] := by rw [hw5]; exact (by repeat' (first | assumption | exact Blk.new' (by simp) _ _ | apply Blk.alloc | apply Blk.drew))
      have HQ5 : Hid (w5.ownsRow (w2.heap.size + 1) 79 4 (.slice Aq j cq) j (slotCells (sl.take j))) := Lib.hid (own_of_block HQ.out fun k hk _ => hb5.block k hk)
      have KF := HK.out.next hb5
      have HKF := Lib.hid KF
      have HBR5 := Lib.hid (HBR.out.next hb5)
      obtain ⟨z_8, T_8, F_8⟩ := K8.open_
      obtain ⟨z_f, T_f, F_f⟩ := KF.open_
      clear hw5 d0 d1 d2 d3 K8 KF hb5
      go_wp2_with (at_builtin; refine wpList_append_own_at _ rfl (.tmp 25) (.tmp 35) 39 rfl (w2.heap.size + 1) 79 i2 _ 4 40 Tryz.underlying39 HI.out HZ.out HS.out HBy.out rfl (by decide) _ _ _ rfl (HQ5.out.alloc _) ⟨w5.heap.size, 0, none⟩ 1 1 [.string nm, .int .u8 k, .int .i64 len, .int .i64 pos] rfl rfl (cells4_new _ _ _ _ _ _) (by intro u hu; simp at hu; rcases hu with rfl | rfl | rfl | rfl <;> rfl) (by simp [maxLen]; omega) (by omega) (by simp; omega) ?_)
      intro v11 w6 hown hgr _ hat
      obtain ⟨A11, c11, rfl⟩ := own_form hown
      have hne : ∀ k, (Value.slice Aq j cq).ownBlock = some k → w2.heap.size + 1 ≤ k := fun k hk => (own_gE HQ5.out hk).1
      have KF6 : Blk w6 w2.heap.size 41 #[.slice Aq j cq, .int .i64 cc, .int .i64 ss] := by
        have h1 : Blk (w5.alloc (.cells #[.string nm, .int .u8 k, .int .i64 len, .int .i64 pos] 79)) w2.heap.size 41 #[.slice Aq j cq, .int .i64 cc, .int .i64 ss] := HKF.out.alloc _
        exact (hgr.block _ h1.lt (fun e => by have := hne _ (by first | exact e | exact e.symm); omega)).trans h1
      have hB6 : Below w2.heap.size w2 w6 := (HBR5.out.alloc (by omega) _).grown hgr (by simp; omega) (fun k hk => by have := hne k hk; omega)
      have HOWN : Hid (w6.ownsRow (w2.heap.size + 1) 79 4 (.slice A11 (j + 1) c11) (j + 1) (slotCells (sl.take (j + 1)))) := Lib.hid (by rw [HTK.out, slotCells_append]; simpa [slotCells] using hown)
      have HKF6 := Lib.hid KF6; have HB6 := Lib.hid hB6
      clear T_8 z_8 F_8 T_f z_f F_f hown hgr hat hne hB6
      obtain ⟨z_f, T_f, F_f⟩ := KF6.open_
      clear KF6
      go_wp2_with fail
      refine ⟨⟨j + 1, .slice A11 (j + 1) c11, by omega, by go_num, ?_, own_of_block HOWN.out (fun k hk hv => Below.heap_setCell _ _ _ _ (by have := (own_gE HOWN.out hv).1; show k ≠ w2.heap.size; omega)), HB6.out.setCell (Nat.le_refl _) _⟩, by simp [intOf]; omega⟩
      have := HKF6.out.set_ 0 (.slice A11 (j + 1) c11)
      simpa using this
    · obtain rfl : j = nv := by omega
      have HBR9 := Lib.hid hbr
      have KR := HKR.out.next hbr
      obtain ⟨z_r, T_r, F_r⟩ := KR.open_
      obtain ⟨z_f, T_f, F_f⟩ := hk.open_
      clear hk hq
      have HKR2 := Lib.hid KR
      clear KR
      go_wp2_with fail
      have K9 := ((HKR2.out.set_ 0 (.slice Aq j cq)).set_ 1 (.int .i64 cc)).set_ 2 (.int .i64 ss)
      refine bodyPost_ret_by (results_cell_row rfl _ _ w'.heap.size 41 #[.slice Aq j cq, .int .i64 cc, .int .i64 ss] _ _ rfl (show Blk _ w'.heap.size 41 #[.slice Aq j cq, .int .i64 cc, .int .i64 ss] by simpa using K9) Tryz.underlying41 rfl (by kernel_rfl)) rfl ?_
      have hfin : Below w'.heap.size w' _ := ((((hB2.next HBR9.out).setCell (Nat.le_refl _) (p := ⟨w'.heap.size, 0, none⟩) (.slice Aq j cq)).setCell (Nat.le_refl _) (p := ⟨w'.heap.size, 1, none⟩) (.int .i64 cc)).setCell (Nat.le_refl _) (p := ⟨w'.heap.size, 2, none⟩) (.int .i64 ss))
      have hlo : w'.heap.size ≤ w2.heap.size := by omega
      refine ⟨.slice Aq j cq, rfl, ?_, hfin⟩
      have h9 := own_lowE HQ.out (base' := w'.heap.size) (by omega)
      have et : sl.take j = sl := by rw [← HLL.out]; exact List.take_length
      rw [et] at h9
      have hne : ∀ k, (Value.slice Aq j cq).ownBlock = some k → k ≠ w'.heap.size := fun k hk => by have := (own_gE HQ.out hk).1; omega
      refine own_of_block h9 fun k hk hv => ?_
      exact ((Below.heap_setCell _ _ _ _ (hne k hv)).trans (Below.heap_setCell _ _ _ _ (hne k hv))).trans (Below.heap_setCell _ _ _ _ (hne k hv))
end Go.Proofs.YtbijhlgdilkopaaGreatDoor

/- layout.Frame.Find where it finds; exprgen.stored of an expression whose variables all have slots. -/
set_option linter.unusedVariables false
set_option linter.unusedSimpArgs false
set_option maxRecDepth 100000
set_option maxHeartbeats 4000000
namespace Bk
open Go Go.RowKit
def slotB (nm : ByteArray) (k : Int) (s : St4) : Bool := (s.nm.toList == nm.toList) && (s.k == k)
def SlotsAt (w : World) (B : Nat) (A : Option Addr) (l : List St4) : Prop := ∀ i v, l[i]? = some v → ∃ g o, A = some ⟨g, o, none⟩ ∧ g < B ∧ w.cell? ⟨g, o + i * 4, none⟩ = some (.string v.nm) ∧ w.cell? ⟨g, o + i * 4 + 1, none⟩ = some (.int .u8 v.k) ∧ w.cell? ⟨g, o + i * 4 + 2, none⟩ = some (.int .i64 v.len) ∧ w.cell? ⟨g, o + i * 4 + 3, none⟩ = some (.int .i64 v.pos)
theorem SlotsAt.next {w w' : World} {B : Nat} {A : Option Addr} {l : List St4} (h : SlotsAt w B A l) (hb : Below B w w') : SlotsAt w' B A l := fun i v hi => by
  obtain ⟨g, o, h1, h2, h3, h4, h5, h6⟩ := h i v hi
  exact ⟨g, o, h1, h2, (hb.cell (p := ⟨g, o + i * 4, none⟩) h2).trans h3, (hb.cell (p := ⟨g, o + i * 4 + 1, none⟩) h2).trans h4, (hb.cell (p := ⟨g, o + i * 4 + 2, none⟩) h2).trans h5, (hb.cell (p := ⟨g, o + i * 4 + 3, none⟩) h2).trans h6⟩
theorem SlotsAt.own {w : World} {base : Nat} {t : TypeId} {A : Option Addr} {n cap : Nat} {l : List St4} (h : w.ownsRow base t 4 (.slice A n cap) n (slotCells l)) : SlotsAt w w.heap.size A l := fun i v hi => by
  obtain ⟨c0, c1, c2, c3⟩ := slotCells_get l i v hi
  have hl := (List.getElem?_eq_some_iff.1 hi).1
  have hn : 0 < n := by have := h.1; rw [slotCells_length] at this; omega
  obtain ⟨g, cap', e, h1, h2, _, _, hc⟩ := own_some h hn
  injection e with e
  refine ⟨g, 0, e, h2, ?_, ?_, ?_, ?_⟩
  · rw [Nat.zero_add]; exact hc _ _ c0
  · rw [Nat.zero_add]; exact hc _ _ c1
  · rw [Nat.zero_add]; exact hc _ _ c2
  · rw [Nat.zero_add]; exact hc _ _ c3
/-- All variables of an expression have slots. -/
def Ex.held (l : List St4) : Ex → Prop
  | .var s => ∃ t, l.find? (slotB s 1) = some t
  | .item s a => (∃ t, l.find? (slotB s 2) = some t) ∧ a.held l
  | .top s => ∃ t, l.find? (slotB s 3) = some t
  | .size s => ∃ t, l.find? (slotB s 3) = some t
  | .num _ => True
  | .un _ a => a.held l
  | .bin _ a b => a.held l ∧ b.held l
theorem Ex.held_kids {l : List St4} {e : Ex} (h : e.held l) : (e.vk ≠ 0 → ∃ t, l.find? (slotB e.nam e.vk) = some t) ∧ ∀ a ∈ e.kids, a.held l := by
  cases e with
  | num v => exact ⟨fun h => absurd rfl h, fun a ha => by simp [Ex.kids] at ha⟩
  | var s => exact ⟨fun _ => h, fun a ha => by simp [Ex.kids] at ha⟩
  | top s => exact ⟨fun _ => h, fun a ha => by simp [Ex.kids] at ha⟩
  | size s => exact ⟨fun _ => h, fun a ha => by simp [Ex.kids] at ha⟩
  | item s b => exact ⟨fun _ => h.1, fun a ha => by simp [Ex.kids] at ha; subst ha; exact h.2⟩
  | un op b => exact ⟨fun h => absurd rfl h, fun a ha => by simp [Ex.kids] at ha; subst ha; exact h⟩
  | bin op b c => exact ⟨fun h => absurd rfl h, fun a ha => by
      simp [Ex.kids] at ha
      rcases ha with rfl | rfl
      · exact h.1
      · exact h.2⟩
end Bk
namespace Go.Proofs.YtbijhlgdilkopaaGreatDoor
open Go.RowKit Bk
theorem results_cell_rowE {P : Program} {fn : Func} {p u : Tmp} {ty : TypeId} (h : fn.results = #[.cell p ty, .tmp u]) (tmps : Array Value) (w : World) (g : Nat) (t : TypeId) (cs : Array Value) (d : TypeDesc)
    (hp : tmps.getD p undef = .pointer (some ⟨g, 0, none⟩)) (hg : Blk w g t cs) (hu : P.underlying ty = some d) (hd : (match d with | .struct _ | .array _ _ => true | _ => false) = true) (hi : (P.info? ty).map (·.size) = some cs.size) :
    (results fn tmps).run P w = .ok (.tuple #[.agg cs, tmps.getD u undef]) w := by
  rw [results_cell_tmp h, hp]
  simp [asAddr, run_loadVar_row w g t ty cs (0, 0) d hg hu hd hi]
theorem e_Find1 (s : St4) (nm : ByteArray) (k : Int) (w : World) (b1 b2 : Nat) (h1 : w.cell? ⟨b1, 0, none⟩ = some (.string nm)) (h2 : w.cell? ⟨b2, 0, none⟩ = some (.int .u8 k)) :
    Calls Tryz.prog 68 #[.agg #[.string s.nm, .int .u8 s.k, .int .i64 s.len, .int .i64 s.pos], .pointer (some ⟨b1, 0, none⟩), .pointer (some ⟨b2, 0, none⟩)] w fun e w' => e = .returned (.bool (slotB nm k s)) ∧ Below w.heap.size w w' := by
  obtain ⟨snm, sk, sl, sp⟩ := s
  unfold slotB
  dsimp only
  have l1 := World.block_lt_of_cell? w ⟨b1, 0, none⟩ h1
  have l2 := World.block_lt_of_cell? w ⟨b2, 0, none⟩ h2
  dsimp only at l1 l2
  cases hq : (snm.toList == nm.toList)
  · go_enter Tryz.func68, Tryz.ntmps68
    go_wp2_with fail
    go_ret
    exact ⟨by simp, by go_grown⟩
  · go_enter Tryz.func68, Tryz.ntmps68
    go_wp2_with fail
    go_ret
    exact ⟨by simp, by go_grown⟩
theorem e_IndexFunc {w : World} {B : Nat} (hBw : B ≤ w.heap.size) (F : Option Addr) (nf cf : Nat) (l : List St4) (hl : SlotsAt w B F l) (hn : l.length = nf) (h32 : nf ≤ 1000000) (nm : ByteArray) (k : Int) (s : St4) (hf : l.find? (slotB nm k) = some s) (w' : World) (hb : Below B w w') (b1 b2 : Nat) (h1 : w'.cell? ⟨b1, 0, none⟩ = some (.string nm)) (h2 : w'.cell? ⟨b2, 0, none⟩ = some (.int .u8 k)) :
    Calls Tryz.prog 67 #[.slice F nf cf, .func (.func 68) #[] #[.pointer (some ⟨b1, 0, none⟩), .pointer (some ⟨b2, 0, none⟩)]] w' fun e w'' => ∃ i : Nat, e = .returned (.int .i64 (i : Int)) ∧ l[i]? = some s ∧ Below w'.heap.size w' w'' := by
  have HL := Lib.hid hl; have HN := Lib.hid hn; have HF := Lib.hid hf; have HB := Lib.hid hb
  have l1 := World.block_lt_of_cell? w' ⟨b1, 0, none⟩ h1
  have l2 := World.block_lt_of_cell? w' ⟨b2, 0, none⟩ h2
  have H1 := Lib.hid h1; have H2 := Lib.hid h2
  dsimp only at l1 l2
  clear hl hn hf hb h1 h2
  go_enter Tryz.func67, Tryz.ntmps67
  go_wp2_with fail
  go_loopw [8] (fun v8 wr => ∃ j : Nat, j ≤ nf ∧ v8 = .int .i64 j ∧ (∀ i v, i < j → l[i]? = some v → slotB nm k v = false) ∧ Below w'.heap.size w' wr) (fun v _ => nf - (intOf v).toNat)
  case atStart => exact ⟨0, Nat.zero_le _, rfl, (fun i v hi => absurd hi (Nat.not_lt_zero _)), Below.refl _ _⟩
  case round =>
    obtain ⟨j, hj, rfl, hpre, hbr⟩ := hrel
    have HP := Lib.hid hpre; have HBR := Lib.hid hbr
    clear hpre
    by_cases hjn : j < nf
    · obtain ⟨v, hvj⟩ : ∃ v, l[j]? = some v := ⟨_, List.getElem?_eq_getElem (by have := HN.out; omega)⟩
      obtain ⟨g, o, hA2, hgB, c0, c1, c2, c3⟩ := (HL.out.next HB.out) j v hvj
      subst hA2
      have hgw : g < w'.heap.size := by have := HB.out.size; omega
      have d0 := (hbr.cell (p := ⟨g, o + j * 4, none⟩) hgw).trans c0
      have d1 := (hbr.cell (p := ⟨g, o + j * 4 + 1, none⟩) hgw).trans c1
      have d2 := (hbr.cell (p := ⟨g, o + j * 4 + 2, none⟩) hgw).trans c2
      have d3 := (hbr.cell (p := ⟨g, o + j * 4 + 3, none⟩) hgw).trans c3
      have HVJ := Lib.hid hvj
      have hcall := e_Find1 v nm k wr b1 b2 ((hbr.cell (p := ⟨b1, 0, none⟩) l1).trans H1.out) ((hbr.cell (p := ⟨b2, 0, none⟩) l2).trans H2.out)
      obtain ⟨q, hq⟩ : ∃ q, slotB nm k v = q := ⟨_, rfl⟩
      rw [hq] at hcall
      have HQ := Lib.hid hq; have HCALL := Lib.hid hcall
      have j0 : (0 : Int) ≤ (j : Int) := by omega
      have j1 : (j : Int) < (nf : Int) := by omega
      clear hvj c0 c1 c2 c3 hbr hq hcall
      go_wp2_with fail
      refine HCALL.out.mono ?_
      rintro e w2 ⟨rfl, hb2⟩
      have hB2 := HBR.out.next hb2
      clear d0 d1 d2 d3
      cases q
      · go_wp2_with fail
        exact ⟨⟨j + 1, by omega, by go_num, (fun i v' hi hv' => (Nat.lt_succ_iff_lt_or_eq.1 hi).elim (fun h => HP.out i v' h hv') (fun h => by subst h; rw [HVJ.out] at hv'; injection hv' with hv'; subst hv'; exact HQ.out)), hB2⟩, by simp [intOf]; omega⟩
      · go_wp2_with fail
        go_ret
        refine ⟨j, rfl, ?_, hB2⟩
        rw [HVJ.out]
        obtain ⟨hs, pa, pb, hab, hpa⟩ := List.find?_eq_some_iff_append.1 HF.out
        have hj' : j = pa.length := by
          rcases Nat.lt_trichotomy j pa.length with h | h | h
          · have h1 : l[j]? = pa[j]? := by rw [hab, List.getElem?_append_left h]
            rw [HVJ.out] at h1
            have h2 := hpa v (List.mem_of_getElem? h1.symm)
            rw [HQ.out] at h2; simp at h2
          · exact h
          · have h1 : l[pa.length]? = some s := by rw [hab, List.getElem?_append_right (Nat.le_refl _)]; simp
            have h2 := HP.out pa.length s h h1
            rw [hs] at h2; cases h2
        have h1 : l[j]? = some s := by rw [hab, List.getElem?_append_right (by omega), hj']; simp
        rw [HVJ.out] at h1
        exact h1
    · obtain rfl : j = nf := by omega
      exfalso
      obtain ⟨hs, pa, pb, hab, hpa⟩ := List.find?_eq_some_iff_append.1 HF.out
      have h1 : l[pa.length]? = some s := by rw [hab, List.getElem?_append_right (Nat.le_refl _)]; simp
      have h2 := HP.out pa.length s (by have := (List.getElem?_eq_some_iff.1 h1).1; have := HN.out; omega) h1
      rw [hs] at h2; cases h2
theorem e_Find {w : World} {B : Nat} (hBw : B ≤ w.heap.size) (F : Option Addr) (nf cf : Nat) (cc ss : Int) (l : List St4) (hl : SlotsAt w B F l) (hn : l.length = nf) (h32 : nf ≤ 1000000) (nm : ByteArray) (k : Int) (s : St4) (hf : l.find? (slotB nm k) = some s) (w' : World) (hb : Below B w w') :
    Calls Tryz.prog 45 #[.agg #[.slice F nf cf, .int .i64 cc, .int .i64 ss], .string nm, .int .u8 k] w' fun e w'' => e = .returned (.tuple #[.agg #[.string s.nm, .int .u8 s.k, .int .i64 s.len, .int .i64 s.pos], .bool true]) ∧ Below w'.heap.size w' w'' := by
  have HL := Lib.hid hl; have HN := Lib.hid hn; have HF := Lib.hid hf; have HB := Lib.hid hb
  clear hl hn hf hb
  go_enter Tryz.func45, Tryz.ntmps45
  go_upto_region 1 with fail
  refine wp_nameE ?_
  intro w1 hw1
  have hB1 : Below w'.heap.size w' w1 := by rw [hw1]; exact (by go_grown)
  have K3 : Blk w1 w'.heap.size 41 #[.slice F nf cf, .int .i64 cc, .int .i64 ss] := by rw [hw1]; exact (by repeat' (first | assumption | exact Blk.new' (by simp) _ _ | apply Blk.alloc | apply Blk.drew))
  have K4 : Blk w1 (w'.heap.size + 1) 9 #[.string nm] := by rw [hw1]; exact (by repeat' (first | assumption | exact Blk.new' (by simp) _ _ | apply Blk.alloc | apply Blk.drew))
  have K5 : Blk w1 (w'.heap.size + 1 + 1) 5 #[.int .u8 k] := by rw [hw1]; exact (by repeat' (first | assumption | exact Blk.new' (by simp) _ _ | apply Blk.alloc | apply Blk.drew))
  have K6 : Blk w1 (w'.heap.size + 1 + 1 + 1) 79 #[.string ⟨#[]⟩, .int .u8 0, .int .i64 0, .int .i64 0] := by rw [hw1]; exact Blk.new' (by simp) _ _
  have zz : w1.heap.size = w'.heap.size + 4 := by rw [hw1]; simp
  have c4 : w1.cell? ⟨w'.heap.size + 1, 0, none⟩ = some (.string nm) := K4.cell 0
  have c5 : w1.cell? ⟨w'.heap.size + 1 + 1, 0, none⟩ = some (.int .u8 k) := K5.cell 0
  have HC4 := Lib.hid c4; have HC5 := Lib.hid c5; have HK3 := Lib.hid K3; have HK6 := Lib.hid K6
  clear hw1 c4 c5 K4 K5 K6
  obtain ⟨z_3, T_3, F_3⟩ := K3.open_
  clear K3
  go_wp2_with fail
  refine (e_IndexFunc hBw F nf cf l HL.out HN.out h32 nm k s HF.out w1 (HB.out.trans (hB1.mono (by have := HB.out.size; omega))) _ _ HC4.out HC5.out).mono ?_
  rintro e w2 ⟨i, rfl, hli, hb2⟩
  have hB2 := hB1.next hb2
  obtain ⟨g, o, hA2, hgB, c0, c1, c2, c3⟩ := (HL.out.next HB.out) i s hli
  subst hA2
  have hgw : g < w'.heap.size := by have := HB.out.size; omega
  have d0 := (hB2.cell (p := ⟨g, o + i * 4, none⟩) hgw).trans c0
  have d1 := (hB2.cell (p := ⟨g, o + i * 4 + 1, none⟩) hgw).trans c1
  have d2 := (hB2.cell (p := ⟨g, o + i * 4 + 2, none⟩) hgw).trans c2
  have d3 := (hB2.cell (p := ⟨g, o + i * 4 + 3, none⟩) hgw).trans c3
  have K3 := HK3.out.next hb2; have K6 := HK6.out.next hb2
  have HK6' := Lib.hid K6
  have hil := (List.getElem?_eq_some_iff.1 hli).1
  have hn := HN.out
  have j0 : (0 : Int) ≤ (i : Int) := by omega
  have j1 : (i : Int) < (nf : Int) := by omega
  have j2 : ¬ (i : Int) < 0 := by omega
  obtain ⟨snm, sk, sl, sp⟩ := s
  dsimp only at d0 d1 d2 d3
  clear T_3 z_3 F_3 c0 c1 c2 c3 hli hb2 hil hn
  obtain ⟨z_3, T_3, F_3⟩ := K3.open_
  obtain ⟨z_6, T_6, F_6⟩ := K6.open_
  clear K3 K6
  go_wp2_with fail
  have K9 := (((HK6'.out.set_ 0 (.string snm)).set_ 1 (.int .u8 sk)).set_ 2 (.int .i64 sl)).set_ 3 (.int .i64 sp)
  refine bodyPost_ret_by (results_cell_rowE rfl _ _ (w'.heap.size + 1 + 1 + 1) 79 #[.string snm, .int .u8 sk, .int .i64 sl, .int .i64 sp] _ rfl (show Blk _ (w'.heap.size + 1 + 1 + 1) 79 #[.string snm, .int .u8 sk, .int .i64 sl, .int .i64 sp] by simpa using K9) Tryz.underlying79 rfl (by kernel_rfl)) rfl ?_
  exact ⟨rfl, (((hB2.setCell (by show w'.heap.size ≤ w'.heap.size + 1 + 1 + 1; omega) _).setCell (by show w'.heap.size ≤ w'.heap.size + 1 + 1 + 1; omega) _).setCell (by show w'.heap.size ≤ w'.heap.size + 1 + 1 + 1; omega) _).setCell (by show w'.heap.size ≤ w'.heap.size + 1 + 1 + 1; omega) _⟩
end Go.Proofs.YtbijhlgdilkopaaGreatDoor

/- exprgen.stored of an expression whose variables all have slots. -/
set_option linter.unusedVariables false
set_option linter.unusedSimpArgs false
set_option maxRecDepth 100000
set_option maxHeartbeats 4000000
namespace Go.Proofs.YtbijhlgdilkopaaGreatDoor
open Go.RowKit Bk
theorem e_stored {w : World} {B : Nat} (hBw : B ≤ w.heap.size) (F : Option Addr) (nf cf : Nat) (cc ss : Int) (l : List St4) (hl : SlotsAt w B F l) (hln : l.length = nf) (h32 : nf ≤ 1000000) : ∀ e : Ex, e.held l → ∀ x, EV w B nameB e x → ∀ w', Below B w w' → Calls Tryz.prog 25 #[.agg #[.int .u8 x.k, .int .i64 x.num, .string x.nm, .slice x.A x.n x.cap], .agg #[.slice F nf cf, .int .i64 cc, .int .i64 ss]] w' fun en w'' => en = .returned (.bool true) ∧ Below w'.heap.size w' w'' := by
  have HL := Lib.hid hl; have HLN := Lib.hid hln
  clear hl hln
  refine Ex.ind fun e ih hheld x hx w' hb => ?_
  obtain ⟨hn, hkid⟩ := hx.kids
  have hkind := hx.kind
  obtain ⟨hh1, hh2⟩ := Ex.held_kids hheld
  obtain ⟨k, num, nm, A, n, cap⟩ := x
  have HK := Lib.hid hkid; have HB := Lib.hid hb; have HIH := Lib.hid ih; have HN := Lib.hid hn; have HKN := Lib.hid hkind; have HH1 := Lib.hid hh1; have HH2 := Lib.hid hh2
  have hn2 : n ≤ 2 := by have := e.kids_le; simp only at hn; omega
  clear hkid hb hx hn ih hkind hh1 hh2 hheld
  dsimp only at *
  go_enter Tryz.func25, Tryz.ntmps25
  go_upto_region 1 with fail
  refine wp_nameE ?_
  intro w1 hw1
  have hB1 : Below w'.heap.size w' w1 := by rw [hw1]; exact (by go_grown)
  have K1 : Blk w1 w'.heap.size 24 #[.int .u8 k, .int .i64 num, .string nm, .slice A n cap] := by rw [hw1]; exact (by repeat' (first | assumption | exact Blk.new' (by simp) _ _ | apply Blk.alloc | apply Blk.drew))
  have K2 : Blk w1 (w'.heap.size + 1) 41 #[.slice F nf cf, .int .i64 cc, .int .i64 ss] := by rw [hw1]; exact Blk.new' (by simp) _ _
  clear hw1
  have H_1 := Lib.hid K1; have H_2 := Lib.hid K2
  obtain ⟨z_1, T_1, F_1⟩ := K1.open_
  obtain ⟨z_2, T_2, F_2⟩ := K2.open_
  clear K1 K2
  rcases HKN.out with ⟨rfl, hkd, hnm⟩ | ⟨rfl, hkd, hnm⟩ | ⟨rfl, hkd, hnm⟩ | ⟨rfl, hkd, hnm⟩ | ⟨q2, q3, q4, q5, hkd⟩
  rotate_right 1
  · clear hkd
    go_wp2_with fail
    clear T_1 z_1 F_1 T_2 z_2 F_2
    go_loopw [43] (fun v43 wr => ∃ i : Nat, i ≤ n ∧ v43 = .int .i64 i ∧ Below w1.heap.size w1 wr) (fun v _ => n - (intOf v).toNat)
    case atStart => exact ⟨0, Nat.zero_le _, rfl, Below.refl _ _⟩
    case round =>
      obtain ⟨i, hi, rfl, hbr⟩ := hrel
      have hBr : Below w'.heap.size w' wr := hB1.next hbr
      have HBR := Lib.hid hbr
      have K2 := H_2.out.next hbr
      by_cases hin : i < n
      · obtain ⟨a, ha⟩ : ∃ a, e.kids[i]? = some a := ⟨_, List.getElem?_eq_getElem (by have := HN.out; omega)⟩
        obtain ⟨y, hky, hvy⟩ := HK.out i a ha
        obtain ⟨g, o, hA2, hgB, c0, c1, c2, c3⟩ := hky.cells (HB.out.trans (hBr.mono (by have := HB.out.size; omega)))
        simp only at hA2
        subst hA2
        have hcall := fun w' hb => HIH.out a (List.mem_of_getElem? ha) (HH2.out a (List.mem_of_getElem? ha)) y hvy w' hb
        have HCALL := Lib.hid hcall
        have j0 : (0 : Int) ≤ (i : Int) := by omega
        have j1 : (i : Int) < (n : Int) := by omega
        clear hky hvy ha hcall hbr
        go_upto_region 15 with fail
        refine wp_nameE ?_
        intro w3 hw3
        have hb3 : Below wr.heap.size wr w3 := by rw [hw3]; exact (by go_grown)
        have K7 : Blk w3 wr.heap.size 24 #[.int .u8 y.k, .int .i64 y.num, .string y.nm, .slice y.A y.n y.cap] := by rw [hw3]; exact (by repeat' (first | assumption | exact Blk.new' (by simp) _ _ | apply Blk.alloc | apply Blk.drew))
        replace K2 := K2.next hb3
        have hB3 := HBR.out.next hb3
        clear hw3 c0 c1 c2 c3
        obtain ⟨z_7, T_7, F_7⟩ := K7.open_
        obtain ⟨z_2, T_2, F_2⟩ := K2.open_
        clear K7 K2
        go_wp2_with fail
        refine (HCALL.out w3 (HB.out.trans ((hBr.next hb3).mono (by have := HB.out.size; omega)))).mono ?_
        rintro en w4 ⟨rfl, hb4⟩
        clear T_7 z_7 F_7 T_2 z_2 F_2
        go_wp2_with fail
        exact ⟨⟨i + 1, by omega, by go_num, hB3.next hb4⟩, by simp [intOf]; omega⟩
      · obtain rfl : i = n := by omega
        go_wp2_with fail
        go_ret
        exact ⟨rfl, hBr⟩
  all_goals
    obtain ⟨s, hs⟩ := HH1.out (by rw [hkd]; decide)
    rw [← hnm, hkd] at hs
    have HF := Lib.hid (e_Find hBw F nf cf cc ss l HL.out HLN.out h32 nm _ s hs _ (HB.out.trans (hB1.mono (by have := HB.out.size; omega))))
    clear hs hkd hnm
    go_wp2_with fail
    refine HF.out.mono ?_
    rintro en w2 ⟨rfl, hb2⟩
    have HB2 := Lib.hid hb2
    replace H_1 := Lib.hid (H_1.out.next hb2)
    replace H_2 := Lib.hid (H_2.out.next hb2)
    clear T_1 z_1 F_1 T_2 z_2 F_2 HF
    have K1 := H_1.out
    obtain ⟨z_1, T_1, F_1⟩ := K1.open_
    clear K1
    go_wp2_with fail
    clear T_1 z_1 F_1
    go_loopw [43] (fun v43 wr => ∃ i : Nat, i ≤ n ∧ v43 = .int .i64 i ∧ Below w2.heap.size w2 wr) (fun v _ => n - (intOf v).toNat)
    case atStart => exact ⟨0, Nat.zero_le _, rfl, Below.refl _ _⟩
    case round =>
      obtain ⟨i, hi, rfl, hbr⟩ := hrel
      have hBr : Below w'.heap.size w' wr := (hB1.next HB2.out).next hbr
      have HBR := Lib.hid hbr
      have K2 := H_2.out.next hbr
      by_cases hin : i < n
      · obtain ⟨a, ha⟩ : ∃ a, e.kids[i]? = some a := ⟨_, List.getElem?_eq_getElem (by have := HN.out; omega)⟩
        obtain ⟨y, hky, hvy⟩ := HK.out i a ha
        obtain ⟨g, o, hA2, hgB, c0, c1, c2, c3⟩ := hky.cells (HB.out.trans (hBr.mono (by have := HB.out.size; omega)))
        simp only at hA2
        subst hA2
        have hcall := fun w' hb => HIH.out a (List.mem_of_getElem? ha) (HH2.out a (List.mem_of_getElem? ha)) y hvy w' hb
        have HCALL := Lib.hid hcall
        have j0 : (0 : Int) ≤ (i : Int) := by omega
        have j1 : (i : Int) < (n : Int) := by omega
        clear hky hvy ha hcall hbr
        go_upto_region 15 with fail
        refine wp_nameE ?_
        intro w3 hw3
        have hb3 : Below wr.heap.size wr w3 := by rw [hw3]; exact (by go_grown)
        have K7 : Blk w3 wr.heap.size 24 #[.int .u8 y.k, .int .i64 y.num, .string y.nm, .slice y.A y.n y.cap] := by rw [hw3]; exact (by repeat' (first | assumption | exact Blk.new' (by simp) _ _ | apply Blk.alloc | apply Blk.drew))
        replace K2 := K2.next hb3
        have hB3 := HBR.out.next hb3
        clear hw3 c0 c1 c2 c3
        obtain ⟨z_7, T_7, F_7⟩ := K7.open_
        obtain ⟨z_2, T_2, F_2⟩ := K2.open_
        clear K7 K2
        go_wp2_with fail
        refine (HCALL.out w3 (HB.out.trans ((hBr.next hb3).mono (by have := HB.out.size; omega)))).mono ?_
        rintro en w4 ⟨rfl, hb4⟩
        clear T_7 z_7 F_7 T_2 z_2 F_2
        go_wp2_with fail
        exact ⟨⟨i + 1, by omega, by go_num, hB3.next hb4⟩, by simp [intOf]; omega⟩
      · obtain rfl : i = n := by omega
        go_wp2_with fail
        go_ret
        exact ⟨rfl, hBr⟩
end Go.Proofs.YtbijhlgdilkopaaGreatDoor
