/- EgS EgV NmA NmB Grow. -/
import Derived.Test.YtakfdnnlhjhcfaaGreatDoorZEgI
import Derived.BigRegion
set_option linter.unusedVariables false
set_option linter.unusedSimpArgs false
set_option linter.unusedSimpArgs false
set_option maxRecDepth 100000
set_option maxHeartbeats 4000000
namespace Bk
open Go Go.RowKit
def Ex.kids : Ex → List Ex
  | .item _ a => [a]
  | .un _ a => [a]
  | .bin _ a b => [a, b]
  | _ => []
def Ex.sz : Ex → Nat
  | .item _ a => 1 + a.sz
  | .un _ a => 1 + a.sz
  | .bin _ a b => 1 + (a.sz + b.sz)
  | _ => 1
def Ex.dp : Ex → Nat
  | .item _ a => a.dp + 1
  | .un _ a => a.dp + 1
  | .bin _ a b => max a.dp b.dp + 1
  | _ => 1
theorem Ex.ind {P : Ex → Prop} (h : ∀ e, (∀ k ∈ e.kids, P k) → P e) : ∀ e, P e := by
  intro e
  induction e with
  | num v => exact h _ (by simp [Ex.kids])
  | var s => exact h _ (by simp [Ex.kids])
  | top s => exact h _ (by simp [Ex.kids])
  | size s => exact h _ (by simp [Ex.kids])
  | item s a ih => exact h _ (by simpa [Ex.kids] using ih)
  | un op a ih => exact h _ (by simpa [Ex.kids] using ih)
  | bin op a b iha ihb => exact h _ (by simp [Ex.kids]; exact ⟨iha, ihb⟩)
theorem EV.kids {w : World} {B : Nat} {nb : ByteArray → Bool} {e : Ex} {x : Nd} (h : EV w B nb e x) : x.n = e.kids.length ∧ ∀ i a, e.kids[i]? = some a → ∃ y, Kid w B x i y ∧ EV w B nb a y := by
  cases e with
  | num v => exact ⟨h.2.2.2.2, fun i a ha => by simp [Ex.kids] at ha⟩
  | var s => exact ⟨h.2.2.2.2, fun i a ha => by simp [Ex.kids] at ha⟩
  | top s => exact ⟨h.2.2.2.2, fun i a ha => by simp [Ex.kids] at ha⟩
  | size s => exact ⟨h.2.2.2.2, fun i a ha => by simp [Ex.kids] at ha⟩
  | item s b =>
    obtain ⟨_, _, _, _, h5, y, h6, h7⟩ := h
    exact ⟨h5, fun i a ha => by rcases i with _ | i <;> simp [Ex.kids] at ha; subst ha; exact ⟨y, h6, h7⟩⟩
  | un op b =>
    obtain ⟨_, _, _, _, h5, y, h6, h7⟩ := h
    exact ⟨h5, fun i a ha => by rcases i with _ | i <;> simp [Ex.kids] at ha; subst ha; exact ⟨y, h6, h7⟩⟩
  | bin op b c =>
    obtain ⟨_, _, _, _, h5, y, z, h6, h7, h8, h9⟩ := h
    exact ⟨h5, fun i a ha => by
      rcases i with _ | _ | i <;> simp [Ex.kids] at ha
      · subst ha; exact ⟨y, h6, h8⟩
      · subst ha; exact ⟨z, h7, h9⟩⟩
theorem Kid.cells {w w' : World} {B i : Nat} {x y : Nd} (h : Kid w B x i y) (hb : Below B w w') : ∃ g o, x.A = some ⟨g, o, none⟩ ∧ g < B ∧ w'.cell? ⟨g, o + i * 4, none⟩ = some (.int .u8 y.k) ∧ w'.cell? ⟨g, o + i * 4 + 1, none⟩ = some (.int .i64 y.num) ∧ w'.cell? ⟨g, o + i * 4 + 2, none⟩ = some (.string y.nm) ∧ w'.cell? ⟨g, o + i * 4 + 3, none⟩ = some (.slice y.A y.n y.cap) := by
  obtain ⟨g, o, h1, h2, h3⟩ := h.next hb
  exact ⟨g, o, h1, h2, h3 0 _ rfl, h3 1 _ rfl, h3 2 _ rfl, h3 3 _ rfl⟩
end Bk
namespace Go.Proofs.YtakfdnnlhjhcfaaGreatDoor
open Go.RowKit Bk
end Go.Proofs.YtakfdnnlhjhcfaaGreatDoor
namespace Bk
open Go Go.RowKit
structure Vr where
  nm : ByteArray
  k : Int
  len : Int
def varCells (l : List Vr) : List Value := l.flatMap fun v => [.string v.nm, .int .u8 v.k, .int .i64 v.len]
theorem varCells_length (l : List Vr) : (varCells l).length = l.length * 3 := by
  induction l with
  | nil => rfl
  | cons a l ih => simp [varCells] at ih ⊢; omega
theorem varCells_get (l : List Vr) : ∀ i v, l[i]? = some v → (varCells l)[i * 3]? = some (.string v.nm) ∧ (varCells l)[i * 3 + 1]? = some (.int .u8 v.k) ∧ (varCells l)[i * 3 + 2]? = some (.int .i64 v.len) := by
  induction l with
  | nil => intro i v h; simp at h
  | cons a l ih =>
    intro i v h
    cases i with
    | zero => simp at h; subst h; exact ⟨rfl, rfl, rfl⟩
    | succ i =>
      have := ih i v (by simpa using h)
      have e : (i + 1) * 3 = i * 3 + 1 + 1 + 1 := by omega
      rw [e]
      exact this
def VsAt (w : World) (B : Nat) (A : Option Addr) (l : List Vr) : Prop := ∀ i v, l[i]? = some v → ∃ g o, A = some ⟨g, o, none⟩ ∧ g < B ∧ w.cell? ⟨g, o + i * 3, none⟩ = some (.string v.nm) ∧ w.cell? ⟨g, o + i * 3 + 1, none⟩ = some (.int .u8 v.k) ∧ w.cell? ⟨g, o + i * 3 + 2, none⟩ = some (.int .i64 v.len)
theorem VsAt.next {w w' : World} {B : Nat} {A : Option Addr} {l : List Vr} (h : VsAt w B A l) (hb : Below B w w') : VsAt w' B A l := fun i v hi => by
  obtain ⟨g, o, h1, h2, h3, h4, h5⟩ := h i v hi
  exact ⟨g, o, h1, h2, (hb.cell (p := ⟨g, o + i * 3, none⟩) h2).trans h3, (hb.cell (p := ⟨g, o + i * 3 + 1, none⟩) h2).trans h4, (hb.cell (p := ⟨g, o + i * 3 + 2, none⟩) h2).trans h5⟩
def Ex.vk : Ex → Int
  | .var _ => 1
  | .item _ _ => 2
  | .top _ => 3
  | .size _ => 3
  | _ => 0
def Ex.nam : Ex → ByteArray
  | .var s => s
  | .item s _ => s
  | .top s => s
  | .size s => s
  | _ => ByteArray.empty
def Ex.known (vs : List Vr) : Ex → Prop
  | .var s => ∃ v ∈ vs, v.nm = s ∧ v.k = 1
  | .item s a => (∃ v ∈ vs, v.nm = s ∧ v.k = 2) ∧ a.known vs
  | .top s => ∃ v ∈ vs, v.nm = s ∧ v.k = 3
  | .size s => ∃ v ∈ vs, v.nm = s ∧ v.k = 3
  | .num _ => True
  | .un _ a => a.known vs
  | .bin _ a b => a.known vs ∧ b.known vs
theorem EV.kind {w : World} {B : Nat} {nb : ByteArray → Bool} {e : Ex} {x : Nd} (h : EV w B nb e x) : (x.k = 2 ∧ e.vk = 1 ∧ x.nm = e.nam) ∨ (x.k = 3 ∧ e.vk = 2 ∧ x.nm = e.nam) ∨ (x.k = 4 ∧ e.vk = 3 ∧ x.nm = e.nam) ∨ (x.k = 5 ∧ e.vk = 3 ∧ x.nm = e.nam) ∨ ((x.k == 2) = false ∧ (x.k == 3) = false ∧ (x.k == 4) = false ∧ (x.k == 5) = false ∧ e.vk = 0) := by
  cases e with
  | num v => have := h.1; exact .inr (.inr (.inr (.inr (by rw [this]; exact ⟨rfl, rfl, rfl, rfl, rfl⟩))))
  | var s => exact .inl ⟨h.1, rfl, h.2.2.1⟩
  | item s a => exact .inr (.inl ⟨h.1, rfl, h.2.2.1⟩)
  | top s => exact .inr (.inr (.inl ⟨h.1, rfl, h.2.2.1⟩))
  | size s => exact .inr (.inr (.inr (.inl ⟨h.1, rfl, h.2.2.1⟩)))
  | un op a => have h1 := h.1; have h2 := h.2.1; exact .inr (.inr (.inr (.inr ⟨by simp; omega, by simp; omega, by simp; omega, by simp; omega, rfl⟩)))
  | bin op a b => have h1 := h.1; have h2 := h.2.1; exact .inr (.inr (.inr (.inr ⟨by simp; omega, by simp; omega, by simp; omega, by simp; omega, rfl⟩)))
end Bk
namespace Go.Proofs.YtakfdnnlhjhcfaaGreatDoor
section
open Go.RowKit Bk
end
section
open Go.RowKit Bk
def LimOk (w : World) (B : Nat) (y : Nd) (R : Nat → Nat → Bool → Nat → Prop) : Prop :=
  ∀ dp lf : Nat, dp ≤ 1000 → lf ≤ 1000000 → ∀ (w' : World) (bl : Nat), Below B w w' → B ≤ bl → Blk w' bl 3 #[.int .i64 (lf : Int)] →
    Calls Tryz.prog 53 #[.agg #[.int .u8 y.k, .int .i64 y.num, .string y.nm, .slice y.A y.n y.cap], .int .i64 (dp : Int), .pointer (some ⟨bl, 0, none⟩)] w' fun en w'' => ∃ (b : Bool) (lf' : Nat), en = .returned (.bool b) ∧ lf' ≤ lf ∧ R dp lf b lf' ∧ Blk w'' bl 3 #[.int .i64 (lf' : Int)] ∧ Fr (fun k => k = bl) w' w''
theorem e_limN {w : World} {B : Nat} (hBw : B ≤ w.heap.size) (x : Nd) (hn : x.n ≤ 9223372036854775807) {R : Nat → Nat → Bool → Nat → Prop} {Rk : Nat → Nat → Nat → Bool → Nat → Prop} {I : Nat → Nat → Nat → Nat → Prop}
    (hkid : ∀ i, i < x.n → ∃ y, Kid w B x i y ∧ LimOk w B y (Rk i))
    (hz : ∀ dp lf, dp = 0 ∨ lf = 0 → R dp lf false lf)
    (h0 : ∀ dp lf, I (dp + 1) (lf + 1) 0 lf)
    (hs : ∀ dp lf j c c', j < x.n → I (dp + 1) lf j c → Rk j dp c true c' → I (dp + 1) lf (j + 1) c')
    (hf : ∀ dp lf j c c', j < x.n → I (dp + 1) lf j c → Rk j dp c false c' → R (dp + 1) lf false c')
    (ht : ∀ dp lf c, I (dp + 1) lf x.n c → R (dp + 1) lf true c) : LimOk w B x R := by
  intro dp lf hdp hlf w' bl hb hbl hk
  obtain ⟨k, num, nm, A, n, cap⟩ := x
  have HB := Lib.hid hb; have HK := Lib.hid hk; have HKID := Lib.hid hkid
  have HZ := Lib.hid hz; have H0 := Lib.hid h0; have HS := Lib.hid hs; have HF := Lib.hid hf; have HTT := Lib.hid ht
  have hbw := hk.lt
  have hBw' : B ≤ w'.heap.size := by have := hb.size; omega
  dsimp only at *
  clear hb hkid hz h0 hs hf ht
  obtain ⟨z_k, T_k, F_k⟩ := hk.open_
  clear hk
  by_cases hd0 : dp = 0
  · subst hd0
    go_enter Tryz.func53, Tryz.ntmps53
    go_wp2_with fail
    go_ret
    exact ⟨false, lf, rfl, Nat.le_refl _, HZ.out 0 lf (.inl rfl), HK.out.next (by go_grown), Fr.of (by go_grown)⟩
  have hd1 : ((dp : Int) == 0) = false := by simpa using hd0
  by_cases hl0 : lf = 0
  · subst hl0
    go_enter Tryz.func53, Tryz.ntmps53
    go_wp2_with fail
    go_ret
    exact ⟨false, 0, rfl, Nat.le_refl _, HZ.out dp 0 (.inr rfl), HK.out.next (by go_grown), Fr.of (by go_grown)⟩
  have hl1 : ((lf : Int) == 0) = false := by simpa using hl0
  obtain ⟨d1, rfl⟩ : ∃ d1, dp = d1 + 1 := ⟨dp - 1, by omega⟩
  obtain ⟨l1, rfl⟩ : ∃ l1, lf = l1 + 1 := ⟨lf - 1, by omega⟩
  have hw1 : IntKind.i64.wrap (((l1 + 1 : Nat) : Int) - 1) = (l1 : Int) := by rw [wrap_small _ (by omega) (by omega)]; omega
  have hw2 : IntKind.i64.wrap (((d1 + 1 : Nat) : Int) - 1) = (d1 : Int) := by rw [wrap_small _ (by omega) (by omega)]; omega
  obtain ⟨di, hdi⟩ : ∃ di : Int, ((d1 + 1 : Nat) : Int) = di := ⟨_, rfl⟩
  obtain ⟨li, hli⟩ : ∃ li : Int, ((l1 + 1 : Nat) : Int) = li := ⟨_, rfl⟩
  rw [hdi] at hd1 hw2 ⊢
  rw [hli] at hl1 hw1 T_k HK
  clear hdi hli
  go_enter Tryz.func53, Tryz.ntmps53
  go_upto_region 4 with fail
  refine wp_nameE ?_
  intro w1 hw
  have K1 : Blk w1 w'.heap.size 26 #[.int .u8 k, .int .i64 num, .string nm, .slice A n cap] := by rw [hw]; exact (by repeat' (first | assumption | exact Blk.new' (by simp) _ _ | apply Blk.alloc | apply Blk.drew))
  have KL : Blk w1 bl 3 #[.int .i64 (l1 : Int)] := by rw [hw]; exact Blk.next (show Blk (w'.setCell ⟨bl, 0, none⟩ (.int .i64 (l1 : Int))) bl 3 #[.int .i64 (l1 : Int)] by simpa using HK.out.set_ 0 (.int .i64 (l1 : Int))) ((Below.refl _ _).alloc (Nat.le_refl _) _)
  have hF1 : Fr (fun k => k = bl) w' w1 := by rw [hw]; exact (Fr.set (O := fun k => k = bl) (Fr.refl _ _) (show bl = bl from rfl) _).alloc _
  have HKL := Lib.hid KL; have HF1 := Lib.hid hF1
  have hz1 : w'.heap.size < w1.heap.size := K1.lt
  clear T_k z_k F_k hw KL hF1 hd0 hl0 hd1 hl1 HK
  obtain ⟨z_1, T_1, F_1⟩ := K1.open_
  clear K1
  go_wp2_with fail
  clear T_1 z_1 F_1
  go_loopw [25] (fun v25 wr => ∃ (j c : Nat), j ≤ n ∧ v25 = .int .i64 j ∧ c ≤ l1 ∧ I (d1 + 1) (l1 + 1) j c ∧ Blk wr bl 3 #[.int .i64 (c : Int)] ∧ Fr (fun k => k = bl) w' wr) (fun v _ => n - (intOf v).toNat)
  case atStart => exact ⟨0, l1, Nat.zero_le _, rfl, Nat.le_refl _, H0.out d1 l1, HKL.out, HF1.out⟩
  case round =>
    obtain ⟨j, c, hj, rfl, hc, hI, hkl, hfr⟩ := hrel
    have HI := Lib.hid hI; have HKR := Lib.hid hkl; have HFR := Lib.hid hfr
    have hBr : Below B w wr := HB.out.trans (hfr.below hBw' (fun k hk => hk ▸ hbl))
    have HBR := Lib.hid hBr
    have hzr := hfr.size
    clear hI hkl hfr hBr
    by_cases hjn : j < n
    · obtain ⟨y, hky, hoy⟩ := HKID.out j hjn
      obtain ⟨g, o, hA2, hgB, c0, c1, c2, c3⟩ := hky.cells HBR.out
      simp only at hA2
      subst hA2
      have HOY := Lib.hid hoy
      have j0 : (0 : Int) ≤ (j : Int) := by omega
      have j1 : (j : Int) < (n : Int) := by omega
      clear hky hoy
      go_upto_region 7 with fail
      refine wp_nameE ?_
      intro w2 hw
      have hb2 : Below wr.heap.size wr w2 := by rw [hw]; exact (by go_grown)
      have K2 : Blk w2 wr.heap.size 26 #[.int .u8 y.k, .int .i64 y.num, .string y.nm, .slice y.A y.n y.cap] := by rw [hw]; exact (by repeat' (first | assumption | exact Blk.new' (by simp) _ _ | apply Blk.alloc | apply Blk.drew))
      have HB2 := Lib.hid hb2
      clear hw c0 c1 c2 c3 hb2
      obtain ⟨z_2, T_2, F_2⟩ := K2.open_
      clear K2
      go_wp2_with fail
      refine (HOY.out d1 c (by omega) (by omega) w2 bl (HBR.out.trans (HB2.out.mono (by omega))) hbl (HKR.out.next HB2.out)).mono ?_
      rintro en w3 ⟨b, c', rfl, hc', hR, hkl, hfr⟩
      have HR := Lib.hid hR; have HK3 := Lib.hid hkl
      have HF3 := Lib.hid ((HFR.out.next HB2.out).trans hfr)
      clear T_2 z_2 F_2 hR hkl hfr
      cases b with
      | false =>
        go_wp2_with fail
        go_ret
        exact ⟨false, c', rfl, by omega, HF.out d1 (l1 + 1) j c c' hjn HI.out HR.out, HK3.out, HF3.out⟩
      | true =>
        go_wp2_with fail
        exact ⟨⟨j + 1, c', by omega, by go_num, by omega, HS.out d1 (l1 + 1) j c c' hjn HI.out HR.out, HK3.out, HF3.out⟩, by simp [intOf]; omega⟩
    · obtain rfl : j = n := by omega
      go_wp2_with fail
      go_ret
      exact ⟨true, c, rfl, by omega, HTT.out d1 (l1 + 1) c HI.out, HKR.out, HFR.out⟩
def sumTo (s : Nat → Nat) : Nat → Nat
  | 0 => 0
  | n + 1 => sumTo s n + s n
def maxTo (d : Nat → Nat) : Nat → Nat
  | 0 => 0
  | n + 1 => max (maxTo d n) (d n)
theorem sumTo_le {s : Nat → Nat} {j n : Nat} (h : j ≤ n) : sumTo s j ≤ sumTo s n := by
  induction h with
  | refl => exact Nat.le_refl _
  | step _ ih => exact Nat.le_trans ih (by simp [sumTo])
theorem maxTo_le {d : Nat → Nat} {j n : Nat} (h : j ≤ n) : maxTo d j ≤ maxTo d n := by
  induction h with
  | refl => exact Nat.le_refl _
  | step _ ih => exact Nat.le_trans ih (by simp only [maxTo]; omega)
end
section
open Go.RowKit Bk
def allTo (r : Nat → Bool) : Nat → Bool
  | 0 => true
  | n + 1 => allTo r n && r n
theorem allTo_false {r : Nat → Bool} {j n : Nat} (h : j < n) (hr : r j = false) : allTo r n = false := by
  induction n with
  | zero => omega
  | succ n ih =>
    simp only [allTo]
    by_cases e : j = n
    · subst e; rw [hr, Bool.and_false]
    · rw [ih (by omega), Bool.false_and]
theorem e_kidsG {w : World} {B : Nat} (hBw : B ≤ w.heap.size) (x : Nd) (m : Nat) (hn : x.n = m) (hm : m ≤ 1000) (fn : Nat → FuncId) (r : Nat → Bool) (heg : ∀ i, i < m → ∀ args W, (callFunc (fn i) args).run Tryz.prog W = .ok (.enter (fn i) args) W)
    (hkid : ∀ i, i < m → ∃ y, Kid w B x i y ∧ ∀ W, Below B w W → Calls Tryz.prog (fn i) #[.agg #[.int .u8 y.k, .int .i64 y.num, .string y.nm, .slice y.A y.n y.cap]] W fun en w'' => en = .returned (.bool (r i)) ∧ Below W.heap.size W w'') (w' : World) (hb : Below B w w') (h : Nat) (t : TypeId) (fs : Array Value) (hf : Blk w' h t fs) (hfs : ∀ i, i < m → fs[i]? = some (.func (.func (fn i)) #[] #[])) :
    Calls Tryz.prog 120 #[.agg #[.int .u8 x.k, .int .i64 x.num, .string x.nm, .slice x.A x.n x.cap], .slice (some ⟨h, 0, none⟩) m m] w' fun en w'' => en = .returned (.bool (allTo r m)) ∧ Below w'.heap.size w' w'' := by
  obtain ⟨k, num, nm, A, n, cap⟩ := x
  have HK := Lib.hid hkid; have HB := Lib.hid hb; have HF := Lib.hid hf; have HFS := Lib.hid hfs; have HEG := Lib.hid heg
  have hlt := hf.lt
  have HAF : Hid (∀ j, j < m → r j = false → allTo r m = false) := Lib.hid fun j h1 h2 => allTo_false h1 h2
  obtain ⟨rr, hrr⟩ : ∃ rr, allTo r m = rr := ⟨_, rfl⟩
  have HRR := Lib.hid hrr
  dsimp only at *
  rw [hrr] at HAF ⊢
  have hn' : ((n : Int) != (m : Int)) = false := by simp; omega
  have HN := Lib.hid hn
  clear hkid hb hf hfs hrr hn heg
  go_enter Tryz.func120, Tryz.ntmps120
  go_upto_region 1 with fail
  refine wp_nameE ?_
  intro w1 hw1
  have hB1 : Below w'.heap.size w' w1 := by rw [hw1]; exact (by go_grown)
  have K1 : Blk w1 w'.heap.size 26 #[.int .u8 k, .int .i64 num, .string nm, .slice A n cap] := by rw [hw1]; exact (by repeat' (first | assumption | exact Blk.new' (by simp) _ _ | apply Blk.alloc | apply Blk.drew))
  clear hw1
  obtain ⟨z_1, T_1, F_1⟩ := K1.open_; have H_1 := Lib.hid K1; clear K1
  go_wp2_with fail
  clear T_1 z_1 F_1
  go_loopw [15] (fun v15 wr => ∃ j : Nat, j ≤ m ∧ v15 = .int .i64 j ∧ allTo r j = true ∧ Below w1.heap.size w1 wr) (fun v _ => m - (intOf v).toNat)
  case atStart => exact ⟨0, Nat.zero_le _, rfl, rfl, Below.refl _ _⟩
  case round =>
    obtain ⟨j, hj, rfl, hall, hbr⟩ := hrel
    have HBR := Lib.hid hbr; have HALL := Lib.hid hall
    have hBr : Below w'.heap.size w' wr := hB1.next hbr
    clear hbr hall
    by_cases hjm : j < m
    · obtain ⟨y, hky, hoy⟩ := HK.out j hjm
      obtain ⟨g, o, hA2, hgB, c0, c1, c2, c3⟩ := hky.cells (HB.out.trans (hBr.mono (by have := HB.out.size; omega)))
      simp only at hA2
      subst hA2
      have HOY := Lib.hid hoy
      have K2 := H_1.out.next HBR.out
      obtain ⟨z_2, T_2, F_2⟩ := K2.open_
      have cf : wr.cell? ⟨h, j, none⟩ = some (.func (.func (fn j)) #[] #[]) := ((HF.out.next hBr).cell j).trans (HFS.out j hjm)
      have j0 : (0 : Int) ≤ (j : Int) := by omega
      have j1 : (j : Int) < (m : Int) := by omega
      have j2 : (j : Int) < (n : Int) := by have := HN.out; omega
      have eg' := HEG.out j hjm
      obtain ⟨fj, hfj⟩ : ∃ fj, fn j = fj := ⟨_, rfl⟩
      rw [hfj] at cf eg' HOY
      clear hky hoy K2 hfj
      go_wp2_with fail
      refine (HOY.out _ (HB.out.trans (hBr.mono (by have := HB.out.size; omega)))).mono ?_
      rintro en w2 ⟨rfl, hb2⟩
      obtain ⟨rj, hrj⟩ : ∃ rj, r j = rj := ⟨_, rfl⟩
      have HRJ := Lib.hid hrj
      have HB3 := Lib.hid (HBR.out.next hb2)
      rw [hrj]
      clear T_2 z_2 F_2 cf c0 c1 c2 c3 hrj
      cases rj with
      | false =>
        obtain rfl : rr = false := HAF.out j hjm HRJ.out
        go_wp2_with fail
        go_ret
        exact ⟨rfl, hBr.next hb2⟩
      | true =>
        go_wp2_with fail
        exact ⟨⟨j + 1, by omega, by go_num, by simp only [allTo]; rw [HALL.out, HRJ.out]; rfl, HB3.out⟩, by simp [intOf]; omega⟩
    · obtain rfl : j = m := by omega
      obtain rfl : rr = true := by rw [← HRR.out]; exact HALL.out
      go_wp2_with fail
      go_ret
      exact ⟨rfl, hBr⟩
end
end Go.Proofs.YtakfdnnlhjhcfaaGreatDoor
namespace Bk
open Go Go.RowKit
structure Grw (w : World) where
  out : World
  below : Below w.heap.size w out
def grow (w : World) (z : Grw w) : World := z.out
theorem grow_below (w : World) (z : Grw w) : Below w.heap.size w (grow w z) := z.below
section
variable {P : Program} {f : FuncId} {args : Array Value} {w : World} {z : Grw w} {v : Value}
theorem quiet_grow (h : Calls P f args (grow w z) fun e w' => e = .returned v ∧ Below (grow w z).heap.size (grow w z) w') : Calls P f args (grow w z) fun e w'' => e = .returned v ∧ ∃ z' : Grw w, w'' = grow w z' :=
  h.mono fun _ w' ⟨he, hb⟩ => ⟨he, ⟨w', z.below.next hb⟩, rfl⟩
end
theorem wp_region_grow {P : Program} {id : Nat} {Q : Exit → Act → World → Prop} {a : Act} {w : World} {l : List Oper} (hm : P.follows .mixedOrders = true) (hB : Region.lexB .any l.toArray = true)
    (h : ∀ W, W = w → wpQuiet P l.toArray (fun w' => ∃ z : Grw W, w' = grow W z) (fun a' => ∀ w', (∃ z : Grw W, w' = grow W z) → Q .normal a' w') l a) : (Code.region id l.toArray true).wp P Q a w :=
  wp_region_quiet (C := fun w' => ∃ z : Grw w, w' = grow w z) hm hB ⟨⟨{ w with drawn := w.drawn + 1 }, (Below.refl _ _).drew⟩, rfl⟩ (by simpa using h w rfl)
end Bk
