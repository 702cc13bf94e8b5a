/- WhJl WhJm WhJn WhJv. -/
import Derived.Test.YtakfdnnlhjhcfaaGreatDoorZWhJk
import Derived.Laws.BytesArg
import Derived.Test.YtakfdnnlhjhcfaaGreatDoorZWhJu
set_option linter.unusedVariables false
set_option linter.unusedSimpArgs false
set_option linter.unusedSimpArgs false
set_option maxRecDepth 100000
set_option maxHeartbeats 4000000
namespace Bk
open Go Go.RowKit
def numV : Value → Int
 | .int _ x => x
 | _ => 0
theorem bysTo_num (x : Int) (s : Nat) : ∀ j (u : Value), u ∈ bysTo x s j → u = .int .u8 (numV u)
 | 0, u, h => by simp [bysTo] at h
 | j + 1, u, h => by
  simp only [bysTo, List.mem_append, List.mem_singleton] at h
  rcases h with h | h
  · exact bysTo_num x s j u h
  · subst h; rfl
theorem lisTo_num (l : List Int) : ∀ j (u : Value), u ∈ lisTo l j → u = .int .u8 (numV u)
 | 0, u, h => by simp [lisTo] at h
 | j + 1, u, h => by
  simp only [lisTo, List.mem_append] at h
  rcases h with h | h
  · exact lisTo_num l j u h
  · exact bysTo_num _ _ _ _ h
theorem encTo_num (vs : List Vr) (cs : List (List Int)) : ∀ j (u : Value), u ∈ encTo vs cs j → u = .int .u8 (numV u)
 | 0, u, h => by simp [encTo] at h
 | j + 1, u, h => by
  simp only [encTo, List.mem_append] at h
  rcases h with (h | h) | h
  · exact encTo_num vs cs j u h
  · split at h
    · exact bysTo_num _ _ _ _ h
    · simp at h
  · exact lisTo_num _ _ _ h
theorem encS_num {vs : List Vr} {cs : List (List Int)} {inp out : List Int} (u : Value) (h : u ∈ encS vs cs inp out) : u = .int .u8 (numV u) := by
 simp only [encS, List.mem_append] at h
 rcases h with (((h | h) | h) | h) | h
 · exact encTo_num _ _ _ _ h
 · exact bysTo_num _ _ _ _ h
 · exact lisTo_num _ _ _ h
 · exact bysTo_num _ _ _ _ h
 · exact lisTo_num _ _ _ h
theorem encS_pos (vs : List Vr) (cs : List (List Int)) (inp out : List Int) : 0 < (encS vs cs inp out).length := by
 simp only [encS, List.length_append, bysTo_len]; omega
def bytS (vs : List Vr) (cs : List (List Int)) (inp out : List Int) : ByteArray := ⟨#[0]⟩ ++ strOfNums ((encS vs cs inp out).map numV)
end Bk
namespace Go.Proofs.YtakfdnnlhjhcfaaGreatDoor
section
open Go.RowKit Bk
section
variable {w w' : World} {B : Nat}
theorem c_bytes {V Q : Option Addr} {nv cv nq cq : Nat} {vs : List Vr} {m : Nd} (hBw : B ≤ w.heap.size) (hv : VsAt w B V vs) (hnv : vs.length = nv) {vC vI vO : Value} {cs : List (List Int)} {inp out : List Int} (hS : SW w (· < B) vC vI vO cs inp out) (hfit : fitsS vs cs inp out = true) (hb : Below B w w') :
 Calls Tryz.prog 8 #[.agg #[.slice V nv cv, .slice Q nq cq, .int .u8 m.k, .int .i64 m.num, .string m.nm, .slice m.A m.n m.cap], .agg #[vC, vI, vO]] w' fun e w'' => e = .returned (.string (bytS vs cs inp out)) ∧ Below w'.heap.size w' w'' := by
 have HEN := Lib.hid (fun W hW => c_Encode hBw V nv cv vs hv hnv hS hfit W hW)
 have hB' : B ≤ w'.heap.size := by have := hb.size; omega
 have HB := Lib.hid hb
 obtain ⟨AC, nc, cC, rfl⟩ : ∃ A n c, vC = .slice A n c := by obtain ⟨sv, ⟨A, c, e, _⟩, _⟩ := hS.row; exact ⟨A, _, c, e⟩
 obtain ⟨AI, ni, cI, rfl⟩ : ∃ A n c, vI = .slice A n c := by obtain ⟨A, c, e, _⟩ := hS.inp; exact ⟨A, _, c, e⟩
 obtain ⟨AO, no, cO, rfl⟩ : ∃ A n c, vO = .slice A n c := by obtain ⟨A, c, e, _⟩ := hS.out; exact ⟨A, _, c, e⟩
 clear hv hS hfit hb hnv
 obtain ⟨mk, mnum, mnm, mA, mn, mc⟩ := m
 dsimp only at *
 go_enter Tryz.func8, Tryz.ntmps8
 go_upto_region 1 with fail
 refine wp_nameE ?_
 intro w1 hw1
 have hb1 : Below w'.heap.size w' w1 := (by rw [hw1]; exact (by go_grown))
 have K2 : Blk w1 w'.heap.size 28 #[.slice V nv cv, .slice Q nq cq, .int .u8 mk, .int .i64 mnum, .string mnm, .slice mA mn mc] := (by rw [hw1]; exact blkA)
 have K3 : Blk w1 (w'.heap.size + 1) 32 #[.slice AC nc cC, .slice AI ni cI, .slice AO no cO] := (by rw [hw1]; exact (Blk.new' (by simp) _ _))
 have HB1 := Lib.hid hb1
 obtain ⟨z_2, T_2, F_2⟩ := K2.open_
 obtain ⟨z_3, T_3, F_3⟩ := K3.open_
 clear hw1 hb1 K2 K3
 go_wp2_with fail
 refine (HEN.out w1 (HB.out.trans (HB1.out.mono hB'))).mono ?_
 rintro en w2 ⟨v, n, rfl, hn, ho, hb2⟩
 have hlen := ho.1
 have hpos := encS_pos vs cs inp out
 obtain ⟨g, cp, rfl⟩ : ∃ g cp, v = .slice (some ⟨g, 0, none⟩) n cp := by
  rcases ho.2 with ⟨_, h0⟩ | ⟨g, cap, cur, e, _⟩
  · exfalso; omega
  · exact ⟨g, cap, e⟩
 obtain ⟨cur, hbk, hcur⟩ := own_row ho
 have hcv : (convert 52 9 (.slice (some ⟨g, 0, none⟩) n cp)).run Tryz.prog w2 = .ok (.string (strOfNums ((encS vs cs inp out).map numV))) w2 := by
  refine run_convert_bytes_arg (P := Tryz.prog) w2 52 5 Tryz.underlying52 Tryz.underlying5 g 0 n cp ((encS vs cs inp out).map numV) (by simp; omega) (fun i hi => ?_) 9 Tryz.underlying9
  have hil : i < (encS vs cs inp out).length := by omega
  have hget : (encS vs cs inp out)[i]? = some ((encS vs cs inp out)[i]) := List.getElem?_eq_getElem hil
  rw [Nat.zero_add, hbk.cell, hcur i _ hget, encS_num _ (List.getElem_mem hil)]
  simp [List.getD_eq_getElem?_getD, hget]
 obtain ⟨z, hz⟩ : ∃ z, strOfNums ((encS vs cs inp out).map numV) = z := ⟨_, rfl⟩
 have hzs : z.size ≤ 17592186043904 := by
  rw [← hz]
  have : (strOfNums ((encS vs cs inp out).map numV)).size = (encS vs cs inp out).length := by simp [strOfNums, ByteArray.size]
  omega
 have hbt : bytS vs cs inp out = ⟨#[0]⟩ ++ z := by rw [← hz]; rfl
 rw [hz] at hcv
 have HBT := Lib.hid hbt
 have hz1 : ¬ 9223372036854775807 < 1 + z.size := by omega
 have HB2 := Lib.hid (HB1.out.next hb2)
 clear hz hbt z_2 T_2 F_2 z_3 T_3 F_3 hb2 ho hbk hcur hlen hpos HEN
 go_wp2_with fail
 go_ret
 exact ⟨by rw [HBT.out]; first | rfl | simp, HB2.out⟩
end
end
set_option maxHeartbeats 4000000
section
open Go.RowKit Bk
def SmallP (bl : Nat) (w' : World) (e : Ending) (w'' : World) : Prop := ∃ (b : Bool) (L' : Int), e = .returned (.bool b) ∧ (b = true → ∃ L2 : Nat, L' = L2 ∧ L2 ≤ 200) ∧ Blk w'' bl 3 #[.int .i64 L'] ∧ Fr (fun k => k = bl) w' w''
def SmallOk (w : World) (B : Nat) (x : Nd) : Prop := ∀ (dp : Nat) (L : Nat), dp ≤ 24 → L ≤ 200 → ∀ (w' : World) (bl : Nat), Below B w w' → B ≤ bl → Blk w' bl 3 #[.int .i64 (L : Int)] →
 Calls Tryz.prog 83 #[.agg #[.int .u8 x.k, .int .i64 x.num, .string x.nm, .slice x.A x.n x.cap], .int .i64 dp, .pointer (some ⟨bl, 0, none⟩)] w' fun e w'' => SmallP bl w' e w''
theorem e_small1 {w : World} {B : Nat} (hBw : B ≤ w.heap.size) (x : Nd) (hn : x.n ≤ 9223372036854775807) (hkid : ∀ i, i < x.n → ∃ y, Kid w B x i y ∧ SmallOk w B y) : SmallOk w B x := by
 intro dp lf hdp hlf w' bl hb hbl hk
 obtain ⟨k, num, nm, A, n, cap⟩ := x
 have HB := Lib.hid hb; have HK := Lib.hid hk; have HKID := Lib.hid hkid
 have hbw := hk.lt
 have hBw' : B ≤ w'.heap.size := by have := hb.size; omega
 dsimp only at *
 clear hb hkid
 obtain ⟨z_k, T_k, F_k⟩ := hk.open_
 clear hk
 have HE : Hid (∀ w1, w1 = (w'.alloc (.cells #[.int .u8 k, .int .i64 num, .string nm, .slice A n cap] 26)).setCell ⟨bl, 0, none⟩ (.int .i64 ((lf : Int) - 1)) ∨ w1 = (w'.setCell ⟨bl, 0, none⟩ (.int .i64 ((lf : Int) - 1))).alloc (.cells #[.int .u8 k, .int .i64 num, .string nm, .slice A n cap] 26) → Blk w1 w'.heap.size 26 #[.int .u8 k, .int .i64 num, .string nm, .slice A n cap] ∧ Blk w1 bl 3 #[.int .i64 ((lf : Int) - 1)] ∧ Fr (fun k => k = bl) w' w1) := Lib.hid fun w1 h => by
  have hs : (w'.setCell ⟨bl, 0, none⟩ (.int .i64 ((lf : Int) - 1))).heap.size = w'.heap.size := by simp [World.setCell]
  rcases h with rfl | rfl
  · refine ⟨Blk.far (Blk.new _ _ _) (show w'.heap.size ≠ bl by omega) _, ?_, ?_⟩
    · simpa using (HK.out.alloc _).set_ 0 (.int .i64 ((lf : Int) - 1))
    · refine Fr.set ?_ ?_ _; rotate_left; exact rfl; exact (Fr.refl _ _).alloc _
  · refine ⟨Blk.new' hs.symm _ _, ?_, ?_⟩
    · exact Blk.alloc (by simpa using HK.out.set_ 0 (.int .i64 ((lf : Int) - 1))) _
    · refine Fr.alloc ?_ _; refine Fr.set ?_ ?_ _; rotate_left; exact rfl; exact Fr.refl _ _
 obtain ⟨li, hli⟩ : ∃ li : Int, (lf : Int) - 1 = li := ⟨_, rfl⟩
 have hw1 : IntKind.i64.wrap ((lf : Int) - 1) = li := by
  rw [← hli]
  rcases Nat.eq_zero_or_pos lf with h0 | h0
  · subst h0; decide
  · exact wrap_small _ (by omega) (by omega)
 rw [hli] at HE
 have HLI := Lib.hid hli
 obtain ⟨l0, hl0⟩ : ∃ l0 : Int, (lf : Int) = l0 := ⟨_, rfl⟩
 rw [hl0] at hw1 T_k HK
 clear hli hl0
 go_enter Tryz.func83, Tryz.ntmps83
 go_upto_region 2 with fail
 refine wp_nameE ?_
 intro w1 hw
 obtain ⟨K1, KL, hF1⟩ := HE.out w1 (by first | exact .inl hw | exact .inr hw)
 have HK1 := Lib.hid K1; have HKL := Lib.hid KL; have HF1 := Lib.hid hF1
 have hz1 : w'.heap.size < w1.heap.size := K1.lt
 clear T_k z_k F_k hw HK HE
 obtain ⟨z_1, T_1, F_1⟩ := K1.open_
 obtain ⟨z_k, T_k, F_k⟩ := KL.open_
 clear K1 KL hF1
 by_cases hl1 : li < 0
 · have q1 : decide (li < 0) = true := by simpa using hl1
   go_wp2_with fail
   go_ret
   exact ⟨false, li, rfl, by simp, HKL.out, HF1.out⟩
 have q1 : decide (li < 0) = false := by simpa using hl1
 by_cases hd0 : dp = 0
 · subst hd0
   go_wp2_with fail
   go_ret
   exact ⟨false, li, rfl, by simp, HKL.out, HF1.out⟩
 have hd1 : ((dp : Int) == 0) = false := by simpa using hd0
 by_cases hnm : nm.size ≤ 40
 rotate_left
 · have q3 : decide (40 < (nm.size : Int)) = true := by simp; omega
   go_wp2_with fail
   go_ret
   exact ⟨false, li, rfl, by simp, HKL.out, HF1.out⟩
 have q3 : decide (40 < (nm.size : Int)) = false := by simp; omega
 obtain ⟨d1, hdd⟩ : ∃ d1, dp = d1 + 1 := ⟨dp - 1, by omega⟩
 have hw2 : IntKind.i64.wrap ((dp : Int) - 1) = (d1 : Int) := (wrap_small _ (by omega) (by omega)).trans (by omega)
 have hd24 : d1 ≤ 24 := by omega
 obtain ⟨di, hdi⟩ : ∃ di : Int, (dp : Int) = di := ⟨_, rfl⟩
 rw [hdi] at hd1 hw2 ⊢
 obtain ⟨l1, hll⟩ : ∃ l1 : Nat, li = l1 := ⟨li.toNat, by omega⟩
 have hl200 : l1 ≤ 200 := by have := HLI.out; omega
 have HLL := Lib.hid hll
 clear hdi hdd hll hd0 hdp
 go_wp2_with fail
 clear T_1 z_1 F_1 T_k z_k F_k q1 q3
 go_loopw [31] (fun v31 wr => ∃ (j c : Nat), j ≤ n ∧ v31 = .int .i64 j ∧ c ≤ 200 ∧ Blk wr bl 3 #[.int .i64 (c : Int)] ∧ Fr (fun k => k = bl) w' wr) (fun v _ => n - (intOf v).toNat)
 case atStart => exact ⟨0, l1, Nat.zero_le _, rfl, hl200, by rw [← HLL.out]; exact HKL.out, HF1.out⟩
 case round =>
  obtain ⟨j, c, hj, rfl, hc, hkl, hfr⟩ := hrel
  have HKR := Lib.hid hkl; have HFR := Lib.hid hfr
  have hBr : Below B w wr := HB.out.trans (hfr.below hBw' (fun k hk => hk ▸ hbl))
  have HBR := Lib.hid hBr
  have hzr := hfr.size
  clear hkl hfr hBr
  by_cases hjn : j < n
  · obtain ⟨y, hky, hoy⟩ := HKID.out j hjn
    obtain ⟨g, o, hA2, hgB, c0, c1, c2, c3⟩ := hky.cells HBR.out
    simp only at hA2
    subst hA2
    have HOY := Lib.hid hoy
    have j0 : (0 : Int) ≤ (j : Int) := by omega
    have j1 : (j : Int) < (n : Int) := by omega
    clear hky hoy
    go_upto_region 7 with fail
    refine wp_nameE ?_
    intro w2 hw
    have hb2 : Below wr.heap.size wr w2 := by rw [hw]; exact (by go_grown)
    have K2 : Blk w2 wr.heap.size 26 #[.int .u8 y.k, .int .i64 y.num, .string y.nm, .slice y.A y.n y.cap] := by rw [hw]; exact blkA
    have HB2 := Lib.hid hb2
    clear hw c0 c1 c2 c3 hb2
    obtain ⟨z_2, T_2, F_2⟩ := K2.open_
    clear K2
    go_wp2_with fail
    refine (HOY.out d1 c hd24 hc w2 bl (HBR.out.trans (HB2.out.mono (by omega))) hbl (HKR.out.next HB2.out)).mono ?_
    rintro en w3 ⟨b, c', rfl, hc', hkl, hfr⟩
    have HC := Lib.hid hc'; have HK3 := Lib.hid hkl
    have HF3 := Lib.hid ((HFR.out.next HB2.out).trans hfr)
    clear T_2 z_2 F_2 hc' hkl hfr
    cases b with
    | false =>
     go_wp2_with fail
     go_ret
     exact ⟨false, c', rfl, by simp, HK3.out, HF3.out⟩
    | true =>
     obtain ⟨c2, rfl, hc2⟩ := HC.out rfl
     go_wp2_with fail
     exact ⟨⟨j + 1, c2, by omega, by go_num, hc2, HK3.out, HF3.out⟩, by simp [intOf]; omega⟩
  · obtain rfl : j = n := by omega
    go_wp2_with fail
    go_ret
    exact ⟨true, c, rfl, fun _ => ⟨c, rfl, hc⟩, HKR.out, HFR.out⟩
theorem e_small {w : World} {B : Nat} (hBw : B ≤ w.heap.size) : ∀ (d : Nat) (x : Nd), KV w B d x → SmallOk w B x
 | 0, _, h => h.elim
 | d + 1, x, h => by
  obtain ⟨_, _, hcap, hmax, _, hk⟩ := h
  exact e_small1 hBw x (by unfold maxLen at hmax; omega) fun i hi => let ⟨y, h1, h2⟩ := hk i hi; ⟨y, h1, e_small hBw d y h2⟩
def SomeB (w : World) (e : Ending) (w' : World) : Prop := ∃ b : Bool, e = .returned (.bool b) ∧ Below w.heap.size w w'
theorem e_great {w : World} {B d : Nat} (hBw : B ≤ w.heap.size) (x : Nd) (hx : KV w B d x) (w' : World) (hb : Below B w w') : Calls Tryz.prog 50 #[.agg #[.int .u8 x.k, .int .i64 x.num, .string x.nm, .slice x.A x.n x.cap]] w' fun e w'' => SomeB w' e w'' := by
 have HS := Lib.hid (e_small hBw d x hx)
 have HB := Lib.hid hb
 have hBw' : B ≤ w'.heap.size := by have := hb.size; omega
 clear hx hb
 unfold SmallOk at HS
 obtain ⟨k, num, nm, A, n, cap⟩ := x
 dsimp only at *
 go_enter Tryz.func50, Tryz.ntmps50
 go_upto_region 2 with fail
 refine wp_nameE ?_
 intro w1 hw1
 have hb1 : Below w'.heap.size w' w1 := (by rw [hw1]; exact (by go_grown))
 have K1 : Blk w1 w'.heap.size 26 #[.int .u8 k, .int .i64 num, .string nm, .slice A n cap] := (by rw [hw1]; exact blkA)
 have K2 : Blk w1 (w'.heap.size + 1) 3 #[.int .i64 200] := (by rw [hw1]; exact blkA)
 have HB1 := Lib.hid hb1; have HK2 := Lib.hid K2
 obtain ⟨z_1, T_1, F_1⟩ := K1.open_
 clear hw1 hb1 K1 K2
 go_wp2_with fail
 refine (HS.out 24 200 (Nat.le_refl _) (Nat.le_refl _) w1 (w'.heap.size + 1) (HB.out.trans (HB1.out.mono hBw')) (by omega) HK2.out).mono ?_
 rintro en w2 ⟨b, L', rfl, _, _, hfr⟩
 have HF := Lib.hid hfr
 have hs := HB1.out.size
 clear hfr z_1 T_1 F_1
 go_wp2_with fail
 go_ret
 exact ⟨_, rfl, HB1.out.trans (HF.out.below hs fun k hk => by omega)⟩
end
set_option maxHeartbeats 8000000
section
open Go.RowKit Bk
def SomeI (w : World) (e : Ending) (w' : World) : Prop := ∃ g : Int, e = .returned (.int .i64 g) ∧ Below w.heap.size w w'
theorem e_Great5 {w : World} {B d : Nat} (hBw : B ≤ w.heap.size) (V : Option Addr) (nv cv : Nat) (vs : List Vr) (hv : VsAt w B V vs) (hnv : vs.length = nv) (Q : Option Addr) (nq cq : Nat) (ps : List Pc) (hq : PrsAt w B d Q ps) (hnq : ps.length = nq) (m : Nd) (hm : KV w B d m) (w' : World) (hb : Below B w w') :
 Calls Tryz.prog 25 #[.agg #[.slice V nv cv, .slice Q nq cq, .int .u8 m.k, .int .i64 m.num, .string m.nm, .slice m.A m.n m.cap]] w' fun e w'' => SomeI w' e w'' := by
 have HGM := Lib.hid (fun W hW => e_great hBw m hm W hW)
 have HGP := Lib.hid (fun (x : Nd) (hx : KV w B d x) W hW => e_great hBw x hx W hW)
 have HV := Lib.hid hv; have HNV := Lib.hid hnv; have HQ := Lib.hid hq; have HNQ := Lib.hid hnq; have HB := Lib.hid hb
 have hBw' : B ≤ w'.heap.size := by have := hb.size; omega
 clear hv hnv hq hnq hm hb
 obtain ⟨mk, mnum, mnm, mA, mn, mcap⟩ := m
 dsimp only at *
 go_enter Tryz.func25, Tryz.ntmps25
 go_upto_region 1 with fail
 refine wp_nameE ?_
 intro w1 hw1
 have hb1 : Below w'.heap.size w' w1 := (by rw [hw1]; exact (by go_grown))
 have HK1 : Hid (Blk w1 w'.heap.size 28 #[.slice V nv cv, .slice Q nq cq, .int .u8 mk, .int .i64 mnum, .string mnm, .slice mA mn mcap]) := Lib.hid (by rw [hw1]; exact blkA)
 have HB1 := Lib.hid hb1
 obtain ⟨z_1, T_1, F_1⟩ := HK1.out.open_
 clear hw1 hb1
 by_cases h1 : nv ≤ 8
 rotate_left
 · have q1 : decide (8 < (nv : Int)) = true := by simp; omega
   go_wp2_with fail
   go_ret
   exact ⟨1, rfl, HB1.out⟩
 have q1 : decide (8 < (nv : Int)) = false := by simp; omega
 by_cases h2 : nq ≤ 5
 rotate_left
 · have q2 : decide (5 < (nq : Int)) = true := by simp; omega
   go_wp2_with fail
   go_ret
   exact ⟨1, rfl, HB1.out⟩
 have q2 : decide (5 < (nq : Int)) = false := by simp; omega
 go_wp2_with fail
 refine (HGM.out w1 (HB.out.trans (HB1.out.mono hBw'))).mono ?_
 rintro en w2 ⟨b, rfl, hb2⟩
 have HB2 := Lib.hid (HB1.out.next hb2); have HK2 := Lib.hid (HK1.out.next hb2)
 clear z_1 T_1 F_1 hb2 HK1
 cases b with
 | true =>
  go_wp2_with fail
  go_ret
  exact ⟨1, rfl, HB2.out⟩
 | false =>
  obtain ⟨z_1, T_1, F_1⟩ := HK2.out.open_
  go_wp2_with fail
  clear z_1 T_1 F_1
  go_loopw [27] (fun v27 wr => ∃ j : Nat, j ≤ nv ∧ v27 = .int .i64 j ∧ Below w2.heap.size w2 wr) (fun v _ => nv - (intOf v).toNat)
  case atStart => exact ⟨0, Nat.zero_le _, rfl, Below.refl _ _⟩
  case round =>
   obtain ⟨j, hj, rfl, hbr⟩ := hrel
   have HBQ := Lib.hid hbr; have HBR := Lib.hid (HB2.out.next hbr); have HKR := Lib.hid (HK2.out.next hbr)
   clear hbr
   by_cases hjn : j < nv
   · obtain ⟨v, hvj⟩ : ∃ v, vs[j]? = some v := ⟨_, List.getElem?_eq_getElem (by have := HNV.out; omega)⟩
     obtain ⟨g, o, hA2, hgB, c0, c1, c2⟩ := HV.out j v hvj
     subst hA2
     have hbw : Below B w wr := HB.out.trans (HBR.out.mono hBw')
     have d0 := (hbw.cell (p := ⟨g, o + j * 3, none⟩) hgB).trans c0
     have d1 := (hbw.cell (p := ⟨g, o + j * 3 + 1, none⟩) hgB).trans c1
     have d2 := (hbw.cell (p := ⟨g, o + j * 3 + 2, none⟩) hgB).trans c2
     obtain ⟨nm, k, len⟩ := v
     dsimp only at d0 d1 d2
     have j0 : (0 : Int) ≤ (j : Int) := by omega
     have j1 : (j : Int) < (nv : Int) := by omega
     clear c0 c1 c2 hvj hbw
     by_cases hs : nm.size ≤ 40
     · have q3 : decide (40 < (nm.size : Int)) = false := by simp; omega
       go_wp2_with fail
       exact ⟨⟨j + 1, by omega, by first | rfl | go_num, HBQ.out.next (by go_grown)⟩, by simp [intOf]; omega⟩
     · have q3 : decide (40 < (nm.size : Int)) = true := by simp; omega
       go_wp2_with fail
       go_ret
       exact ⟨1, rfl, HBR.out.next (by go_grown)⟩
   · obtain rfl : j = nv := by omega
     obtain ⟨z_1, T_1, F_1⟩ := HKR.out.open_
     obtain ⟨wo, rfl⟩ : ∃ wo : World, wo = wr := ⟨_, rfl⟩
     go_wp2_with fail
     clear z_1 T_1 F_1 HBQ HK2 HB2
     go_loopw [39] (fun v39 wr => ∃ i : Nat, i ≤ nq ∧ v39 = .int .i64 i ∧ Below wo.heap.size wo wr) (fun v _ => nq - (intOf v).toNat)
     case atStart => exact ⟨0, Nat.zero_le _, rfl, Below.refl _ _⟩
     case round =>
      obtain ⟨i, hi, rfl, hbr⟩ := hrel
      have HBQ := Lib.hid hbr; have HBS := Lib.hid (HBR.out.next hbr)
      have hsw := hbr.size
      clear hbr
      by_cases hin : i < nq
      · obtain ⟨c, hci⟩ : ∃ c, ps[i]? = some c := ⟨_, List.getElem?_eq_getElem (by have := HNQ.out; omega)⟩
        obtain ⟨⟨g, o, hA2, hgB, c0, c1, c2, c3, c4, c5⟩, hvs, hvl, hvc, hv6, hkb⟩ := HQ.out i c hci
        subst hA2
        have hbw : Below B w wr := HB.out.trans (HBS.out.mono hBw')
        have d0 := (hbw.cell (p := ⟨g, o + i * 6, none⟩) hgB).trans c0
        have d1 := (hbw.cell (p := ⟨g, o + i * 6 + 1, none⟩) hgB).trans c1
        have d2 := (hbw.cell (p := ⟨g, o + i * 6 + 2, none⟩) hgB).trans c2
        have d3 := (hbw.cell (p := ⟨g, o + i * 6 + 3, none⟩) hgB).trans c3
        have d4 := (hbw.cell (p := ⟨g, o + i * 6 + 4, none⟩) hgB).trans c4
        have d5 := (hbw.cell (p := ⟨g, o + i * 6 + 5, none⟩) hgB).trans c5
        have HGB := Lib.hid (fun W hW => HGP.out c.body hkb W hW)
        have HPV := Lib.hid hvs; have HPL := Lib.hid hvl
        obtain ⟨cnm, cV, cn, cc, cvs, ⟨bk, bnum, bnm, bA, bn, bc⟩⟩ := c
        dsimp only at d0 d1 d2 d3 d4 d5 hv6
        have j0 : (0 : Int) ≤ (i : Int) := by omega
        have j1 : (i : Int) < (nq : Int) := by omega
        clear c0 c1 c2 c3 c4 c5 hci hbw hvs hvl hvc hkb
        go_upto_region 12 with fail
        refine wp_nameE ?_
        intro w3 hw3
        have hb3 : Below wr.heap.size wr w3 := (by rw [hw3]; exact (by go_grown))
        have HK3 : Hid (Blk w3 wr.heap.size 64 #[.string cnm, .slice cV cn cc, .int .u8 bk, .int .i64 bnum, .string bnm, .slice bA bn bc]) := Lib.hid (by rw [hw3]; exact Blk.new _ _ _)
        have HB3 := Lib.hid (HBS.out.next hb3); have HQ3 := Lib.hid (HBQ.out.next hb3)
        clear hw3 hb3 d0 d1 d2 d3 d4 d5
        obtain ⟨z_3, T_3, F_3⟩ := HK3.out.open_
        by_cases hc1 : cn ≤ 10
        rotate_left
        · have q3 : decide (10 < (cn : Int)) = true := by simp; omega
          go_wp2_with fail
          go_ret
          exact ⟨1, rfl, HB3.out⟩
        have q3 : decide (10 < (cn : Int)) = false := by simp; omega
        by_cases hc2 : cnm.size ≤ 40
        rotate_left
        · have q4 : decide (40 < (cnm.size : Int)) = true := by simp; omega
          go_wp2_with fail
          go_ret
          exact ⟨1, rfl, HB3.out⟩
        have q4 : decide (40 < (cnm.size : Int)) = false := by simp; omega
        go_wp2_with fail
        refine (HGB.out w3 (HB.out.trans (HB3.out.mono hBw'))).mono ?_
        rintro en w4 ⟨b, rfl, hb4⟩
        have HB4 := Lib.hid (HB3.out.next hb4); have HK4 := Lib.hid (HK3.out.next hb4); have HQ4 := Lib.hid (HQ3.out.next hb4)
        clear z_3 T_3 F_3 hb4 q3 q4
        cases b with
        | true =>
         go_wp2_with fail
         go_ret
         exact ⟨1, rfl, HB4.out⟩
        | false =>
         obtain ⟨z_3, T_3, F_3⟩ := HK4.out.open_
         obtain ⟨wi, rfl⟩ : ∃ wi : World, wi = wr := ⟨_, rfl⟩
         go_wp2_with fail
         clear z_3 T_3 F_3
         go_loopw [61] (fun v61 wr => ∃ a : Nat, a ≤ cn ∧ v61 = .int .i64 a ∧ Below w4.heap.size w4 wr) (fun v _ => cn - (intOf v).toNat)
         case atStart => exact ⟨0, Nat.zero_le _, rfl, Below.refl _ _⟩
         case round =>
          obtain ⟨a, ha, rfl, hbr⟩ := hrel
          have HBA := Lib.hid hbr; have HBT := Lib.hid (HB4.out.next hbr)
          clear hbr
          by_cases han : a < cn
          · obtain ⟨v, hvj⟩ : ∃ v, cvs[a]? = some v := ⟨_, List.getElem?_eq_getElem (by have := HPL.out; omega)⟩
            obtain ⟨gp, op, hA2, hgB2, c0, c1, c2⟩ := HPV.out a v hvj
            subst hA2
            have hbw : Below B w wr := HB.out.trans (HBT.out.mono hBw')
            have d0 := (hbw.cell (p := ⟨gp, op + a * 3, none⟩) hgB2).trans c0
            have d1 := (hbw.cell (p := ⟨gp, op + a * 3 + 1, none⟩) hgB2).trans c1
            have d2 := (hbw.cell (p := ⟨gp, op + a * 3 + 2, none⟩) hgB2).trans c2
            obtain ⟨nm, k, len⟩ := v
            dsimp only at d0 d1 d2
            have a0 : (0 : Int) ≤ (a : Int) := by omega
            have a1 : (a : Int) < (cn : Int) := by omega
            clear c0 c1 c2 hvj hbw
            by_cases hs : nm.size ≤ 40
            · have q3 : decide (40 < (nm.size : Int)) = false := by simp; omega
              go_wp2_with fail
              exact ⟨⟨a + 1, by omega, by first | rfl | go_num, HBA.out.next (by go_grown)⟩, by simp [intOf]; omega⟩
            · have q3 : decide (40 < (nm.size : Int)) = true := by simp; omega
              go_wp2_with fail
              go_ret
              exact ⟨1, rfl, HBT.out.next (by go_grown)⟩
          · obtain rfl : a = cn := by omega
            go_wp2_with fail
            exact ⟨⟨i + 1, by omega, by first | rfl | go_num, HQ4.out.next HBA.out⟩, by simp [intOf]; omega⟩
      · obtain rfl : i = nq := by omega
        go_wp2_with fail
        go_ret
        exact ⟨0, rfl, HBS.out⟩
theorem e_Great17 {w : World} {B d : Nat} (hBw : B ≤ w.heap.size) (V : Option Addr) (nv cv : Nat) (vs : List Vr) (hv : VsAt w B V vs) (hnv : vs.length = nv) (Q : Option Addr) (nq cq : Nat) (ps : List Pc) (hq : PrsAt w B d Q ps) (hnq : ps.length = nq) (m : Nd) (hm : KV w B d m) {vC vI vO : Value} {cs : List (List Int)} {inp out : List Int} (hS : SW w (· < B) vC vI vO cs inp out) (w' : World) (hb : Below B w w') :
 Calls Tryz.prog 15 #[.agg #[.slice V nv cv, .slice Q nq cq, .int .u8 m.k, .int .i64 m.num, .string m.nm, .slice m.A m.n m.cap], .agg #[vC, vI, vO]] w' fun e w'' => SomeI w' e w'' := by
 have HG5 := Lib.hid (fun W hW => e_Great5 (cv := cv) (cq := cq) hBw V nv vs hv hnv Q nq ps hq hnq m hm W hW)
 obtain ⟨sv, hrow, hel⟩ := hS.row
 have hsvl : sv.length = cs.length := by
  obtain ⟨_, _, _, _, _, hR⟩ := hrow
  have := hR.1; omega
 have HSV : Hid (∀ (i : Nat) (u : Value), sv[i]? = some u → ∃ A n c, u = .slice A n c) := Lib.hid fun i u h1 => by
  have hi := (List.getElem?_eq_some_iff.1 h1).1
  obtain ⟨A, c, e, _⟩ := hel i u (cs[i]'(by omega)) h1 (List.getElem?_eq_getElem (by omega))
  exact ⟨A, _, c, e⟩
 have HSL := Lib.hid hsvl
 obtain ⟨AC, cC, rfl, _, _, hR⟩ := hrow
 obtain ⟨AI, cI, rfl, _⟩ := hS.inp
 obtain ⟨AO, cO, rfl, _⟩ := hS.out
 have HRW := Lib.hid hR; have HB := Lib.hid hb
 have hBw' : B ≤ w'.heap.size := by have := hb.size; omega
 obtain ⟨nc, hnc⟩ : ∃ n, cs.length = n := ⟨_, rfl⟩
 obtain ⟨ni, hni⟩ : ∃ n, inp.length = n := ⟨_, rfl⟩
 obtain ⟨no, hno⟩ : ∃ n, out.length = n := ⟨_, rfl⟩
 rw [hnc] at HRW HSL ⊢
 rw [hni, hno]
 clear hel hS hR hv hnv hq hnq hm hb hsvl hnc hni hno
 obtain ⟨mk, mnum, mnm, mA, mn, mcap⟩ := m
 dsimp only at *
 go_enter Tryz.func15, Tryz.ntmps15
 go_upto_region 1 with fail
 refine wp_nameE ?_
 intro w1 hw1
 have hb1 : Below w'.heap.size w' w1 := (by rw [hw1]; exact (by go_grown))
 have HK2 : Hid (Blk w1 w'.heap.size 28 #[.slice V nv cv, .slice Q nq cq, .int .u8 mk, .int .i64 mnum, .string mnm, .slice mA mn mcap]) := Lib.hid (by rw [hw1]; exact blkA)
 have HK3 : Hid (Blk w1 (w'.heap.size + 1) 32 #[.slice AC nc cC, .slice AI ni cI, .slice AO no cO]) := Lib.hid (by rw [hw1]; exact (Blk.new' (by simp) _ _))
 have HB1 := Lib.hid hb1
 obtain ⟨z_3, T_3, F_3⟩ := HK3.out.open_
 clear hw1 hb1
 by_cases h1 : nc ≤ 40
 rotate_left
 · have q1 : decide (40 < (nc : Int)) = true := by simp; omega
   go_wp2_with fail
   go_ret
   exact ⟨1, rfl, HB1.out⟩
 have q1 : decide (40 < (nc : Int)) = false := by simp; omega
 by_cases h2 : ni ≤ 40
 rotate_left
 · have q2 : decide (40 < (ni : Int)) = true := by simp; omega
   go_wp2_with fail
   go_ret
   exact ⟨1, rfl, HB1.out⟩
 have q2 : decide (40 < (ni : Int)) = false := by simp; omega
 by_cases h3 : no ≤ 40
 rotate_left
 · have q3 : decide (40 < (no : Int)) = true := by simp; omega
   go_wp2_with fail
   go_ret
   exact ⟨1, rfl, HB1.out⟩
 have q3 : decide (40 < (no : Int)) = false := by simp; omega
 go_wp2_with fail
 clear z_3 T_3 F_3 q1 q2 q3
 go_loopw [26] (fun v26 wr => ∃ j : Nat, j ≤ nc ∧ v26 = .int .i64 j ∧ Below w1.heap.size w1 wr) (fun v _ => nc - (intOf v).toNat)
 case atStart => exact ⟨0, Nat.zero_le _, rfl, Below.refl _ _⟩
 case round =>
  obtain ⟨j, hj, rfl, hbr⟩ := hrel
  have HBQ := Lib.hid hbr; have HBR := Lib.hid (HB1.out.next hbr)
  clear hbr
  by_cases hjn : j < nc
  · obtain ⟨u, huj⟩ : ∃ u, sv[j]? = some u := ⟨_, List.getElem?_eq_getElem (by have := HSL.out; omega)⟩
    obtain ⟨Al, nl, cl, rfl⟩ := HSV.out j u huj
    obtain ⟨g, o, hA, hg, hc⟩ := HRW.out.2 (by omega)
    subst hA
    have y0 : wr.cell? ⟨g, o + j, none⟩ = some (.slice Al nl cl) := ((HB.out.trans (HBR.out.mono hBw')).cell (p := ⟨g, o + j, none⟩) hg).trans (hc j _ huj)
    have j0 : (0 : Int) ≤ (j : Int) := by omega
    have j1 : (j : Int) < (nc : Int) := by omega
    clear huj hc
    by_cases hs : nl ≤ 40
    · have q3 : decide (40 < (nl : Int)) = false := by simp; omega
      go_wp2_with fail
      exact ⟨⟨j + 1, by omega, by first | rfl | go_num, HBQ.out⟩, by simp [intOf]; omega⟩
    · have q3 : decide (40 < (nl : Int)) = true := by simp; omega
      go_wp2_with fail
      go_ret
      exact ⟨1, rfl, HBR.out⟩
  · obtain rfl : j = nc := by omega
    obtain ⟨z_2, T_2, F_2⟩ := (HK2.out.next HBQ.out).open_
    go_wp2_with fail
    refine (HG5.out wr (HB.out.trans (HBR.out.mono hBw'))).mono ?_
    rintro en w5 ⟨gg, rfl, hb5⟩
    have HB5 := Lib.hid (HBR.out.next hb5)
    clear hb5 z_2 T_2 F_2
    go_wp2_with fail
    go_ret
    exact ⟨gg, rfl, HB5.out⟩
end
set_option maxHeartbeats 4000000
section
open Go.RowKit Bk
def RnP (P : Prop) (e : Ending) : Prop := ∃ b, e = .returned (.bool b) ∧ (b = true → P)
theorem e_runnable {w : World} {B d : Nat} (hBw : B ≤ w.heap.size) (V : Option Addr) (nv cv : Nat) (vs : List Vr) (hv : VsAt w B V vs) (hnv : vs.length = nv) (hnv2 : nv ≤ 17592186043904) (hcv : nv ≤ cv) (hVn : V = none → cv = 0) (Q : Option Addr) (nq cq : Nat) (ps : List Pc) (hq : PrsAt w B (d + 1) Q ps) (hnq : ps.length = nq) (hnq2 : nq ≤ 17592186043904) (hpn : ∀ p ∈ ps, p.V = none → p.cv = 0) (m : Nd) (hm : KV w B (d + 1) m) {vC vI vO : Value} {cs : List (List Int)} {inp out : List Int} (hS : SW w (· < B) vC vI vO cs inp out) (w' : World) (hb : Below B w w') :
 Calls Tryz.prog 7 #[.agg #[.slice V nv cv, .slice Q nq cq, .int .u8 m.k, .int .i64 m.num, .string m.nm, .slice m.A m.n m.cap], .agg #[vC, vI, vO]] w' fun e w'' => RnP (validB w B (d + 1) vs ps m = true ∧ chkN w B (d + 1) vs ps m = 0 ∧ fitsS vs cs inp out = true) e ∧ Below w'.heap.size w' w'' := by
 have HGR := Lib.hid (fun W hW => e_Great17 hBw V nv cv vs hv hnv Q nq cq ps hq hnq m hm hS W hW)
 have HVL := Lib.hid (fun W hW => e_ValidP hBw V nv cv vs hv hnv hnv2 Q nq cq ps hq hnq hnq2 m hm W hW)
 have HCH := Lib.hid (fun W hW => e_CheckX hBw V nv cv vs hv hnv hnv2 hcv hVn Q nq cq ps hq hnq hnq2 hpn m hm W hW)
 have HFT := Lib.hid (fun W hW => c_Fits hBw V nv cv vs hv hnv hS W hW)
 have HB := Lib.hid hb
 have hBw' : B ≤ w'.heap.size := by have := hb.size; omega
 obtain ⟨AC, nC, cC, AI, nI, cI, AO, nO, cO, rfl, rfl, rfl⟩ := hS.forms
 obtain ⟨r1, h1⟩ : ∃ r, validB w B (d + 1) vs ps m = r := ⟨_, rfl⟩
 obtain ⟨n2, h2⟩ : ∃ r, chkN w B (d + 1) vs ps m = r := ⟨_, rfl⟩
 obtain ⟨r3, h3⟩ : ∃ r, fitsS vs cs inp out = r := ⟨_, rfl⟩
 rw [h1] at HVL ⊢
 rw [h2] at HCH ⊢
 rw [h3] at HFT ⊢
 clear hv hnv hq hnq hpn hm hS hb h1 h2 h3 hVn hnv2 hnq2 hcv
 obtain ⟨mk, mnum, mnm, mA, mn, mcap⟩ := m
 dsimp only at *
 go_enter Tryz.func7, Tryz.ntmps7
 go_upto_region 1 with fail
 refine wp_nameE ?_
 intro w1 hw1
 have hb1 : Below w'.heap.size w' w1 := by rw [hw1]; exact (by go_grown)
 have K1 : Blk w1 w'.heap.size 28 #[.slice V nv cv, .slice Q nq cq, .int .u8 mk, .int .i64 mnum, .string mnm, .slice mA mn mcap] := by rw [hw1]; exact Blk.alloc (Blk.new _ _ _) _
 have K2 : Blk w1 (w'.heap.size + 1) 32 #[.slice AC nC cC, .slice AI nI cI, .slice AO nO cO] := by rw [hw1]; exact Blk.new' (by simp) _ _
 have HK1 := Lib.hid K1; have HK2 := Lib.hid K2; have HB1 := Lib.hid hb1
 clear hw1 hb1 K1 K2
 obtain ⟨z_1, T_1, F_1⟩ := HK1.out.open_
 obtain ⟨z_2, T_2, F_2⟩ := HK2.out.open_
 go_wp2_with fail
 refine (HGR.out w1 (HB.out.trans (HB1.out.mono hBw'))).mono ?_
 rintro en w2 ⟨gr, rfl, hb2⟩
 have HB2 := Lib.hid (HB1.out.next hb2)
 have HP2 := Lib.hid (HK1.out.next hb2); have HS2 := Lib.hid (HK2.out.next hb2)
 clear T_1 z_1 F_1 T_2 z_2 F_2 hb2 HK1 HK2
 obtain ⟨z_1, T_1, F_1⟩ := HP2.out.open_
 obtain ⟨g0, hg0⟩ : ∃ b, (gr == 0) = b := ⟨_, rfl⟩
 cases g0
 · go_wp2_with fail
   go_ret
   exact ⟨⟨false, rfl, fun h => by cases h⟩, HB2.out⟩
 go_wp2_with fail
 refine (HVL.out w2 (HB.out.trans (HB2.out.mono hBw'))).mono ?_
 rintro en w3 ⟨rfl, hb3⟩
 have HB3 := Lib.hid (HB2.out.next hb3)
 have HP3 := Lib.hid (HP2.out.next hb3); have HS3 := Lib.hid (HS2.out.next hb3)
 clear T_1 z_1 F_1 hb3 HP2 HS2
 obtain ⟨z_1, T_1, F_1⟩ := HP3.out.open_
 cases r1
 · go_wp2_with fail
   go_ret
   exact ⟨⟨false, rfl, fun h => by cases h⟩, HB3.out⟩
 go_wp2_with fail
 refine (HCH.out w3 (HB.out.trans (HB3.out.mono hBw'))).mono ?_
 rintro en w4 ⟨⟨Ak, ck, rfl⟩, hb4⟩
 have HB4 := Lib.hid (HB3.out.next hb4)
 have HP4 := Lib.hid (HP3.out.next hb4); have HS4 := Lib.hid (HS3.out.next hb4)
 clear T_1 z_1 F_1 hb4 HP3 HS3
 obtain ⟨z_1, T_1, F_1⟩ := HP4.out.open_
 obtain ⟨z_2, T_2, F_2⟩ := HS4.out.open_
 obtain ⟨c0, hc0⟩ : ∃ b, ((n2 : Int) == 0) = b := ⟨_, rfl⟩
 have HC0 := Lib.hid hc0
 cases c0
 · go_wp2_with fail
   go_ret
   exact ⟨⟨false, rfl, fun h => by cases h⟩, HB4.out⟩
 go_wp2_with fail
 refine (HFT.out w4 (HB.out.trans (HB4.out.mono hBw'))).mono ?_
 rintro en w5 ⟨rfl, hb5⟩
 have HB5 := Lib.hid (HB4.out.next hb5)
 clear T_1 z_1 F_1 T_2 z_2 F_2 hb5
 go_wp2_with fail
 go_ret
 exact ⟨⟨r3, by simp, fun h => ⟨by have := HC0.out; simp at this; omega, h⟩⟩, HB5.out⟩
theorem tmod_fuel (fu : Nat) : Int.tmod (fu : Int) 2001 = ((fu % 2001 : Nat) : Int) := by simp [Int.tmod]
theorem bytS_ne (vs : List Vr) (cs : List (List Int)) (inp out : List Int) : (bytS vs cs inp out).toList ≠ [] := by
 rw [Lib.toList_data]
 unfold bytS
 simp [ByteArray.data_append]
theorem c_lawAtomic {w : World} {d : Nat} (V : Option Addr) (nv cv : Nat) (vs : List Vr) (hv : VsAt w w.heap.size V vs) (hnv : vs.length = nv) (hnv2 : nv ≤ 17592186043904) (hcv : nv ≤ cv) (hVn : V = none → cv = 0) (Q : Option Addr) (nq cq : Nat) (ps : List Pc) (hq : PrsAt w w.heap.size (d + 1) Q ps) (hnq : ps.length = nq) (hnq2 : nq ≤ 17592186043904) (hpn : ∀ p ∈ ps, p.V = none → p.cv = 0) (m : Nd) (hm : KV w w.heap.size (d + 1) m) {vC vI vO : Value} {cs : List (List Int)} {inp out : List Int} (hS : SW w (· < w.heap.size) vC vI vO cs inp out) (fu : Nat) (hfu : fu ≤ 65535) (hsy : SymAt w) :
 Calls Tryz.prog 3 #[.agg #[.slice V nv cv, .slice Q nq cq, .int .u8 m.k, .int .i64 m.num, .string m.nm, .slice m.A m.n m.cap], .agg #[vC, vI, vO], .int .u16 (fu : Int)] w fun e w' => e = .returned (.bool true) ∧ Below w.heap.size w w' := by
 have HAW := Lib.hid (fun W (hW : Below w.heap.size w W) => e_awakeRun (hsy.next hW))
 have HRN := Lib.hid (fun W hW => e_runnable (Nat.le_refl _) V nv cv vs hv hnv hnv2 hcv hVn Q nq cq ps hq hnq hnq2 hpn m hm hS W hW)
 have HBY := Lib.hid (fun (hf : fitsS vs cs inp out = true) W (hW : Below w.heap.size w W) => c_bytes (V := V) (Q := Q) (nv := nv) (cv := cv) (nq := nq) (cq := cq) (m := m) (Nat.le_refl _) hv hnv hS hf hW)
 have HPA := Lib.hid (fun h1 h2 => progAt_of (Nat.le_refl _) V nv cv vs hv hnv hnv2 hcv hVn Q nq cq ps hq hnq hnq2 hpn m hm h1 h2)
 have HVU : Hid (∀ W, Below w.heap.size w W → VsAt W W.heap.size V vs) := Lib.hid fun W hW i v hi => by
  obtain ⟨g, o, h1, h2, h3⟩ := (hv.next hW) i v hi
  exact ⟨g, o, h1, Nat.lt_of_lt_of_le h2 hW.size, h3⟩
 have HNV := Lib.hid hnv; have HS := Lib.hid hS
 obtain ⟨AC, nC, cC, AI, nI, cI, AO, nO, cO, rfl, rfl, rfl⟩ := hS.forms
 clear hv hnv hq hnq hpn hm hS hVn hnv2 hnq2 hcv hsy
 obtain ⟨mk, mnum, mnm, mA, mn, mcap⟩ := m
 dsimp only at *
 go_enter Tryz.func3, Tryz.ntmps3
 go_upto_region 1 with fail
 refine wp_nameE ?_
 intro w1 hw1
 have hb1 : Below w.heap.size w w1 := by rw [hw1]; exact (by go_grown)
 have K1 : Blk w1 w.heap.size 28 #[.slice V nv cv, .slice Q nq cq, .int .u8 mk, .int .i64 mnum, .string mnm, .slice mA mn mcap] := by rw [hw1]; exact Blk.alloc (Blk.new _ _ _) _
 have K2 : Blk w1 (w.heap.size + 1) 32 #[.slice AC nC cC, .slice AI nI cI, .slice AO nO cO] := by rw [hw1]; exact Blk.new' (by simp) _ _
 have HK1 := Lib.hid K1; have HK2 := Lib.hid K2; have HB1 := Lib.hid hb1
 clear hw1 hb1 K1 K2
 go_wp2_with fail
 refine (HAW.out w1 HB1.out).mono ?_
 rintro en w2 ⟨rfl, hb2⟩
 have HB2 := Lib.hid (HB1.out.next hb2)
 have HP2 := Lib.hid (HK1.out.next hb2); have HS2 := Lib.hid (HK2.out.next hb2)
 clear hb2 HK1 HK2
 obtain ⟨z_1, T_1, F_1⟩ := HP2.out.open_
 obtain ⟨z_2, T_2, F_2⟩ := HS2.out.open_
 go_wp2_with fail
 refine (HRN.out w2 HB2.out).mono ?_
 rintro en w3 ⟨⟨b, rfl, hb⟩, hb3⟩
 have HBP := Lib.hid hb
 have HB3 := Lib.hid (HB2.out.next hb3)
 have HP3 := Lib.hid (HP2.out.next hb3); have HS3 := Lib.hid (HS2.out.next hb3)
 clear hb3 hb z_1 T_1 F_1 z_2 T_2 F_2 HP2 HS2
 cases b
 · go_wp2_with fail
   refine (HAW.out w3 HB3.out).mono ?_
   rintro en w4 ⟨rfl, hb4⟩
   have HB4 := Lib.hid (HB3.out.next hb4)
   clear hb4
   go_wp2_with fail
   go_ret
   exact ⟨rfl, HB4.out⟩
 obtain ⟨hval, hchk, hfit⟩ := HBP.out rfl
 obtain ⟨p, hpa, hpv⟩ := HPA.out hval hchk
 subst hpv
 have HPR := Lib.hid hpa; have HFIT := Lib.hid hfit
 have HBYT := Lib.hid (HBY.out hfit)
 clear HBP HPA HBY HRN HAW hval hchk hfit hpa
 obtain ⟨fi, hfi⟩ : ∃ b, bytS p.vars cs inp out = b := ⟨_, rfl⟩
 rw [hfi] at HBYT
 have hfn : fi.toList ≠ [] := by rw [← hfi]; exact bytS_ne _ _ _ _
 have hfe : (fi.toList == []) = false := by simpa using hfn
 have HFI := Lib.hid hfi
 clear hfi
 obtain ⟨z_1, T_1, F_1⟩ := HP3.out.open_
 obtain ⟨z_2, T_2, F_2⟩ := HS3.out.open_
 go_wp2_with fail
 refine (HBYT.out w3 HB3.out).mono ?_
 rintro en w4 ⟨rfl, hb4⟩
 have HB4 := Lib.hid (HB3.out.next hb4)
 have HP4 := Lib.hid (HP3.out.next hb4); have HS4 := Lib.hid (HS3.out.next hb4)
 clear hb4 z_1 T_1 F_1 z_2 T_2 F_2 HP3 HS3
 go_upto_region 5 with fail
 refine wp_nameE ?_
 intro w5 hw5
 have hb5 : Below w4.heap.size w4 w5 := by rw [hw5]; exact (by go_grown)
 have KF : Blk w5 w4.heap.size 37 #[.func (.func 9) #[] #[], .func (.func 10) #[] #[]] := by rw [hw5]; exact Blk.new _ _ _
 have HKF := Lib.hid KF; have HB5 := Lib.hid (HB4.out.next hb5)
 have HP5 := Lib.hid (HP4.out.next hb5); have HS5 := Lib.hid (HS4.out.next hb5)
 have hz4 : w.heap.size ≤ w4.heap.size := HB4.out.size
 clear hw5 hb5 KF HP4 HS4
 go_loopw [26] (fun v26 wr => ∃ j : Nat, j ≤ 2 ∧ v26 = .int .i64 j ∧ Below w5.heap.size w5 wr) (fun v _ => 2 - (intOf v).toNat)
 case atStart => exact ⟨0, Nat.zero_le _, rfl, Below.refl _ _⟩
 case round =>
  obtain ⟨j, hj, rfl, hbr⟩ := hrel
  have HBR := Lib.hid (HB5.out.next hbr); have HX := Lib.hid hbr
  have HPr := Lib.hid (HP5.out.next hbr); have HSr := Lib.hid (HS5.out.next hbr); have HKr := Lib.hid (HKF.out.next hbr)
  clear hbr
  by_cases hjn : j < 2
  · have hfn : ∃ (g : FuncId) (back : Bool), wr.cell? ⟨w4.heap.size, j, none⟩ = some (.func (.func g) #[] #[]) ∧ (∀ (args : Array Value) (w : World), (callFunc g args).run Tryz.prog w = .ok (.enter g args) w) ∧ Hid (∀ (k : Nat), k ≤ 2000 → ∀ W, Below w.heap.size w W → Calls Tryz.prog g #[.agg #[.slice V nv cv, .slice Q nq cq, .int .u8 mk, .int .i64 mnum, .string mnm, .slice mA mn mcap], .agg #[.slice AC nC cC, .slice AI nI cI, .slice AO nO cO], .int .i64 k] W fun e w'' => ∃ v, e = .returned v ∧ ResP cs inp out k (runP p back cs inp out k) v W.heap.size w'' ∧ Below W.heap.size W w'') := by
     match j, hjn with
     | 0, _ => exact ⟨9, false, HKr.out.cell 0, fun _ _ => rfl, Lib.hid fun k hk W hW => c_Forward HPR.out HS.out HFIT.out hk hW⟩
     | 1, _ => exact ⟨10, true, HKr.out.cell 1, fun _ _ => rfl, Lib.hid fun k hk W hW => c_Backward HPR.out HS.out HFIT.out hk hW⟩
    obtain ⟨g, back, cf, eg', HRUN⟩ := hfn
    have j0 : (0 : Int) ≤ (j : Int) := by omega
    have j1 : (j : Int) < 2 := by omega
    obtain ⟨k, hk⟩ : ∃ k, fu % 2001 = k := ⟨_, rfl⟩
    have hk2 : k ≤ 2000 := by omega
    have htm : Int.tmod (fu : Int) 2001 = (k : Int) := by rw [tmod_fuel, hk]
    have hf0 : (0 : Int) ≤ (fu : Int) := by omega
    have hf1 : (fu : Int) ≤ 65535 := by omega
    have HRK := Lib.hid (HRUN.out k hk2)
    clear hk
    obtain ⟨z_1, T_1, F_1⟩ := HPr.out.open_
    obtain ⟨z_2, T_2, F_2⟩ := HSr.out.open_
    go_wp2_with fail
    refine (HRK.out wr HBR.out).mono ?_
    rintro en w6 ⟨v6, rfl, hres, hb6⟩
    have HB6 := Lib.hid (HBR.out.next hb6); have HX6 := Lib.hid (HX.out.next hb6)
    have HP6 := Lib.hid (HPr.out.next hb6); have HS6 := Lib.hid (HSr.out.next hb6)
    clear hb6 z_1 T_1 F_1 z_2 T_2 F_2 HPr HSr HRK cf
    cases hq : runP p back cs inp out k with
    | error x =>
     have hx0 := runP_ne0 hq
     rw [hq] at hres
     obtain ⟨uC, uI, uO, rfl, hs6⟩ := hres
     obtain ⟨A1, n1, c1, A2, n2, c2, A3, n3', c3, rfl, rfl, rfl⟩ := hs6.forms
     have hxn : (x != 0) = true := by simpa using hx0
     have HBY6 := Lib.hid (fun W hW => c_bytes (V := V) (Q := Q) (nv := nv) (cv := cv) (nq := nq) (cq := cq) (m := ⟨mk, mnum, mnm, mA, mn, mcap⟩) (w := w6) (w' := W) (Nat.le_refl _) (HVU.out w6 HB6.out) HNV.out (hs6.map (D' := (· < w6.heap.size)) (fun _ _ _ => rfl) (fun _ h => h.2)) HFIT.out hW)
     rw [HFI.out] at HBY6
     clear hs6 hx0 hq
     go_upto_region 8 with fail
     refine wp_nameE ?_
     intro w7 hw7
     have hb7 : Below w6.heap.size w6 w7 := by rw [hw7]; exact (by go_grown)
     have KR : Blk w7 w6.heap.size 41 #[.slice A1 n1 c1, .slice A2 n2 c2, .slice A3 n3' c3, .int .i64 0, .int .i64 x] := by rw [hw7]; exact blkA
     have HKR := Lib.hid KR; have HX7 := Lib.hid hb7
     have HP7 := Lib.hid (HP6.out.next hb7)
     clear hw7 hb7 KR
     obtain ⟨z_r, T_r, F_r⟩ := HKR.out.open_
     obtain ⟨z_1, T_1, F_1⟩ := HP7.out.open_
     go_wp2_with fail
     refine (HBY6.out w7 HX7.out).mono ?_
     rintro en w8 ⟨rfl, hb8⟩
     have HX8 := Lib.hid (HX6.out.next (HX7.out.next hb8))
     clear hb8 z_r T_r F_r z_1 T_1 F_1
     go_wp2_with fail
     exact ⟨⟨j + 1, by omega, by go_num, HX8.out⟩, by simp [intOf]; omega⟩
    | ok r =>
     obtain ⟨σ, f⟩ := r
     rw [hq] at hres
     obtain ⟨uC, uI, uO, rfl, hs6⟩ := hres
     obtain ⟨A1, n1, c1, A2, n2, c2, A3, n3', c3, rfl, rfl, rfl⟩ := hs6.forms
     have hfk : f ≤ k := (Fuels.execP p.procs 2001 back p.main _ k (by omega) σ f hq).1
     dsimp only at *
     obtain ⟨st, hst⟩ : ∃ st : Nat, k - f = st := ⟨_, rfl⟩
     have hsi : ((k : Int) - (f : Int)) = (st : Int) := by omega
     have hst3 : st ≤ k := by omega
     have hst4 : st - 1 ≤ 2000 := by omega
     rw [hsi]
     clear hs6 hsi
     go_upto_region 11 with fail
     refine wp_nameE ?_
     intro w7 hw7
     have hb7 : Below w6.heap.size w6 w7 := by rw [hw7]; exact (by go_grown)
     have KR : Blk w7 w6.heap.size 41 #[.slice A1 n1 c1, .slice A2 n2 c2, .slice A3 n3' c3, .int .i64 (st : Int), .int .i64 0] := by rw [hw7]; exact blkA
     have HKR := Lib.hid KR; have HX7 := Lib.hid (HX6.out.next hb7); have HB7 := Lib.hid (HB6.out.next hb7)
     have HP7 := Lib.hid (HP6.out.next hb7); have HS7 := Lib.hid (HS6.out.next hb7)
     clear hw7 hb7 KR HP6 HS6
     obtain ⟨z_r, T_r, F_r⟩ := HKR.out.open_
     rcases Nat.eq_zero_or_pos st with h0 | h0
     · subst h0
       go_wp2_with fail
       exact ⟨⟨j + 1, by omega, by go_num, HX7.out⟩, by simp [intOf]; omega⟩
     · have hless := (run_less hk2 hq (by omega)).2
       rw [hst] at hless
       have hs0 : ((st : Int) == 0) = false := by simp; omega
       have HRL := Lib.hid (HRUN.out (st - 1) hst4)
       rw [hless, show ((st - 1 : Nat) : Int) = (st : Int) - 1 by omega] at HRL
       clear hq hless hst hfk
       obtain ⟨z_1, T_1, F_1⟩ := HP7.out.open_
       obtain ⟨z_2, T_2, F_2⟩ := HS7.out.open_
       have hst2 : (st : Int) ≤ 2000 := by omega
       have hst1 : (1 : Int) ≤ (st : Int) := by omega
       go_wp2_with fail
       refine (HRL.out w7 HB7.out).mono ?_
       rintro en w8 ⟨v8, rfl, hres, hb8⟩
       obtain ⟨uC, uI, uO, rfl, hs8⟩ := hres
       obtain ⟨E1, m1, d1, E2, m2, d2, E3, m3, d3, rfl, rfl, rfl⟩ := hs8.forms
       have HX8 := Lib.hid (HX7.out.next hb8); have HB8 := Lib.hid (HB7.out.next hb8); have HP8 := Lib.hid (HP7.out.next hb8)
       have HBY8 := Lib.hid (fun W hW => c_bytes (V := V) (Q := Q) (nv := nv) (cv := cv) (nq := nq) (cq := cq) (m := ⟨mk, mnum, mnm, mA, mn, mcap⟩) (w := w8) (w' := W) (Nat.le_refl _) (HVU.out w8 HB8.out) HNV.out (hs8.map (D' := (· < w8.heap.size)) (fun _ _ _ => rfl) (fun _ h => h.2)) HFIT.out hW)
       rw [HFI.out] at HBY8
       clear hs8 hb8 z_r T_r F_r z_1 T_1 F_1 z_2 T_2 F_2
       go_upto_region 13 with fail
       refine wp_nameE ?_
       intro w9 hw9
       have hb9 : Below w8.heap.size w8 w9 := by rw [hw9]; exact (by go_grown)
       have KL : Blk w9 w8.heap.size 41 #[.slice E1 m1 d1, .slice E2 m2 d2, .slice E3 m3 d3, .int .i64 0, .int .i64 18] := by rw [hw9]; exact blkA
       have HKL := Lib.hid KL; have HY9 := Lib.hid hb9; have HX9 := Lib.hid (HX8.out.next hb9); have HP9 := Lib.hid (HP8.out.next hb9)
       clear hw9 hb9 KL
       obtain ⟨z_r, T_r, F_r⟩ := HKL.out.open_
       obtain ⟨z_1, T_1, F_1⟩ := HP9.out.open_
       go_wp2_with fail
       refine (HBY8.out w9 HY9.out).mono ?_
       rintro en w10 ⟨rfl, hb10⟩
       have HX10 := Lib.hid (HX9.out.next hb10)
       clear hb10 z_r T_r F_r z_1 T_1 F_1
       go_wp2_with fail
       exact ⟨⟨j + 1, by omega, by go_num, HX10.out⟩, by simp [intOf]; omega⟩
  · obtain rfl : j = 2 := by omega
    go_wp2_with fail
    go_ret
    exact ⟨rfl, HBR.out⟩
end
end Go.Proofs.YtakfdnnlhjhcfaaGreatDoor
