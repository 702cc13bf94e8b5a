/- WhW WhX. -/
import Derived.Test.YtakfdnnlhjhcfaaGreatDoorZWhV
set_option linter.unusedVariables false
set_option linter.unusedSimpArgs false
set_option linter.unusedSimpArgs false
set_option maxRecDepth 100000
set_option maxHeartbeats 4000000
namespace Go.Proofs.YtakfdnnlhjhcfaaGreatDoor
open Go.RowKit Bk
section
variable {w : World} {B d : Nat} (hBw : B ≤ w.heap.size) {g : FuncId} {p : Value} {look : ByteArray → Option (List Int)} (hL : LkAt w B g p look)
include hBw hL
theorem e_ExprG (e : Ex) (x : Nd) (hx : EV w B nameB e x) (hkv : KV w B d x) (w' : World) (hb : Below B w w') :
    Calls Tryz.prog 155 #[.agg #[.int .u8 x.k, .int .i64 x.num, .string x.nm, .slice x.A x.n x.cap], (.func (.func g) #[p] #[])] w' fun en w'' => en = .returned (.tuple #[.int .i64 (evalG look e).1, .int .i64 (evalG look e).2]) ∧ Below w'.heap.size w' w'' := by
  have HV := Lib.hid (e_valueG hBw hL e x hx)
  have HIS : Hid (∀ W, Below B w W → Calls Tryz.prog 122 #[.agg #[.int .u8 x.k, .int .i64 x.num, .string x.nm, .slice x.A x.n x.cap]] W fun en w'' => en = .returned (.bool true) ∧ Below W.heap.size W w'') := Lib.hid fun W hW => e_IsExpr hBw d x hkv W hW true ⟨fun _ => ⟨e, hx⟩, fun _ => rfl⟩
  obtain ⟨r, hr⟩ : ∃ r, evalG look e = r := ⟨_, rfl⟩
  rw [hr] at HV ⊢
  have hel := eql_look
  clear hL hx hkv hr
  obtain ⟨k, num, nm, A, n, cap⟩ := x
  dsimp only at *
  go_enter Tryz.func155, Tryz.ntmps155
  have hBw' : B ≤ w'.heap.size := (by have := hb.size; omega); have HB := Lib.hid hb; clear hb; go_upto_region 1 with fail; refine wp_nameE ?_; intro w1 hw1; have hb1 : Below w'.heap.size w' w1 := (by rw [hw1]; exact (by go_grown)); have K1 : Blk w1 w'.heap.size 26 #[.int .u8 k, .int .i64 num, .string nm, .slice A n cap] := (by rw [hw1]; exact blkA); have HK1 := Lib.hid K1; have HB1 := Lib.hid hb1; have HW1 := Lib.hid (HB.out.trans (hb1.mono hBw')); clear hw1 hb1; obtain ⟨z_1, T_1, F_1⟩ := K1.open_; clear K1; go_wp2_with fail
  refine (HIS.out w1 HW1.out).mono ?_
  rintro en w2 ⟨rfl, hb2⟩; have HB2 := Lib.hid (HB1.out.next hb2); have HW2 := Lib.hid (HB.out.trans ((HB1.out.next hb2).mono hBw')); have K2 := HK1.out.next hb2; clear T_1 z_1 F_1 hb2; have HK2 := Lib.hid K2; obtain ⟨z_1, T_1, F_1⟩ := K2.open_; clear K2
  go_wp2_with fail
  refine (HV.out w2 HW2.out).mono ?_
  rintro en w3 ⟨rfl, hb3⟩
  have HB3 := Lib.hid (HB2.out.next hb3)
  clear T_1 z_1 F_1 hb3
  go_wp2_with fail
  refine bodyPost_ret_by (results_tmp2 rfl _ _ _) rfl ?_
  exact ⟨rfl, HB3.out⟩
theorem e_TestG (e : Ex) (x : Nd) (hx : EV w B nameB e x) (hkv : KV w B d x) (w' : World) (hb : Below B w w') :
    Calls Tryz.prog 153 #[.agg #[.int .u8 x.k, .int .i64 x.num, .string x.nm, .slice x.A x.n x.cap], (.func (.func g) #[p] #[])] w' fun en w'' => en = .returned (.tuple #[.bool (decide ((evalG look e).1 ≠ 0)), .int .i64 (evalG look e).2]) ∧ Below w'.heap.size w' w'' := by
  have HV := Lib.hid (fun W hW => e_ExprG hBw hL e x hx hkv W hW)
  obtain ⟨r, hr⟩ : ∃ r, evalG look e = r := ⟨_, rfl⟩
  rw [hr] at HV ⊢
  clear hL hx hkv hr
  obtain ⟨k, num, nm, A, n, cap⟩ := x
  dsimp only at *
  obtain ⟨rb, hrb⟩ : ∃ rb, decide (r.1 ≠ 0) = rb := ⟨_, rfl⟩
  have hrb' : (r.1 != 0) = rb := by rw [← hrb]; by_cases h : r.1 = 0 <;> simp [h]
  rw [hrb]
  have HRB := Lib.hid hrb
  obtain ⟨r1, r2⟩ := r
  dsimp only at *
  clear hrb
  go_enter Tryz.func153, Tryz.ntmps153
  have hBw' : B ≤ w'.heap.size := (by have := hb.size; omega); have HB := Lib.hid hb; clear hb; go_upto_region 1 with fail; refine wp_nameE ?_; intro w1 hw1; have hb1 : Below w'.heap.size w' w1 := (by rw [hw1]; exact (by go_grown)); have K1 : Blk w1 w'.heap.size 26 #[.int .u8 k, .int .i64 num, .string nm, .slice A n cap] := (by rw [hw1]; exact blkA); have HK1 := Lib.hid K1; have HB1 := Lib.hid hb1; have HW1 := Lib.hid (HB.out.trans (hb1.mono hBw')); clear hw1 hb1; obtain ⟨z_1, T_1, F_1⟩ := K1.open_; clear K1; go_wp2_with fail
  refine (HV.out w1 HW1.out).mono ?_
  rintro en w2 ⟨rfl, hb2⟩; have HB2 := Lib.hid (HB1.out.next hb2); have HW2 := Lib.hid (HB.out.trans ((HB1.out.next hb2).mono hBw')); have K2 := HK1.out.next hb2; clear T_1 z_1 F_1 hb2; have HK2 := Lib.hid K2; obtain ⟨z_1, T_1, F_1⟩ := K2.open_; clear K2
  go_wp2_with fail
  refine bodyPost_ret_by (results_tmp2 rfl _ _ _) rfl ?_
  exact ⟨rfl, HB2.out⟩
omit hBw hL in
theorem pl_of_ev {e : Ex} {x : Nd} (hx : EV w B nameB e x) (hp : e.isPl) : plB w B x = true := by
  unfold plB
  have h1 : exB w B x = true := by simp [exB]; exact ⟨e, hx⟩
  rw [h1, Bool.and_true]
  cases e with
  | var s => simp [hx.1]
  | item s a => simp [hx.1]
  | num v => exact hp.elim
  | top s => exact hp.elim
  | size s => exact hp.elim
  | un op a => exact hp.elim
  | bin op a b => exact hp.elim
theorem e_IndexG (e : Ex) (x : Nd) (hx : EV w B nameB e x) (hp : e.isPl) (hkv : KV w B d x) (w' : World) (hb : Below B w w') :
    Calls Tryz.prog 157 #[.agg #[.int .u8 x.k, .int .i64 x.num, .string x.nm, .slice x.A x.n x.cap], (.func (.func g) #[p] #[])] w' fun en w'' => en = .returned (.tuple #[.int .i64 (indexE look e).1, .int .i64 (indexE look e).2]) ∧ Below w'.heap.size w' w'' := by
  have HIS : Hid (∀ W, Below B w W → Calls Tryz.prog 121 #[.agg #[.int .u8 x.k, .int .i64 x.num, .string x.nm, .slice x.A x.n x.cap]] W fun en w'' => en = .returned (.bool true) ∧ Below W.heap.size W w'') := Lib.hid fun W hW => by have := e_IsPlace hBw x hkv W hW; rwa [pl_of_ev hx hp] at this
  have hel := eql_look
  cases e with
  | num v => exact hp.elim
  | top s => exact hp.elim
  | size s => exact hp.elim
  | un op a => exact hp.elim
  | bin op a b => exact hp.elim
  | var s =>
    obtain ⟨h1, h2, h3, h4, h5⟩ := hx
    clear h2 h3 h4 h5
    show Calls _ _ _ _ fun en w'' => en = .returned (.tuple #[.int .i64 0, .int .i64 0]) ∧ _
    clear hL hkv
    obtain ⟨k, num, nm, A, n, cap⟩ := x
    dsimp only at *
    have k2 : (k == 2) = true := beq_iff_eq.2 h1
    clear h1
    go_enter Tryz.func157, Tryz.ntmps157
    have hBw' : B ≤ w'.heap.size := (by have := hb.size; omega); have HB := Lib.hid hb; clear hb; go_upto_region 1 with fail; refine wp_nameE ?_; intro w1 hw1; have hb1 : Below w'.heap.size w' w1 := (by rw [hw1]; exact (by go_grown)); have K1 : Blk w1 w'.heap.size 26 #[.int .u8 k, .int .i64 num, .string nm, .slice A n cap] := (by rw [hw1]; exact blkA); have HK1 := Lib.hid K1; have HB1 := Lib.hid hb1; have HW1 := Lib.hid (HB.out.trans (hb1.mono hBw')); clear hw1 hb1; obtain ⟨z_1, T_1, F_1⟩ := K1.open_; clear K1; go_wp2_with fail
    refine (HIS.out w1 HW1.out).mono ?_
    rintro en w2 ⟨rfl, hb2⟩; have HB2 := Lib.hid (HB1.out.next hb2); have HW2 := Lib.hid (HB.out.trans ((HB1.out.next hb2).mono hBw')); have K2 := HK1.out.next hb2; clear T_1 z_1 F_1 hb2; have HK2 := Lib.hid K2; obtain ⟨z_1, T_1, F_1⟩ := K2.open_; clear K2
    go_wp2_with fail
    refine bodyPost_ret_by (results_tmp2 rfl _ _ _) rfl ?_
    exact ⟨rfl, HB2.out⟩
  | item s a =>
    obtain ⟨h1, h2, h3, h4, h5, y, hky, h7⟩ := hx
    have HV := Lib.hid (e_valueG hBw hL a y h7)
    show Calls _ _ _ _ fun en w'' => en = .returned (.tuple #[.int .i64 (evalG look a).1, .int .i64 (evalG look a).2]) ∧ _
    obtain ⟨r, hr⟩ : ∃ r, evalG look a = r := ⟨_, rfl⟩
    rw [hr] at HV ⊢
    have HKY := Lib.hid hky
    clear hL hkv hr hky h7
    obtain ⟨k, num, nm, A, n, cap⟩ := x
    dsimp only at *
    have k2 : (k == 2) = false := beq_eq_false_iff_ne.2 (by omega)
    have q0 : (0 : Int) < (n : Int) := by omega
    clear h1 h2 h3 h4 h5
    go_enter Tryz.func157, Tryz.ntmps157
    have hBw' : B ≤ w'.heap.size := (by have := hb.size; omega); have HB := Lib.hid hb; clear hb; go_upto_region 1 with fail; refine wp_nameE ?_; intro w1 hw1; have hb1 : Below w'.heap.size w' w1 := (by rw [hw1]; exact (by go_grown)); have K1 : Blk w1 w'.heap.size 26 #[.int .u8 k, .int .i64 num, .string nm, .slice A n cap] := (by rw [hw1]; exact blkA); have HK1 := Lib.hid K1; have HB1 := Lib.hid hb1; have HW1 := Lib.hid (HB.out.trans (hb1.mono hBw')); clear hw1 hb1; obtain ⟨z_1, T_1, F_1⟩ := K1.open_; clear K1; go_wp2_with fail
    refine (HIS.out w1 HW1.out).mono ?_
    rintro en w2 ⟨rfl, hb2⟩; have HB2 := Lib.hid (HB1.out.next hb2); have HW2 := Lib.hid (HB.out.trans ((HB1.out.next hb2).mono hBw')); have K2 := HK1.out.next hb2; clear T_1 z_1 F_1 hb2; have HK2 := Lib.hid K2; obtain ⟨z_1, T_1, F_1⟩ := K2.open_; clear K2
    obtain ⟨gk, ok, hAk, hgk, c0, c1, c2, c3⟩ := HKY.out.cells HW2.out
    rw [Nat.zero_mul, Nat.add_zero] at c0 c1 c2 c3
    dsimp only at hAk
    subst hAk
    go_wp2_with fail
    refine (HV.out w2 HW2.out).mono ?_
    rintro en w3 ⟨rfl, hb3⟩
    have HB3 := Lib.hid (HB2.out.next hb3)
    clear T_1 z_1 F_1 hb3 c0 c1 c2 c3
    go_wp2_with fail
    refine bodyPost_ret_by (results_tmp2 rfl _ _ _) rfl ?_
    exact ⟨rfl, HB3.out⟩
end
end Go.Proofs.YtakfdnnlhjhcfaaGreatDoor
namespace Bk
open Go Go.RowKit
theorem EV.upS {w w' : World} {B B' : Nat} {nb : ByteArray → Bool} {e : Ex} {x : Nd} (h : EV w B nb e x) (hb : Below B w w') (hB : B ≤ B') : EV w' B' nb e x := by
  have up : ∀ (e : Ex) (x : Nd), EV w' B nb e x → EV w' B' nb e x := by
    intro e
    have ku : ∀ {x y : Nd} {i : Nat}, Kid w' B x i y → Kid w' B' x i y := fun ⟨g, o, h1, h2, h3⟩ => ⟨g, o, h1, Nat.lt_of_lt_of_le h2 hB, h3⟩
    induction e with
    | num v => exact fun x h => h
    | var s => exact fun x h => h
    | top s => exact fun x h => h
    | size s => exact fun x h => h
    | item s a ih => exact fun x ⟨h1, h2, h3, h4, h5, y, h6, h7⟩ => ⟨h1, h2, h3, h4, h5, y, ku h6, ih y h7⟩
    | un op a ih => exact fun x ⟨h1, h2, h3, h4, h5, y, h6, h7⟩ => ⟨h1, h2, h3, h4, h5, y, ku h6, ih y h7⟩
    | bin op a b iha ihb => exact fun x ⟨h1, h2, h3, h4, h5, y, z, h6, h7, h8, h9⟩ => ⟨h1, h2, h3, h4, h5, y, z, ku h6, ku h7, iha y h8, ihb z h9⟩
  exact up e x (h.next hb e x)
theorem KV.upS {w w' : World} {B B' d : Nat} {x : Nd} (h : KV w B d x) (hb : Below B w w') (hB : B ≤ B') : KV w' B' d x := by
  have up : ∀ (d : Nat) (x : Nd), KV w' B d x → KV w' B' d x := by
    intro d
    induction d with
    | zero => exact fun x h => h
    | succ d ih => exact fun x ⟨h1, h2, h3, h4, h5, h6⟩ => ⟨h1, h2, h3, h4, h5, fun i hi => let ⟨y, ⟨g, o, a, b, c⟩, h8⟩ := h6 i hi; ⟨y, ⟨g, o, a, Nat.lt_of_lt_of_le b hB, c⟩, ih y h8⟩⟩
  exact up d x (KV.next hb d x h)
end Bk
namespace Go.Proofs.YtakfdnnlhjhcfaaGreatDoor
open Go.RowKit Bk
structure RAt (w0 : World) (B0 : Nat) (w : World) (r : Nat) (R : Rn) (S : Sv) (σ : PSt) (fuel f : Nat) (kd : Nat → Int) (m : Nat) : Prop where
  base : Below B0 w0 w
  blk : Blk w r 86 (R.cells ((fuel : Int) - f) fuel)
  on : SOn w B0 S σ
  ok : σ.Ok kd m
  st : S.st = R.st
  ro : S.ro r = .none
  rb : B0 ≤ r
  ent : ∃ g cp n xs, R.ent = .slice (some ⟨g, 0, none⟩) n cp ∧ w.ownsRow B0 3 1 R.ent n (intCells xs) ∧ xs.length = n ∧ S.ro g = .none ∧ g ≠ r
  ff : f ≤ fuel
  fm : m + f ≤ 3000
  fu : fuel ≤ 2000
  m0 : 32 ≤ m
  kx : ∀ b, R.X b → b < w.heap.size ∧ S.ro b = .none ∧ b ≠ r ∧ R.ent.ownBlock ≠ some b
  kp : ∀ b, R.X b → w.heap[b]? = w0.heap[b]?
def Bs (w0 : World) (B0 : Nat) (R : Rn) (w : World) : Prop := Below B0 w0 w ∧ ∀ b, R.X b → w.heap[b]? = w0.heap[b]?
def RO (S : Sv) (R : Rn) (r : Nat) (k : Nat) : Prop := S.ro k ≠ .none ∨ k = r ∨ R.ent.ownBlock = some k
section
variable {w0 w w' : World} {B0 r fuel f m : Nat} {R : Rn} {S : Sv} {σ : PSt} {kd : Nat → Int}
theorem RAt.bs (h : RAt w0 B0 w r R S σ fuel f kd m) : Bs w0 B0 R w := ⟨h.base, h.kp⟩
theorem RAt.kpF (h : RAt w0 B0 w r R S σ fuel f kd m) {O : Nat → Prop} (hf : Fr O w w') (hO : ∀ b, S.ro b = .none → b ≠ r → R.ent.ownBlock ≠ some b → ¬ O b) : ∀ b, R.X b → w'.heap[b]? = w0.heap[b]? := fun b hb => (hf.block b (h.kx b hb).1 (hO b (h.kx b hb).2.1 (h.kx b hb).2.2.1 (h.kx b hb).2.2.2)).trans (h.kp b hb)
theorem RAt.kxF (h : RAt w0 B0 w r R S σ fuel f kd m) {S' : Sv} (hx : S.Ext S' w) (hs : w.heap.size ≤ w'.heap.size) : ∀ b, R.X b → b < w'.heap.size ∧ S'.ro b = .none ∧ b ≠ r ∧ R.ent.ownBlock ≠ some b := fun b hb => ⟨Nat.lt_of_lt_of_le (h.kx b hb).1 hs, (hx.2 b (h.kx b hb).1).trans (h.kx b hb).2.1, (h.kx b hb).2.2⟩
theorem RAt.next (h : RAt w0 B0 w r R S σ fuel f kd m) (hb : Below w.heap.size w w') (hB : B0 ≤ w.heap.size) : RAt w0 B0 w' r R S σ fuel f kd m := by
  obtain ⟨g, cp, n, xs, e1, e2, e3⟩ := h.ent
  exact ⟨h.base.trans (hb.mono hB), h.blk.next hb, h.on.next hb, h.ok, h.st, h.ro, h.rb, ⟨g, cp, n, xs, e1, own_below e2 hb (Nat.le_refl _), e3⟩, h.ff, h.fm, h.fu, h.m0, h.kxF (Sv.Ext.refl _ _) hb.size, h.kpF (Fr.of (O := fun _ => False) hb) fun _ _ _ _ h => h⟩
theorem RAt.B (h : RAt w0 B0 w r R S σ fuel f kd m) : B0 ≤ w.heap.size := Nat.le_trans h.rb (Nat.le_of_lt h.blk.lt)
theorem RAt.lk (h : RAt w0 B0 w r R S σ fuel f kd m) : LkAt w w.heap.size 154 (.pointer (some ⟨R.st, 0, none⟩)) σ.look :=
  ⟨fun _ _ => rfl, fun s w' hb => by have := c_Cell (h.on.next hb) h.ok (by have := h.fm; omega) s; rwa [h.st] at this, fun s l hl => h.ok.lookLen hl⟩
theorem c_value {d : Nat} (h : RAt w0 B0 w r R S σ fuel f kd m) {e : Ex} {x : Nd} (hx : EV w0 B0 nameB e x) (hk : KV w0 B0 d x) :
    Calls Tryz.prog 128 #[.pointer (some ⟨r, 0, none⟩), .agg #[.int .u8 x.k, .int .i64 x.num, .string x.nm, .slice x.A x.n x.cap]] w fun en w' => (if (evalG σ.look e).2 ≠ 0 then en = FailE (evalG σ.look e).2 else en = .returned (.int .i64 (evalG σ.look e).1)) ∧ Below w.heap.size w w' := by
  have HE := Lib.hid (fun W hW => e_ExprG (Nat.le_refl _) h.lk e x (hx.upS h.base h.B) (hk.upS h.base h.B) W hW)
  have HK := Lib.hid h.blk
  have HF := Lib.hid (fun (y : Int) (hy : y ≠ 0) W => c_checkF (.pointer (some ⟨r, 0, none⟩)) y hy W)
  have HC := Lib.hid (fun W => c_check0 (.pointer (some ⟨r, 0, none⟩)) W)
  have hrl := h.blk.lt
  obtain ⟨q, hq⟩ : ∃ q, evalG σ.look e = q := ⟨_, rfl⟩
  rw [hq] at HE ⊢
  obtain ⟨v, er⟩ := q
  dsimp only at *
  clear h hx hk hq
  obtain ⟨k, num, nm, A, n, cap⟩ := x
  dsimp only at *
  unfold FailE at *
  unfold Rn.cells at HK
  obtain ⟨V, Q, M, st, ent, RX⟩ := R
  dsimp only at HK HE
  go_enter Tryz.func128, Tryz.ntmps128
  go_upto_region 1 with fail
  refine wp_nameE ?_
  intro w1 hw1
  have hb1 : Below w.heap.size w w1 := (by rw [hw1]; exact (by go_grown))
  have K1 : Blk w1 w.heap.size 26 #[.int .u8 k, .int .i64 num, .string nm, .slice A n cap] := (by rw [hw1]; exact blkA)
  have HK1 := Lib.hid K1; have HB1 := Lib.hid hb1
  have K2 := Lib.hid (HK.out.next hb1)
  clear hw1 hb1 K1
  refine wp_region_grow (by kernel_rfl) (by kernel_rfl) ?_; intro W hW; have hneW : Nonempty (Grw W) := ⟨⟨W, Below.refl _ _⟩⟩; have HBz := Lib.hid (fun z => Below.next (show Below w.heap.size w W by rw [hW]; exact HB1.out) (grow_below W z)); have HXz := Lib.hid (fun z => (show Below w1.heap.size w1 (grow W z) by rw [← hW]; exact grow_below W z)); have Z_1 := fun z => (HK1.out.next (w' := grow W z) (by rw [← hW]; exact grow_below W z)).cell; have Z_2 := fun z => (K2.out.next (w' := grow W z) (by rw [← hW]; exact grow_below W z)).cell; have HW := Lib.hid hW; clear hW
  repeat (go_big_quiet_step ((first | (go_at_call 155; with_reducible exact quiet_grow (HE.out _ (HBz.out _))))))
  refine wpQuiet_nil ?_; rintro _ ⟨z, rfl⟩; have HB2 := Lib.hid (HBz.out z); have HX2 := Lib.hid (HXz.out z); clear Z_1 Z_2 HBz HXz; generalize grow W z = w2 at *; clear HW hneW
  by_cases h0 : er = 0
  · subst h0
    go_wp2_with fail
    refine (HC.out w2).mono ?_
    rintro en w3 ⟨rfl, rfl⟩
    go_wp2_with fail
    go_ret
    exact ⟨by simp, HB2.out⟩
  · go_wp2_with fail
    refine (HF.out er h0 w2).mono ?_
    rintro en w3 ⟨rfl, rfl⟩
    go_wp2_with fail
    exact ⟨rfl, by simp [h0], HB2.out⟩
def holdsR (look : ByteArray → Option (List Int)) (e : Ex) (f : Nat) : Except Int (Bool × Nat) := match f with
  | 0 => .error 18
  | f + 1 => if (evalG look e).2 ≠ 0 then .error (evalG look e).2 else .ok (decide ((evalG look e).1 ≠ 0), f)
theorem holdsM_eq (e : Ex) (k : Bool → Mo) (σ : PSt) (f : Nat) : holdsM e k σ f = match holdsR σ.look e f with
    | .error x => .error x
    | .ok r => k r.1 σ r.2 := by
  unfold holdsM holdsR
  cases f with
  | zero => rfl
  | succ f =>
    simp only [Mo.seq, stepM, valueM]
    by_cases h : (evalG σ.look e).2 ≠ 0
    · rw [if_pos h]; simp only [if_pos h]
    · rw [if_neg h]; simp only [if_neg h]
def HoldP (w0 : World) (B0 : Nat) (w : World) (r : Nat) (R : Rn) (S : Sv) (σ : PSt) (fuel : Nat) (kd : Nat → Int) (m : Nat) (q : Except Int (Bool × Nat)) (en : Ending) (w' : World) : Prop := match q with
  | .error x => en = FailE x ∧ Bs w0 B0 R w'
  | .ok b => en = .returned (.bool b.1) ∧ RAt w0 B0 w' r R S σ fuel b.2 kd m ∧ Fr (RO S R r) w w'
theorem RAt.stepTo (h : RAt w0 B0 w r R S σ fuel (f + 1) kd m) (hb : Blk w' r 86 (R.cells ((fuel : Int) - f) fuel)) (hf : Fr (fun k => k = r) w w') : RAt w0 B0 w' r R S σ fuel f kd m := by
  obtain ⟨g, cp, n, xs, e1, e2, e3, e4, e5⟩ := h.ent
  have hB := h.B
  refine ⟨h.base.trans (hf.below hB fun k hk => by rw [hk]; exact h.rb), hb, h.on.other hf fun k _ hk => by rw [hk]; exact h.ro, h.ok, h.st, h.ro, h.rb, ⟨g, cp, n, xs, e1, own_fr e2 hf fun k hk => ?_, e3, e4, e5⟩, by have := h.ff; omega, by have := h.fm; omega, h.fu, h.m0, h.kxF (Sv.Ext.refl _ _) hf.size, h.kpF hf fun b _ h2 _ => h2⟩
  rw [e1] at hk; injection hk with hk; subst hk; exact e5
theorem c_stepR (h : RAt w0 B0 w r R S σ fuel (f + 1) kd m) : Calls Tryz.prog 103 #[.pointer (some ⟨r, 0, none⟩)] w fun e w' => e = .returned (.tuple #[]) ∧ RAt w0 B0 w' r R S σ fuel f kd m ∧ Fr (fun k => k = r) w w' := by
  have hff := h.ff; have hfu := h.fu
  have hb := h.blk
  refine (c_step hb (by omega) (by omega) (by omega)).mono ?_
  rintro e w' ⟨he, h1, h2⟩
  rw [show (fuel : Int) - ((f + 1 : Nat) : Int) + 1 = (fuel : Int) - f by omega] at h1
  exact ⟨he, h.stepTo h1 h2, h2⟩
theorem c_stepRF (h : RAt w0 B0 w r R S σ fuel 0 kd m) : Calls Tryz.prog 103 #[.pointer (some ⟨r, 0, none⟩)] w fun e w' => e = FailE 18 ∧ Bs w0 B0 R w' := by
  refine (c_stepF h.blk (by omega)).mono ?_
  rintro e w' ⟨he, h1⟩
  exact ⟨he, (h.next h1 h.B).bs⟩
theorem c_holds {d : Nat} (h : RAt w0 B0 w r R S σ fuel f kd m) {e : Ex} {x : Nd} (hx : EV w0 B0 nameB e x) (hk : KV w0 B0 d x) :
    Calls Tryz.prog 126 #[.pointer (some ⟨r, 0, none⟩), .agg #[.int .u8 x.k, .int .i64 x.num, .string x.nm, .slice x.A x.n x.cap]] w fun en w' => HoldP w0 B0 w r R S σ fuel kd m (holdsR σ.look e f) en w' := by
  have hrl := h.blk.lt
  have h1 : ∀ w1, Below w.heap.size w w1 → RAt w0 B0 w1 r R S σ fuel f kd m := fun w1 hb => h.next hb h.B
  have hB := h.B
  have HH := Lib.hid h1
  have hst := h.st
  cases f with
  | zero =>
    have HS := Lib.hid (fun w1 hb => c_stepRF (h1 w1 hb))
    show Calls _ _ _ _ fun en w' => en = FailE 18 ∧ Bs w0 B0 R w'
    clear h h1 hx hk HH
    obtain ⟨k, num, nm, A, n, cap⟩ := x
    unfold FailE at *
    dsimp only
    go_enter Tryz.func126, Tryz.ntmps126
    go_wp2_with fail
    refine (HS.out _ (by go_grown)).mono ?_
    rintro en w2 ⟨rfl, hb2⟩
    have HB2 := Lib.hid hb2
    clear hb2
    go_wp2_with fail
    exact ⟨rfl, rfl, HB2.out⟩
  | succ f =>
    have HS := Lib.hid (fun w1 hb => c_stepR (h1 w1 hb))
    have HT := Lib.hid (fun W (hW : RAt w0 B0 W r R S σ fuel f kd m) W' hW' => e_TestG (Nat.le_refl _) hW.lk e x (hx.upS hW.base hW.B) (hk.upS hW.base hW.B) W' hW')
    have HF := Lib.hid (fun (y : Int) (hy : y ≠ 0) W => c_checkF (.pointer (some ⟨r, 0, none⟩)) y hy W)
    have HC := Lib.hid (fun W => c_check0 (.pointer (some ⟨r, 0, none⟩)) W)
    unfold holdsR
    dsimp only
    obtain ⟨q, hq⟩ : ∃ q, evalG σ.look e = q := ⟨_, rfl⟩
    rw [hq] at HT ⊢
    obtain ⟨v, er⟩ := q
    dsimp only at *
    obtain ⟨rb, hrb⟩ : ∃ rb, decide (v ≠ 0) = rb := ⟨_, rfl⟩
    rw [hrb] at HT ⊢
    obtain ⟨qr, hqr⟩ : ∃ qr : Except Int (Bool × Nat), (if er ≠ 0 then .error er else .ok (rb, f)) = qr := ⟨_, rfl⟩
    rw [hqr]
    have HQR := Lib.hid hqr
    clear h h1 hx hk hq hrb hqr
    unfold FailE at HF
    obtain ⟨k, num, nm, A, n, cap⟩ := x
    dsimp only at *
    go_enter Tryz.func126, Tryz.ntmps126
    go_upto_region 1 with fail
    refine wp_nameE ?_
    intro wa hwa
    have hba : Below w.heap.size w wa := (by rw [hwa]; exact (by go_grown))
    have K1 : Blk wa w.heap.size 26 #[.int .u8 k, .int .i64 num, .string nm, .slice A n cap] := (by rw [hwa]; exact blkA)
    have HKA := Lib.hid K1; have HBA := Lib.hid hba
    clear hwa hba K1
    go_wp2_with fail
    refine (HS.out wa HBA.out).mono ?_
    rintro en w1 ⟨rfl, hr1, hf1⟩
    have HK1 := Lib.hid (hf1.blk HKA.out (by omega))
    have HR1 := Lib.hid hr1; have HF1 := Lib.hid hf1
    have HB1 : Hid (Below w1.heap.size w1 w1) := Lib.hid (Below.refl _ _)
    have HKR := Lib.hid hr1.blk
    have HSZ : Hid (w.heap.size ≤ w1.heap.size) := Lib.hid (Nat.le_trans HBA.out.size hf1.size)
    clear hr1 hf1 HS
    go_wp2_with fail
    obtain ⟨V, Q, M, st, ent, RX⟩ := R
    unfold Rn.cells at HKR
    dsimp only at HKR HT hst
    have K2 := HKR
    refine wp_region_grow (by kernel_rfl) (by kernel_rfl) ?_; intro W hW; have hneW : Nonempty (Grw W) := ⟨⟨W, Below.refl _ _⟩⟩; have HBz := Lib.hid (fun z => Below.next (show Below w1.heap.size w1 W by rw [hW]; exact HB1.out) (grow_below W z)); have HXz := Lib.hid (fun z => (show Below w1.heap.size w1 (grow W z) by rw [← hW]; exact grow_below W z)); have Z_1 := fun z => (HK1.out.next (w' := grow W z) (by rw [← hW]; exact grow_below W z)).cell; have Z_2 := fun z => (K2.out.next (w' := grow W z) (by rw [← hW]; exact grow_below W z)).cell; have HW := Lib.hid hW; clear hW
    repeat (go_big_quiet_step ((first | (go_at_call 153; with_reducible exact quiet_grow (HT.out _ HR1.out _ (HBz.out _))))))
    refine wpQuiet_nil ?_; rintro _ ⟨z, rfl⟩; have HB2 := Lib.hid (HBz.out z); have HX2 := Lib.hid (HXz.out z); clear Z_1 Z_2 HBz HXz; generalize grow W z = w2 at *; clear HW hneW
    by_cases h0 : er = 0
    · subst h0
      go_wp2_with fail
      refine (HC.out w2).mono ?_
      rintro en w3 ⟨rfl, rfl⟩
      go_wp2_with fail
      go_ret
      rw [← HQR.out]
      exact ⟨rfl, HR1.out.next HX2.out HR1.out.B, ((Fr.of HBA.out).trans (HF1.out.mono fun k hk => .inr (.inl hk))).next HX2.out⟩
    · go_wp2_with fail
      refine (HF.out er h0 w2).mono ?_
      rintro en w3 ⟨rfl, rfl⟩
      go_wp2_with fail
      rw [← HQR.out, if_pos h0]
      exact ⟨rfl, rfl, (HR1.out.next HX2.out HR1.out.B).bs⟩
def RunP (w0 : World) (B0 : Nat) (w : World) (r : Nat) (R : Rn) (S : Sv) (fuel : Nat) (q : Except Int (PSt × Nat)) (en : Ending) (w' : World) : Prop := match q with
  | .error x => en = FailE x ∧ Bs w0 B0 R w'
  | .ok p => en = .returned (.tuple #[]) ∧ ∃ S' kd' m', RAt w0 B0 w' r R S' p.1 fuel p.2 kd' m' ∧ S.Ext S' w ∧ Fr (RO S R r) w w'
theorem RO.fr {S S' : Sv} {w' w'' : World} (h : S.Ext S' w) (h1 : Fr (RO S R r) w w') (h2 : Fr (RO S' R r) w' w'') : Fr (RO S R r) w w'' :=
  ⟨h2.os.trans h1.os, h2.tape.trans h1.tape, h2.output.trans h1.output, Nat.le_trans h1.size h2.size, fun k hk ho => (h2.block k (Nat.lt_of_lt_of_le hk h1.size) (fun hn => ho (by unfold RO at *; rwa [h.2 k hk] at hn))).trans (h1.block k hk ho)⟩
theorem RunP.pre {S' : Sv} {q : Except Int (PSt × Nat)} {en : Ending} {w'' : World} (hx : S.Ext S' w) (hf : Fr (RO S R r) w w') (h : RunP w0 B0 w' r R S' fuel q en w'') : RunP w0 B0 w r R S fuel q en w'' := by
  cases q with
  | error x => exact h
  | ok p =>
    obtain ⟨h1, S2, kd2, m2, h2, h3, h4⟩ := h
    exact ⟨h1, S2, kd2, m2, h2, hx.trans h3 hf.size, RO.fr hx hf h4⟩
theorem c_assert {d : Nat} (h : RAt w0 B0 w r R S σ fuel f kd m) {e : Ex} {x : Nd} (hx : EV w0 B0 nameB e x) (hk : KV w0 B0 d x) (want : Bool) :
    Calls Tryz.prog 127 #[.pointer (some ⟨r, 0, none⟩), .agg #[.int .u8 x.k, .int .i64 x.num, .string x.nm, .slice x.A x.n x.cap], .bool want] w fun en w' => RunP w0 B0 w r R S fuel (assertM e want σ f) en w' := by
  have h1 : ∀ w1, Below w.heap.size w w1 → RAt w0 B0 w1 r R S σ fuel f kd m := fun w1 hb => h.next hb h.B
  have HH := Lib.hid (fun w1 hb => c_holds (h1 w1 hb) hx hk)
  have HF := Lib.hid (c_Fail 15 (by decide))
  unfold assertM
  rw [holdsM_eq]
  obtain ⟨q, hq⟩ : ∃ q, holdsR σ.look e f = q := ⟨_, rfl⟩
  rw [hq] at HH ⊢
  clear h h1 hx hk hq
  obtain ⟨k, num, nm, A, n, cap⟩ := x
  dsimp only at *
  cases q with
  | error y =>
    unfold HoldP FailE at HH
    dsimp only at HH
    go_enter Tryz.func127, Tryz.ntmps127
    go_wp2_with fail
    refine (HH.out _ (by go_grown)).mono ?_
    rintro en w2 ⟨rfl, hb2⟩
    have HB2 := Lib.hid hb2
    clear hb2
    go_wp2_with fail
    exact ⟨rfl, rfl, HB2.out⟩
  | ok b =>
    unfold HoldP at HH
    dsimp only at HH
    obtain ⟨b, f'⟩ := b
    dsimp only at *
    unfold FailE at HF
    go_enter Tryz.func127, Tryz.ntmps127
    go_upto_region 1 with fail
    refine wp_nameE ?_
    intro wa hwa
    have hba : Below w.heap.size w wa := (by rw [hwa]; exact (by go_grown))
    have K1 : Blk wa w.heap.size 26 #[.int .u8 k, .int .i64 num, .string nm, .slice A n cap] := (by rw [hwa]; exact blkA)
    have HBA := Lib.hid hba
    clear hwa hba
    obtain ⟨z_1, T_1, F_1⟩ := K1.open_
    clear K1
    go_wp2_with fail
    refine (HH.out _ HBA.out).mono ?_
    rintro en w2 ⟨rfl, hr2, hf2⟩
    have HR2 := Lib.hid hr2; have HF2 := Lib.hid hf2
    clear hr2 hf2 T_1 z_1 F_1
    cases b <;> cases want
    all_goals
      go_wp2_with fail
      first
        | (refine bodyPost_end (results_none rfl _ _ _) rfl ?_
           exact RunP.pre (Sv.Ext.refl _ _) (Fr.of HBA.out) ⟨rfl, S, kd, m, HR2.out, Sv.Ext.refl _ _, HF2.out⟩)
        | (refine (HF.out _).mono ?_
           rintro en w3 ⟨rfl, rfl⟩
           go_wp2_with fail
           exact ⟨rfl, rfl, HR2.out.bs⟩)
end
end Go.Proofs.YtakfdnnlhjhcfaaGreatDoor
