/- WhDo WhAd. -/
import Derived.Test.YtakfdnnlhjhcfaaGreatDoorZWhEk
set_option linter.unusedVariables false
set_option linter.unusedSimpArgs false
set_option linter.unusedSimpArgs false
set_option maxRecDepth 100000
set_option maxHeartbeats 4000000
namespace Bk
open Go Go.RowKit Go.Proofs.YtakfdnnlhjhcfaaGreatDoor
theorem StAt.upS {w w' : World} {B B' : Nat} (hb : Below B w w') (hB : B ≤ B') : ∀ (d : Nat) (s : Sq) (x : Nd), StAt w B d s x → StAt w' B' d s x
  | 0, _, _, h => h.elim
  | d + 1, s, x, h => by
    have up := fun (s : Sq) (y : Nd) (h : SqAt w B d s y) => (⟨h.1, h.2.1, fun i hi => let ⟨z, a, b⟩ := h.2.2 i hi; ⟨z, a.upS hb hB, StAt.upS hb hB d _ _ b⟩⟩ : SqAt w' B' d s y)
    cases s with
    | nil => exact h
    | upd op p e r => obtain ⟨h1, h2, h3, h4, h5, y, z, k0, k1, v0, v1⟩ := h; exact ⟨h1, h2, h3, h4, h5, y, z, k0.upS hb hB, k1.upS hb hB, v0.upS hb hB, v1.upS hb hB⟩
    | swp p q r => obtain ⟨h1, h3, h4, h5, h6, y, z, k0, k1, v0, v1⟩ := h; exact ⟨h1, h3, h4, h5, h6, y, z, k0.upS hb hB, k1.upS hb hB, v0.upS hb hB, v1.upS hb hB⟩
    | stk op s p r => obtain ⟨h1, h2, h3, h4, h5, h6, h7, y, k0, v0⟩ := h; exact ⟨h1, h2, h3, h4, h5, h6, h7, y, k0.upS hb hB, v0.upS hb hB⟩
    | tap op p r => obtain ⟨h1, h2, h3, h4, h5, y, k0, v0⟩ := h; exact ⟨h1, h2, h3, h4, h5, y, k0.upS hb hB, v0.upS hb hB⟩
    | cal op s a r => obtain ⟨h1, h2, h3, h4, h5, h6, h7⟩ := h; exact ⟨h1, h2, h3, h4, h5, h6, fun i a ha => let ⟨y, k0, v0⟩ := h7 i a ha; ⟨y, k0.upS hb hB, v0.upS hb hB⟩⟩
    | ifs e a b e' r => obtain ⟨h1, h2, y0, y1, y2, y3, k0, k1, k2, k3, v0, v1, v2, v3⟩ := h; exact ⟨h1, h2, y0, y1, y2, y3, k0.upS hb hB, k1.upS hb hB, k2.upS hb hB, k3.upS hb hB, v0.upS hb hB, up _ _ v1, up _ _ v2, v3.upS hb hB⟩
    | frm e a b e' r => obtain ⟨h1, h2, y0, y1, y2, y3, k0, k1, k2, k3, v0, v1, v2, v3⟩ := h; exact ⟨h1, h2, y0, y1, y2, y3, k0.upS hb hB, k1.upS hb hB, k2.upS hb hB, k3.upS hb hB, v0.upS hb hB, up _ _ v1, up _ _ v2, v3.upS hb hB⟩
    | loc v e b e' r => obtain ⟨h1, h2, h3, y0, y1, y2, k0, k1, k2, v0, v1, v2⟩ := h; exact ⟨h1, h2, h3, y0, y1, y2, k0.upS hb hB, k1.upS hb hB, k2.upS hb hB, v0.upS hb hB, up _ _ v1, v2.upS hb hB⟩
    | lst v b r => obtain ⟨h1, h2, h3, y0, k0, v0⟩ := h; exact ⟨h1, h2, h3, y0, k0.upS hb hB, up _ _ v0⟩
def Sq.basic : Sq → Prop
  | .upd _ _ _ _ | .swp _ _ _ | .stk _ _ _ _ | .tap _ _ _ => True
  | _ => False
def doM : Sq → PSt → Rs
  | .upd op p e _ => updM op p e
  | .swp p q _ => swpM p q
  | .stk op s p _ => stkM op s p
  | .tap op p _ => tapM op p
  | _ => fun σ => .ok σ
def Sq.inv : Sq → Sq
  | .upd op p e r => .upd (invK op) p e r
  | .stk op s p r => .stk (invK op) s p r
  | .tap op p r => .tap (invK op) p r
  | s => s
end Bk
namespace Go.Proofs.YtakfdnnlhjhcfaaGreatDoor
open Go.RowKit Bk
theorem c_basic (k : Int) (hk : 40 ≤ k ∧ k ≤ 49) (w : World) : Calls Tryz.prog 135 #[.int .u8 k] w fun e w' => e = .returned (.bool true) ∧ w = w' := by
  obtain rfl | rfl | rfl | rfl | rfl | rfl | rfl | rfl | rfl | rfl : k = 40 ∨ k = 41 ∨ k = 42 ∨ k = 43 ∨ k = 44 ∨ k = 45 ∨ k = 46 ∨ k = 47 ∨ k = 48 ∨ k = 49 := by omega
  all_goals
    go_enter Tryz.func135, Tryz.ntmps135
    go_wp2_with fail
    go_ret
    exact ⟨rfl, rfl⟩
theorem c_inverse (k : Int) (w : World) : Calls Tryz.prog 134 #[.int .u8 k] w fun e w' => e = .returned (.int .u8 (invK k)) ∧ w = w' := by
  by_cases h : k = 40 ∨ k = 41 ∨ k = 44 ∨ k = 45 ∨ k = 46 ∨ k = 47 ∨ k = 48 ∨ k = 49
  · rcases h with rfl | rfl | rfl | rfl | rfl | rfl | rfl | rfl
    all_goals
      go_enter Tryz.func134, Tryz.ntmps134
      go_wp2_with fail
      go_ret
      exact ⟨rfl, rfl⟩
  · have e0 : invK k = k := by unfold invK; rw [if_neg (by omega), if_neg (by omega), if_neg (by omega), if_neg (by omega), if_neg (by omega), if_neg (by omega), if_neg (by omega), if_neg (by omega)]
    rw [e0]
    have k40 : (k == 40) = false := beq_eq_false_iff_ne.2 (by omega)
    have k41 : (k == 41) = false := beq_eq_false_iff_ne.2 (by omega)
    have k44 : (k == 44) = false := beq_eq_false_iff_ne.2 (by omega)
    have k45 : (k == 45) = false := beq_eq_false_iff_ne.2 (by omega)
    have k46 : (k == 46) = false := beq_eq_false_iff_ne.2 (by omega)
    have k47 : (k == 47) = false := beq_eq_false_iff_ne.2 (by omega)
    have k48 : (k == 48) = false := beq_eq_false_iff_ne.2 (by omega)
    have k49 : (k == 49) = false := beq_eq_false_iff_ne.2 (by omega)
    clear h e0
    go_enter Tryz.func134, Tryz.ntmps134
    go_wp2_with fail
    go_ret
    exact ⟨rfl, rfl⟩
section
variable {w : World} {B b o nv cv d : Nat} {V : Option Addr} {vs : List Vr} {S : Sv} {σ : PSt} {kd : Nat → Int} {m : Nat}
theorem fstTo_one (r : Nat → Int) : fstTo r 1 = r 0 := by simp [fstTo]
theorem fstTo_two (r : Nat → Int) : fstTo r 2 = if r 0 ≠ 0 then r 0 else r 1 := by simp only [fstTo]; simp
theorem ft_ex (hBw : B ≤ w.heap.size) (hbB : b < B) (hc : w.cell? ⟨b, o, none⟩ = some (.slice V nv cv)) (hv : VsAt w B V vs) (hnv : vs.length = nv) (hnv2 : nv ≤ 17592186043904) : ∀ (e : Ex) (x : Nd), EV w B nameB e x → FtOk w B b o x (faultE vs e) := by
  have N := fun x hn rs hk => ft_node hBw hbB hc hv hnv hnv2 x hn rs hk
  intro e
  induction e with
  | num v =>
    intro x ⟨h1, h2, h3, h4, h5⟩
    have := N x (by omega) (fun _ => 0) fun i hi => by omega
    rw [show usN vs x = 0 by unfold usN needK; rw [h1]; rfl, h5] at this
    exact this
  | var s =>
    intro x ⟨h1, h2, h3, h4, h5⟩
    have := N x (by omega) (fun _ => 0) fun i hi => by omega
    rw [show usN vs x = useE vs s 1 by unfold usN needK; rw [h1, h3]; rfl, h5] at this
    rwa [show (if useE vs s 1 ≠ 0 then useE vs s 1 else fstTo (fun _ => 0) 0) = faultE vs (.var s) by simp only [fstTo, faultE]; split <;> omega] at this
  | top s =>
    intro x ⟨h1, h2, h3, h4, h5⟩
    have := N x (by omega) (fun _ => 0) fun i hi => by omega
    rw [show usN vs x = useE vs s 3 by unfold usN needK; rw [h1, h3]; rfl, h5] at this
    rwa [show (if useE vs s 3 ≠ 0 then useE vs s 3 else fstTo (fun _ => 0) 0) = faultE vs (.top s) by simp only [fstTo, faultE]; split <;> omega] at this
  | size s =>
    intro x ⟨h1, h2, h3, h4, h5⟩
    have := N x (by omega) (fun _ => 0) fun i hi => by omega
    rw [show usN vs x = useE vs s 3 by unfold usN needK; rw [h1, h3]; rfl, h5] at this
    rwa [show (if useE vs s 3 ≠ 0 then useE vs s 3 else fstTo (fun _ => 0) 0) = faultE vs (.size s) by simp only [fstTo, faultE]; split <;> omega] at this
  | item s a ih =>
    intro x ⟨h1, h2, h3, h4, h5, y, h6, h7⟩
    have := N x (by omega) (fun _ => faultE vs a) fun i hi => by obtain rfl : i = 0 := (by omega); exact ⟨y, h6, ih y h7⟩
    rw [show usN vs x = useE vs s 2 by unfold usN needK; rw [h1, h3]; rfl, h5, fstTo_one] at this
    exact this
  | un op a ih =>
    intro x ⟨h1, h2, h3, h4, h5, y, h6, h7⟩
    have := N x (by omega) (fun _ => faultE vs a) fun i hi => by obtain rfl : i = 0 := (by omega); exact ⟨y, h6, ih y h7⟩
    rw [show usN vs x = 0 by unfold usN needK; rw [if_pos (by split; omega; split; omega; split; omega; rfl)], h5, fstTo_one] at this
    exact this
  | bin op a b iha ihb =>
    intro x ⟨h1, h2, h3, h4, h5, y, z, h6, h7, h8, h9⟩
    have := N x (by omega) (fun i => if i = 0 then faultE vs a else faultE vs b) fun i hi => by
      rcases (show i = 0 ∨ i = 1 by omega) with rfl | rfl
      · exact ⟨y, h6, iha y h8⟩
      · exact ⟨z, h7, ihb z h9⟩
    rw [show usN vs x = 0 by unfold usN needK; rw [if_pos (by split; omega; split; omega; split; omega; rfl)], h5, fstTo_two] at this
    exact this
def FrOk (w : World) (S : Sv) (σ : PSt) (x : Nd) (r : Int) : Prop := FtOk w w.heap.size (S.fb σ) σ.fo x r
theorem SOn.ftEx (h : SOn w B S σ) (hn : σ.cur.vars.length ≤ 17592186043904) {e : Ex} {x : Nd} (hx : EV w w.heap.size nameB e x) : FrOk w S σ x (faultE σ.cur.vars e) := by
  obtain ⟨hf, ⟨h0, _, _⟩, _, _, hfb⟩ := h.cur
  have hv := hf.vars
  obtain ⟨A, cp, e⟩ := own_form hv
  rw [e] at hv h0
  exact ft_ex (Nat.le_refl _) hfb h0 (own_vs hv rfl) rfl hn _ x hx
theorem SOn.ftNd (h : SOn w B S σ) (hn : σ.cur.vars.length ≤ 17592186043904) (x : Nd) (hxn : x.n ≤ 17592186043904) (rs : Nat → Int) (hkid : ∀ i, i < x.n → ∃ y, Kid w w.heap.size x i y ∧ FrOk w S σ y (rs i)) : FrOk w S σ x (if usN σ.cur.vars x ≠ 0 then usN σ.cur.vars x else fstTo rs x.n) := by
  obtain ⟨hf, ⟨h0, _, _⟩, _, _, hfb⟩ := h.cur
  have hv := hf.vars
  obtain ⟨A, cp, e⟩ := own_form hv
  rw [e] at hv h0
  exact ft_node (Nat.le_refl _) hfb h0 (own_vs hv rfl) rfl hn x hxn rs hkid
theorem c_DoG (h : SOn w B S σ) (ho : σ.Ok kd m) {x : Nd} (hk : 40 ≤ x.k ∧ x.k ≤ 49) (his : ∀ W, Below w.heap.size w W → Calls Tryz.prog 93 #[.agg #[.int .u8 x.k, .int .i64 x.num, .string x.nm, .slice x.A x.n x.cap]] W fun en w'' => en = .returned (.bool true) ∧ Below W.heap.size W w'') {f0 : Int} (hft : FrOk w S σ x f0) {q : Rs} (hex : f0 = 0 → ∀ W, Below w.heap.size w W → Calls Tryz.prog 137 #[.pointer (some ⟨S.st, 0, none⟩), .agg #[.int .u8 x.k, .int .i64 x.num, .string x.nm, .slice x.A x.n x.cap]] W fun en w' => RetS B S W q en w') :
    Calls Tryz.prog 109 #[.pointer (some ⟨S.st, 0, none⟩), .agg #[.int .u8 x.k, .int .i64 x.num, .string x.nm, .slice x.A x.n x.cap]] w fun en w' => RetS B S w (if f0 ≠ 0 then .error f0 else q) en w' := by
  have HIS := Lib.hid his
  have HBA := Lib.hid (fun W => c_basic x.k hk W)
  have HCU : Hid (∀ W, Below w.heap.size w W → Calls Tryz.prog 130 #[.pointer (some ⟨S.st, 0, none⟩)] W fun e w' => e = .returned (.pointer (some ⟨S.fb σ, σ.fo, none⟩)) ∧ Below W.heap.size W w') := Lib.hid fun W hW => (c_current (h.next hW) ho.nc).mono fun e w' h => ⟨h.1, by rw [h.2]; exact Below.refl _ _⟩
  have HFT := Lib.hid hft
  obtain ⟨r0, hr0⟩ : ∃ r0, retI q = r0 := ⟨_, rfl⟩
  have HEX : Hid (f0 = 0 → ∀ W, Below w.heap.size w W → Calls Tryz.prog 137 #[.pointer (some ⟨S.st, 0, none⟩), .agg #[.int .u8 x.k, .int .i64 x.num, .string x.nm, .slice x.A x.n x.cap]] W fun en w' => en = .returned (.int .i64 r0) ∧ RetS B S w q en w') := Lib.hid fun h0 W hW => (hex h0 W hW).mono fun e w' hr => ⟨by rw [← hr0]; exact hr.ret.1, hr.pre hW⟩
  obtain ⟨qq, hqq⟩ : ∃ qq : Rs, (if f0 ≠ 0 then .error f0 else q) = qq := ⟨_, rfl⟩
  rw [hqq]
  have HQQ := Lib.hid hqq
  unfold FrOk FtOk at HFT
  generalize S.fb σ = fb at *
  generalize σ.fo = fo at *
  have k56 : (x.k == 56) = false := beq_eq_false_iff_ne.2 (by omega)
  clear h ho his hft hex hqq hr0 hk
  obtain ⟨k, num, nm, A, n, cap⟩ := x
  dsimp only at *
  go_enter Tryz.func109, Tryz.ntmps109
  go_upto_region 1 with fail
  refine wp_nameE ?_
  intro w1 hw1
  have hb1 : Below w.heap.size w w1 := (by rw [hw1]; exact (by go_grown))
  have K1 : Blk w1 w.heap.size 26 #[.int .u8 k, .int .i64 num, .string nm, .slice A n cap] := (by rw [hw1]; exact blkA)
  have HK1 := Lib.hid K1; have HB1 := Lib.hid hb1
  clear hw1 hb1
  obtain ⟨z_1, T_1, F_1⟩ := K1.open_
  clear K1
  go_wp2_with fail
  refine (HIS.out w1 HB1.out).mono ?_
  rintro en w2 ⟨rfl, hb2⟩
  have HB2 := Lib.hid (HB1.out.next hb2); have HK2 := Lib.hid (HK1.out.next hb2)
  clear T_1 z_1 F_1 hb2
  obtain ⟨z_1, T_1, F_1⟩ := HK2.out.open_
  go_wp2_with fail
  refine (HBA.out w2).mono ?_
  rintro en w3 ⟨rfl, rfl⟩
  go_wp2_with fail
  refine wp_region_grow (by kernel_rfl) (by kernel_rfl) ?_
  intro W hW
  have hneW : Nonempty (Grw W) := ⟨⟨W, Below.refl _ _⟩⟩
  have HBz := Lib.hid (fun z => Below.next (show Below w.heap.size w W by rw [hW]; exact HB2.out) (grow_below W z))
  have HXz := Lib.hid (fun z => (show Below w2.heap.size w2 (grow W z) by rw [← hW]; exact grow_below W z))
  have Z_1 := fun z => (HK2.out.next (w' := grow W z) (by rw [← hW]; exact grow_below W z)).cell
  have HW := Lib.hid hW
  clear hW
  repeat (go_big_quiet_step ((first | (go_at_call 130; with_reducible exact quiet_grow (HCU.out _ (HBz.out _))) | (go_at_call 136; with_reducible exact quiet_grow (HFT.out _ (HBz.out _))))))
  refine wpQuiet_nil ?_
  rintro _ ⟨z, rfl⟩
  have HB4 := Lib.hid (HBz.out z); have HX4 := Lib.hid (HXz.out z)
  clear Z_1 HBz HXz T_1 z_1 F_1
  generalize grow W z = w4 at *
  clear HW hneW
  by_cases h0 : f0 = 0
  · have HH0 := Lib.hid h0
    have hne : (f0 != 0) = false := bne_eq_false_iff_eq.2 h0
    obtain ⟨z_1, T_1, F_1⟩ := (HK2.out.next HX4.out).open_
    clear h0
    go_wp2_with fail
    refine (HEX.out HH0.out w4 HB4.out).mono ?_
    rintro en w5 ⟨rfl, hr⟩
    have HR := Lib.hid hr
    clear hr T_1 z_1 F_1
    go_wp2_with fail
    go_ret
    rw [← HQQ.out, if_neg (by simpa using HH0.out)]
    exact HR.out
  · have hne : (f0 != 0) = true := bne_iff_ne.2 h0
    go_wp2_with fail
    go_ret
    rw [← HQQ.out, if_pos h0]
    exact ⟨rfl, h0, Fr.of HB4.out⟩
theorem exB_of {x : Nd} {e : Ex} {B : Nat} (h : EV w B nameB e x) : exB w B x = true := by simp [exB]; exact ⟨e, h⟩
theorem st_true {B d : Nat} {s : Sq} {x : Nd} (h : StAt w B (d + 1) s x) (hb : s.basic) : stB w B (d + 1) x = true := by
  unfold stB
  dsimp only
  cases s with
  | upd op p e r =>
    obtain ⟨hk, hop, hpl, hn, hp, y, z, k0, k1, v0, v1⟩ := h
    rw [if_pos (by omega)]
    simp only [Bool.and_eq_true, decide_eq_true_eq]
    refine ⟨hpl, hn, allTo_of fun i hi => ?_⟩
    rcases (show i = 0 ∨ i = 1 by omega) with rfl | rfl
    · rw [kidN_eq k0]; exact pl_of_ev v0 hp
    · rw [kidN_eq k1]; exact exB_of v1
  | swp p q r =>
    obtain ⟨hk, hpl, hn, hp, hq, y, z, k0, k1, v0, v1⟩ := h
    rw [if_neg (by omega), if_pos hk]
    simp only [Bool.and_eq_true, decide_eq_true_eq]
    refine ⟨hpl, hn, allTo_of fun i hi => ?_⟩
    rcases (show i = 0 ∨ i = 1 by omega) with rfl | rfl
    · rw [kidN_eq k0]; exact pl_of_ev v0 hp
    · rw [kidN_eq k1]; exact pl_of_ev v1 hq
  | stk op s p r =>
    obtain ⟨hk, hop, h0, hnm, hnb, hn, hp, y, k0, v0⟩ := h
    rw [if_neg (by omega), if_neg (by omega), if_pos (by omega)]
    simp only [Bool.and_eq_true, decide_eq_true_eq, namedB]
    refine ⟨⟨h0, by rw [hnm]; exact hnb⟩, hn, allTo_of fun i hi => ?_⟩
    obtain rfl : i = 0 := by omega
    rw [kidN_eq k0]; exact pl_of_ev v0 hp
  | tap op p r =>
    obtain ⟨hk, hop, hpl, hn, hp, y, k0, v0⟩ := h
    rw [if_neg (by omega), if_neg (by omega), if_neg (by omega), if_pos (by omega)]
    simp only [Bool.and_eq_true, decide_eq_true_eq]
    refine ⟨hpl, hn, allTo_of fun i hi => ?_⟩
    obtain rfl : i = 0 := by omega
    rw [kidN_eq k0]; exact pl_of_ev v0 hp
  | _ => exact hb.elim
theorem kv_kid {B i : Nat} {x y : Nd} (h : KV w B (d + 1) x) (hk : Kid w B x i y) (hi : i < x.n) : KV w B d y := by
  obtain ⟨_, _, _, _, _, h6⟩ := h
  obtain ⟨z, h1, h2⟩ := h6 i hi
  rw [Kid.one hk h1]; exact h2
theorem c_set (hk : (h : SOn w B S σ) → True) {x : Nd} (h56 : x.k = 56) (his : ∀ W, Below w.heap.size w W → Calls Tryz.prog 93 #[.agg #[.int .u8 x.k, .int .i64 x.num, .string x.nm, .slice x.A x.n x.cap]] W fun en w'' => en = .returned (.bool true) ∧ Below W.heap.size W w'') :
    Calls Tryz.prog 109 #[.pointer (some ⟨S.st, 0, none⟩), .agg #[.int .u8 x.k, .int .i64 x.num, .string x.nm, .slice x.A x.n x.cap]] w fun en w' => RetS B S w (.error 9) en w' := by
  have HIS := Lib.hid his
  clear his hk
  obtain ⟨k, num, nm, A, n, cap⟩ := x
  dsimp only at *
  have k56 : (k == 56) = true := beq_iff_eq.2 h56
  clear h56
  go_enter Tryz.func109, Tryz.ntmps109
  go_upto_region 1 with fail
  refine wp_nameE ?_
  intro w1 hw1
  have hb1 : Below w.heap.size w w1 := (by rw [hw1]; exact (by go_grown))
  have K1 : Blk w1 w.heap.size 26 #[.int .u8 k, .int .i64 num, .string nm, .slice A n cap] := (by rw [hw1]; exact blkA)
  have HK1 := Lib.hid K1; have HB1 := Lib.hid hb1
  clear hw1 hb1
  obtain ⟨z_1, T_1, F_1⟩ := K1.open_
  clear K1
  go_wp2_with fail
  refine (HIS.out w1 HB1.out).mono ?_
  rintro en w2 ⟨rfl, hb2⟩
  have HB2 := Lib.hid (HB1.out.next hb2); have HK2 := Lib.hid (HK1.out.next hb2)
  clear T_1 z_1 F_1 hb2
  obtain ⟨z_1, T_1, F_1⟩ := HK2.out.open_
  go_wp2_with fail
  go_ret
  exact ⟨rfl, by decide, Fr.of HB2.out⟩
theorem c_Do (h : SOn w B S σ) (hB : B ≤ w.heap.size) (ho : σ.Ok kd m) (hm : m ≤ 10000) {s : Sq} {x : Nd} (hs : StAt w w.heap.size (d + 1) s x) (hb : s.basic) (hv : KV w w.heap.size (d + 1) x) :
    Calls Tryz.prog 109 #[.pointer (some ⟨S.st, 0, none⟩), .agg #[.int .u8 x.k, .int .i64 x.num, .string x.nm, .slice x.A x.n x.cap]] w fun en w' => RetS B S w (doM s σ) en w' := by
  have his : ∀ W, Below w.heap.size w W → Calls Tryz.prog 93 #[.agg #[.int .u8 x.k, .int .i64 x.num, .string x.nm, .slice x.A x.n x.cap]] W fun en w'' => en = .returned (.bool true) ∧ Below W.heap.size W w'' := fun W hW => by
    have := (e_stbl (Nat.le_refl _) (d + 1)).1 x hv W hW
    rwa [st_true hs hb] at this
  have hcv : σ.cur.vars.length ≤ 17592186043904 := by have := ho.cur.bd; omega
  have UP : ∀ {W : World} (hW : Below w.heap.size w W), w.heap.size ≤ W.heap.size := fun hW => hW.size
  cases s with
  | upd op p e r =>
    obtain ⟨hk, hop, hpl, hn, hp, y, z, k0, k1, v0, v1⟩ := hs
    show Calls _ _ _ _ fun en w' => RetS B S w (updM op p e σ) en w'
    unfold updM
    by_cases h56 : op = 56
    · rw [if_pos h56]
      exact c_set (σ := σ) (fun _ => trivial) (by omega) his
    rw [if_neg h56]
    have hft : FrOk w S σ x (err2 (faultE σ.cur.vars p) (faultE σ.cur.vars e)) := by
      have := h.ftNd hcv x (by omega) (fun i => if i = 0 then faultE σ.cur.vars p else faultE σ.cur.vars e) fun i hi => by
        rcases (show i = 0 ∨ i = 1 by omega) with rfl | rfl
        · exact ⟨y, k0, h.ftEx hcv v0⟩
        · exact ⟨z, k1, h.ftEx hcv v1⟩
      rw [show usN σ.cur.vars x = 0 by unfold usN needK; rw [if_pos (by split; omega; split; omega; split; omega; rfl)], hn, fstTo_two] at this
      exact this
    refine c_DoG h ho (by omega) his hft fun h0 W hW => ?_
    obtain ⟨hf1, hf2⟩ := err2_zero h0
    exact ex_upd (h.next hW) ho hm hk (by omega) hn (k0.upS hW (UP hW)) (k1.upS hW (UP hW)) hp (v0.upS hW (UP hW)) (v1.upS hW (UP hW)) ((kv_kid hv k0 (by omega)).upS hW (UP hW)) ((kv_kid hv k1 (by omega)).upS hW (UP hW)) hf1
  | swp p q r =>
    obtain ⟨hk, hpl, hn, hp, hq, y, z, k0, k1, v0, v1⟩ := hs
    show Calls _ _ _ _ fun en w' => RetS B S w (swpM p q σ) en w'
    unfold swpM
    have hft : FrOk w S σ x (err2 (faultE σ.cur.vars p) (faultE σ.cur.vars q)) := by
      have := h.ftNd hcv x (by omega) (fun i => if i = 0 then faultE σ.cur.vars p else faultE σ.cur.vars q) fun i hi => by
        rcases (show i = 0 ∨ i = 1 by omega) with rfl | rfl
        · exact ⟨y, k0, h.ftEx hcv v0⟩
        · exact ⟨z, k1, h.ftEx hcv v1⟩
      rw [show usN σ.cur.vars x = 0 by unfold usN needK; rw [if_pos (by split; omega; split; omega; split; omega; rfl)], hn, fstTo_two] at this
      exact this
    refine c_DoG h ho (by omega) his hft fun h0 W hW => ?_
    obtain ⟨hf1, hf2⟩ := err2_zero h0
    exact ex_swp (h.next hW) ho hm hk hn (k0.upS hW (UP hW)) (k1.upS hW (UP hW)) hp hq (v0.upS hW (UP hW)) (v1.upS hW (UP hW)) ((kv_kid hv k0 (by omega)).upS hW (UP hW)) ((kv_kid hv k1 (by omega)).upS hW (UP hW)) hf1 hf2
  | stk op s p r =>
    obtain ⟨hk, hop, hz, hnm, hnb, hn, hp, y, k0, v0⟩ := hs
    show Calls _ _ _ _ fun en w' => RetS B S w (stkM op s p σ) en w'
    unfold stkM
    have hft : FrOk w S σ x (err2 (useE σ.cur.vars s 3) (faultE σ.cur.vars p)) := by
      have := h.ftNd hcv x (by omega) (fun _ => faultE σ.cur.vars p) fun i hi => by obtain rfl : i = 0 := (by omega); exact ⟨y, k0, h.ftEx hcv v0⟩
      rw [show usN σ.cur.vars x = useE σ.cur.vars s 3 by unfold usN needK; rw [hnm]; rcases hop with e | e <;> rw [hk, e] <;> rfl, hn, fstTo_one] at this
      exact this
    refine c_DoG h ho (by omega) his hft fun h0 W hW => ?_
    obtain ⟨hf1, hf2⟩ := err2_zero h0
    obtain ⟨j, c, l, c2, l2, hp1, hp2, hcc, hC⟩ := ex_stk (h.next hW) (Nat.le_trans hB (UP hW)) ho hm hk hop hn (k0.upS hW (UP hW)) hp (v0.upS hW (UP hW)) ((kv_kid hv k0 (by omega)).upS hW (UP hW)) hf2 (by rw [hnm]; exact hf1)
    refine hC.mono fun en w' hr => ?_
    have e : (fun (i : Nat) (_ : Int) => mvQ op σ c i l c2 l2) = (fun i _ => if op = 44 then (if 1000 ≤ σ.len s then .error 5 else .ok ((σ.setCell s ((σ.look s).getD [] ++ [σ.read p.nam i])).write p.nam i 0)) else if σ.len s = 0 then .error 13 else if σ.read p.nam i ≠ 0 then .error 14 else .ok ((σ.write p.nam i (((σ.look s).getD []).getLastD 0)).setCell s ((σ.look s).getD []).dropLast)) := by
      funext i _
      rw [hnm] at hp2
      unfold mvQ
      rw [hp2.len, hp1.read, hp2.put, hp2.look, Option.getD_some]
      have e1 : ({ σ with cells := σ.cells.set c2 (l2 ++ [l.getD i 0]) } : PSt).write p.nam i 0 = { σ with cells := (σ.cells.set c2 (l2 ++ [l.getD i 0])).set c (l.set i 0) } := by
        unfold PSt.write
        have : ({ σ with cells := σ.cells.set c2 (l2 ++ [l.getD i 0]) } : PSt).at_ p.nam = some c := by
          show (findV p.nam σ.cur.vars).map _ = _
          rw [hp1.find]; simp only [Option.map_some, List.getD_eq_getElem?_getD]; show some ((σ.cur.idx[j.2]?).getD 0) = _; rw [hp1.idx]; rfl
        rw [this]
        simp only [List.getD_eq_getElem?_getD, List.getElem?_set_ne hcc.symm, hp1.cell, Option.getD_some]
      have e2 : (σ.write p.nam i (l2.getLastD 0)).setCell s l2.dropLast = { σ with cells := (σ.cells.set c (l.set i (l2.getLastD 0))).set c2 l2.dropLast } := by
        rw [hp1.write]
        unfold PSt.setCell
        have : ({ σ with cells := σ.cells.set c (l.set i (l2.getLastD 0)) } : PSt).at_ s = some c2 := by
          show (findV s σ.cur.vars).map _ = _
          rw [hp2.find]; simp only [Option.map_some, List.getD_eq_getElem?_getD]; show some ((σ.cur.idx[(findI s σ.cur.vars).toNat]?).getD 0) = _; rw [hp2.idx]; rfl
        rw [this]
      rw [e1, e2]
    rw [← e]
    exact hr
  | tap op p r =>
    obtain ⟨hk, hop, hpl, hn, hp, y, k0, v0⟩ := hs
    show Calls _ _ _ _ fun en w' => RetS B S w (tapM op p σ) en w'
    unfold tapM
    have hft : FrOk w S σ x (faultE σ.cur.vars p) := by
      have := h.ftNd hcv x (by omega) (fun _ => faultE σ.cur.vars p) fun i hi => by obtain rfl : i = 0 := (by omega); exact ⟨y, k0, h.ftEx hcv v0⟩
      rw [show usN σ.cur.vars x = 0 by unfold usN needK; rw [if_pos (by split; omega; split; omega; split; omega; rfl)], hn, fstTo_one] at this
      exact this
    refine c_DoG h ho (by omega) his hft fun hf1 W hW => ?_
    obtain ⟨j, c, l, hp1, hC⟩ := ex_tap (h.next hW) (Nat.le_trans hB (UP hW)) ho hm hk hop hn (k0.upS hW (UP hW)) hp (v0.upS hW (UP hW)) ((kv_kid hv k0 (by omega)).upS hW (UP hW)) hf1
    refine hC.mono fun en w' hr => ?_
    have e : (fun (i : Nat) (_ : Int) => tapQ op σ c i l) = (fun i _ => if op = 46 then (if σ.inp = [] then .error 17 else if σ.read p.nam i ≠ 0 then .error 14 else .ok ({ σ with inp := σ.inp.tail }.write p.nam i (σ.inp.headD 0)))
      else if op = 47 then (if 4096 ≤ σ.inp.length then .error 5 else .ok ({ σ with inp := σ.read p.nam i :: σ.inp }.write p.nam i 0))
      else if op = 48 then (if 4096 ≤ σ.out.length then .error 5 else .ok ({ σ with out := σ.out ++ [σ.read p.nam i] }.write p.nam i 0))
      else (if σ.out = [] then .error 17 else if σ.read p.nam i ≠ 0 then .error 14 else .ok ({ σ with out := σ.out.dropLast }.write p.nam i (σ.out.getLastD 0)))) := by
      funext i _
      have wr : ∀ (a b : List Int) v, ({ σ with inp := a, out := b } : PSt).write p.nam i v = { σ with inp := a, out := b, cells := σ.cells.set c (l.set i v) } := fun a b v => by
        have h1 := hp1.write i v
        unfold PSt.write at h1 ⊢
        have e0 : ({ σ with inp := a, out := b } : PSt).at_ p.nam = σ.at_ p.nam := rfl
        rw [e0]
        cases ha : σ.at_ p.nam with
        | none => rw [ha] at h1; simp only at h1 ⊢; rw [PSt.mk.injEq] at h1; simp [← h1.1]
        | some c' => rw [ha] at h1; simp only at h1 ⊢; rw [PSt.mk.injEq] at h1; rw [h1.1]
      unfold tapQ
      rw [hp1.read, show ({ σ with inp := σ.inp.tail } : PSt) = { σ with inp := σ.inp.tail, out := σ.out } from rfl, show ({ σ with inp := l.getD i 0 :: σ.inp } : PSt) = { σ with inp := l.getD i 0 :: σ.inp, out := σ.out } from rfl, show ({ σ with out := σ.out ++ [l.getD i 0] } : PSt) = { σ with inp := σ.inp, out := σ.out ++ [l.getD i 0] } from rfl, show ({ σ with out := σ.out.dropLast } : PSt) = { σ with inp := σ.inp, out := σ.out.dropLast } from rfl, wr, wr, wr, wr]
    rw [← e]
    exact hr
  | _ => exact hb.elim
theorem StAt.inv {B : Nat} {s : Sq} {x : Nd} (h : StAt w B (d + 1) s x) (hb : s.basic) : StAt w B (d + 1) s.inv ⟨invK x.k, x.num, x.nm, x.A, x.n, x.cap⟩ ∧ s.inv.basic := by
  have K : ∀ {i : Nat} {y : Nd}, Kid w B x i y → Kid w B ⟨invK x.k, x.num, x.nm, x.A, x.n, x.cap⟩ i y := fun h => h
  have iv : ∀ op : Int, (op = 40 ∨ op = 41 ∨ op = 42 ∨ op = 56 → invK op = 40 ∨ invK op = 41 ∨ invK op = 42 ∨ invK op = 56) ∧ (op = 44 ∨ op = 45 → invK op = 44 ∨ invK op = 45) ∧ (op = 46 ∨ op = 47 ∨ op = 48 ∨ op = 49 → invK op = 46 ∨ invK op = 47 ∨ invK op = 48 ∨ invK op = 49) := fun op => by
    refine ⟨fun h => ?_, fun h => ?_, fun h => ?_⟩
    · rcases h with rfl | rfl | rfl | rfl <;> simp [invK]
    · rcases h with rfl | rfl <;> simp [invK]
    · rcases h with rfl | rfl | rfl | rfl <;> simp [invK]
  cases s with
  | upd op p e r =>
    obtain ⟨hk, hop, hpl, hn, hp, y, z, k0, k1, v0, v1⟩ := h
    exact ⟨⟨by rw [hk], (iv op).1 hop, hpl, hn, hp, y, z, K k0, K k1, v0, v1⟩, trivial⟩
  | swp p q r =>
    obtain ⟨hk, hpl, hn, hp, hq, y, z, k0, k1, v0, v1⟩ := h
    exact ⟨⟨by rw [hk]; rfl, hpl, hn, hp, hq, y, z, K k0, K k1, v0, v1⟩, trivial⟩
  | stk op s p r =>
    obtain ⟨hk, hop, h0, hnm, hnb, hn, hp, y, k0, v0⟩ := h
    exact ⟨⟨by rw [hk], (iv op).2.1 hop, h0, hnm, hnb, hn, hp, y, K k0, v0⟩, trivial⟩
  | tap op p r =>
    obtain ⟨hk, hop, hpl, hn, hp, y, k0, v0⟩ := h
    exact ⟨⟨by rw [hk], (iv op).2.2 hop, hpl, hn, hp, y, K k0, v0⟩, trivial⟩
  | _ => exact hb.elim
theorem invK_range (k : Int) (h : 0 ≤ k ∧ k ≤ 255) : 0 ≤ invK k ∧ invK k ≤ 255 := by
  unfold invK
  repeat' split
  all_goals omega
theorem c_Undo (h : SOn w B S σ) (hB : B ≤ w.heap.size) (ho : σ.Ok kd m) (hm : m ≤ 10000) {s : Sq} {x : Nd} (hs : StAt w w.heap.size (d + 1) s x) (hb : s.basic) (hv : KV w w.heap.size (d + 1) x) :
    Calls Tryz.prog 108 #[.pointer (some ⟨S.st, 0, none⟩), .agg #[.int .u8 x.k, .int .i64 x.num, .string x.nm, .slice x.A x.n x.cap]] w fun en w' => RetS B S w (doM s.inv σ) en w' := by
  obtain ⟨hs', hb'⟩ := StAt.inv hs hb
  have hv' : KV w w.heap.size (d + 1) ⟨invK x.k, x.num, x.nm, x.A, x.n, x.cap⟩ := by obtain ⟨h1, h2, h3, h4, h5, h6⟩ := hv; exact ⟨invK_range _ h1, h2, h3, h4, h5, h6⟩
  have SU : ∀ {W : World} (hW : Below w.heap.size w W) (d : Nat) (s : Sq) (y : Nd), StAt w w.heap.size d s y → StAt W W.heap.size d s y := fun hW d s y => StAt.upS hW hW.size d s y
  obtain ⟨r0, hr0⟩ : ∃ r0, retI (doM s.inv σ) = r0 := ⟨_, rfl⟩
  obtain ⟨q, hq⟩ : ∃ q, doM s.inv σ = q := ⟨_, rfl⟩
  have HDO : Hid (∀ W, Below w.heap.size w W → Calls Tryz.prog 109 #[.pointer (some ⟨S.st, 0, none⟩), .agg #[.int .u8 (invK x.k), .int .i64 x.num, .string x.nm, .slice x.A x.n x.cap]] W fun en w' => en = .returned (.int .i64 r0) ∧ RetS B S w q en w') := Lib.hid fun W hW => (c_Do (x := ⟨invK x.k, x.num, x.nm, x.A, x.n, x.cap⟩) (h.next hW) (Nat.le_trans hB hW.size) ho hm (SU hW _ _ _ hs') hb' (hv'.upS hW hW.size)).mono fun e w' hr => ⟨by rw [← hr0]; exact hr.ret.1, by rw [← hq]; exact hr.pre hW⟩
  have HIN := Lib.hid (fun W => c_inverse x.k W)
  rw [hq]
  generalize invK x.k = ik at *
  clear h ho hs hb hs' hb' hv hv' SU hr0 hq
  obtain ⟨k, num, nm, A, n, cap⟩ := x
  dsimp only at *
  go_enter Tryz.func108, Tryz.ntmps108
  go_upto_region 1 with fail
  refine wp_nameE ?_
  intro w1 hw1
  have hb1 : Below w.heap.size w w1 := (by rw [hw1]; exact (by go_grown))
  have K1 : Blk w1 w.heap.size 26 #[.int .u8 k, .int .i64 num, .string nm, .slice A n cap] := (by rw [hw1]; exact blkA)
  have HK1 := Lib.hid K1; have HB1 := Lib.hid hb1
  clear hw1 hb1
  obtain ⟨z_1, T_1, F_1⟩ := K1.open_
  clear K1
  go_wp2_with fail
  refine (HIN.out w1).mono ?_
  rintro en w2 ⟨rfl, rfl⟩
  go_upto_region 2 with fail
  refine wp_nameE ?_
  intro w2 hw2
  have hb2 : Below w.heap.size w w2 := by rw [hw2]; exact HB1.out.setCell (Nat.le_refl _) _
  have K2 : Blk w2 w.heap.size 26 #[.int .u8 ik, .int .i64 num, .string nm, .slice A n cap] := by rw [hw2]; simpa using HK1.out.set_ 0 (.int .u8 ik)
  have HB2 := Lib.hid hb2
  clear T_1 z_1 F_1 hw2 hb2
  obtain ⟨z_1, T_1, F_1⟩ := K2.open_
  clear K2
  go_wp2_with fail
  refine (HDO.out w2 HB2.out).mono ?_
  rintro en w3 ⟨rfl, hr⟩
  have HR := Lib.hid hr
  clear hr T_1 z_1 F_1
  go_wp2_with fail
  go_ret
  exact HR.out
end
end Go.Proofs.YtakfdnnlhjhcfaaGreatDoor
namespace Bk
open Go Go.RowKit
theorem wpList_appS {P : Program} {w : World} {ops : Array Oper} {rest : List Oper} {o : Oper} {a : Act} {Q : Exit → Act → World → Prop} (hgd : o.guard = none) (s x : Operand) (t : TypeId) (ho : o.op = .call { callee := .builtin .append, args := #[s, x], argTypes := #[t, t] })
    (base : Nat) (e : TypeId) (i : TypeInfo) (z : Value) (size bytes : Nat) (ht : P.underlying t = some (.slice e)) (hi : P.info? e = some i) (hz : i.zero = some z) (hsize : i.size = size) (hby : i.bytes = bytes) (hzs : z.cells.size = size) (hsz : 0 < size)
    (v : Value) (n : Nat) (xs : List Value) (hs : a.eval s = v) (hown : w.ownsRow base e size v n xs) {D : Nat → Prop} {u : Value} {m : Nat} {ys : List Value} (hx : a.eval x = u) (hu : Sl w D size u m ys) (h1 : ∀ u ∈ ys, u.oneCell' = true) (h63 : n + m ≤ maxLen) (hbytes : (n + m) * bytes ≤ 140737488355328) (hbase : base ≤ w.heap.size)
    (h : ∀ v' w', w'.ownsRow base e size v' (n + m) (xs ++ ys) → w.grownBy w' v.ownBlock → (v'.ownBlock = v.ownBlock ∨ v'.ownBlock = some w.heap.size) → wpList P ops Q rest (a.put o.dst v') w') : wpList P ops Q (o :: rest) a w := by
  refine wpList_plain hgd fun K hK => ?_
  exact wp_appS s x t ho base e i z size bytes ht hi hz hsize hby hzs hsz v n xs hs hown hx hu h1 h63 hbytes hbase fun v' w' a1 a2 a3 => hK _ _ (h v' w' a1 a2 a3)
theorem sl_blk3 {w : World} {g : Nat} {t : TypeId} {u0 u1 u2 : Value} (h : Blk w g t #[u0, u1, u2]) : Sl w (fun _ => True) 3 (.slice (some ⟨g, 0, none⟩) 1 1) 1 [u0, u1, u2] :=
  ⟨_, 1, rfl, Nat.le_refl _, (fun e => by cases e), rfl, fun _ => ⟨g, 0, rfl, trivial, fun j v hv => by rw [Nat.zero_add]; exact (h.cell j).trans (by rw [List.getElem?_toArray]; exact hv)⟩⟩
end Bk
namespace Go.Proofs.YtakfdnnlhjhcfaaGreatDoor
open Go.RowKit Bk
theorem info_decl : (Tryz.prog.info? 72).map (fun i => (i.zero, i.size, i.bytes)) = some (some (.agg #[.string ⟨#[]⟩, .int .u8 0, .int .i64 0]), 3, 32) := by kernel_rfl
theorem info_cellP : (Tryz.prog.info? 125).map (fun i => (i.zero, i.size, i.bytes)) = some (some (.pointer none), 1, 8) := by kernel_rfl
structure AddP (w : World) (B b o : Nat) (v c : Value) (vs : List Vr) (ps : List Value) (u : Vr) (pt : Value) (w' : World) (v' c' : Value) : Prop where
  blk : ∀ t cs, Blk w b t cs → Blk w' b t ((cs.setIfInBounds o v').setIfInBounds (o + 1) c')
  vars : w'.ownsRow B 72 3 v' (vs.length + 1) (varCells (vs ++ [u]))
  refs : w'.ownsRow B 125 1 c' (ps.length + 1) (ps ++ [pt])
  fr : Fr (fun k => k = b ∨ v.ownBlock = some k ∨ c.ownBlock = some k) w w'
  hv : ∀ k, v'.ownBlock = some k → v.ownBlock = some k ∨ w.heap.size ≤ k
  hc : ∀ k, c'.ownBlock = some k → c.ownBlock = some k ∨ w.heap.size ≤ k
  ne : ∀ k, v'.ownBlock = some k → c'.ownBlock = some k → False
theorem r_add {w : World} {B b o : Nat} {t : TypeId} {cs : Array Value} {v c : Value} {vs : List Vr} {ps : List Value} (hB : B ≤ w.heap.size) (hb : Blk w b t cs) (h0 : cs[o]? = some v) (h1 : cs[o + 1]? = some c) (hv : w.ownsRow B 72 3 v vs.length (varCells vs)) (hc : w.ownsRow B 125 1 c ps.length ps) (nb : v.ownBlock ≠ some b) (nb2 : c.ownBlock ≠ some b) (ne : ∀ k, v.ownBlock = some k → c.ownBlock = some k → False) (hn : vs.length ≤ 100000) (hn2 : ps.length ≤ 100000) (u : Vr) (p : Nat) :
    Calls Tryz.prog 63 #[.pointer (some ⟨b, o, none⟩), .agg #[.string u.nm, .int .u8 u.k, .int .i64 u.len], .pointer (some ⟨p, 0, none⟩)] w fun e w' => e = .returned (.tuple #[]) ∧ ∃ v' c', AddP w B b o v c vs ps u (.pointer (some ⟨p, 0, none⟩)) w' v' c' := by
  have hbl := hb.lt
  have HBK := Lib.hid hb
  obtain ⟨A, c0, rfl⟩ := own_form hv
  obtain ⟨A1, c1, rfl⟩ := own_form hc
  obtain ⟨i3, li, lz, ls, lb⟩ := info_parts info_decl
  have HI := Lib.hid li; have HZ := Lib.hid lz; have HSZ := Lib.hid ls; have HBY := Lib.hid lb
  obtain ⟨i4, li, lz, ls, lb⟩ := info_parts info_cellP
  have HI4 := Lib.hid li; have HZ4 := Lib.hid lz; have HSZ4 := Lib.hid ls; have HBY4 := Lib.hid lb
  clear li lz ls lb
  have HV := Lib.hid hv; have HCC := Lib.hid hc; have HNE := Lib.hid ne
  have HS0 := Lib.hid h0; have HS1 := Lib.hid h1
  obtain ⟨n, hnn⟩ : ∃ n, vs.length = n := ⟨_, rfl⟩
  obtain ⟨n2, hnn2⟩ : ∃ n2, ps.length = n2 := ⟨_, rfl⟩
  have HN := Lib.hid hnn; have HN2 := Lib.hid hnn2
  rw [hnn] at HV HS0 nb HNE hn ⊢
  rw [hnn2] at HCC HS1 nb2 HNE hn2 ⊢
  have HNB := Lib.hid nb; have HNB2 := Lib.hid nb2
  have HCW : Hid (w.cell? ⟨b, o, none⟩ = some (.slice A n c0)) := Lib.hid ((HBK.out.cell o).trans HS0.out)
  have HCW1 : Hid (w.cell? ⟨b, o + 1, none⟩ = some (.slice A1 n2 c1)) := Lib.hid ((HBK.out.cell (o + 1)).trans HS1.out)
  have HVR : Hid (∀ k, Value.ownBlock (.slice A n c0) = some k → k < w.heap.size) := Lib.hid fun k hk => own_lt' HV.out hk
  have HCR : Hid (∀ k, Value.ownBlock (.slice A1 n2 c1) = some k → k < w.heap.size) := Lib.hid fun k hk => own_lt' HCC.out hk
  obtain ⟨nm, k, len⟩ := u
  dsimp only
  clear hb h0 h1 hv hc nb nb2 ne hnn hnn2
  go_enter Tryz.func63, Tryz.ntmps63
  go_upto_region 1 with fail
  refine wp_nameE ?_
  intro w1 hw1
  have hb1 : Below w.heap.size w w1 := (by rw [hw1]; exact (by go_grown))
  have K1 : Blk w1 w.heap.size 72 #[.string nm, .int .u8 k, .int .i64 len] := (by rw [hw1]; exact blkA)
  have HK1 := Lib.hid K1; have HB1 := Lib.hid hb1
  have hs1 := hb1.size
  clear hw1 hb1 K1
  have HO : Hid (w1.ownsRow B 72 3 (.slice A n c0) n (varCells vs)) := Lib.hid (own_below HV.out HB1.out (Nat.le_refl _))
  have hbl1 : b < w1.heap.size := by omega
  have hnb1 : ¬ Value.ownBlock (.slice A n c0) = some b := HNB.out
  have hnk : ¬ Value.ownBlock (.slice A n c0) = some w.heap.size := fun e => by have := HVR.out _ e; omega
  have HC : Hid (w1.cell? ⟨b, o, none⟩ = some (.slice A n c0)) := Lib.hid ((HB1.out.cell (p := ⟨b, o, none⟩) hbl).trans HCW.out)
  have HCF : Hid (w1.frozen? ⟨b, o, none⟩ = false) := Lib.hid ((HBK.out.next HB1.out).frozen o)
  refine wp_region_heldL (S := fun W => Fr (fun k => Value.ownBlock (.slice A n c0) = some k) w1 W) 10 (by kernel_rfl) ((Fr.refl _ _).drew) (fun hH => ?_)
  refine wpAnyL_at ?_
  intro wa hwa
  have hX : Fr (fun k => Value.ownBlock (.slice A n c0) = some k) w1 wa := by rw [hwa]; exact (Fr.refl _ _).drew
  have HOq := HO.out
  replace HOq : wa.ownsRow B 72 3 (.slice A n c0) n (varCells vs) := by rw [hwa]; exact own_drew HOq
  replace hH := hX
  clear hwa
  refine wpAnyL_take (i := 0) (v := ?_) rfl (by kernel_rfl) (by kernel_rfl) (by kernel_rfl) (by kernel_rfl) (fun _ _ _ h => h) (Or.inl ⟨by rfl, ?hy⟩) hH ?_
  case hy => (intro w9_ hS9; clear hS9; go_simp; try with_reducible rfl)
  (try simp only [PU, Act.put])
  refine wpAnyL_take (i := 1) (v := ?_) rfl (by kernel_rfl) (by kernel_rfl) (by kernel_rfl) (by kernel_rfl) (fun _ _ _ h => h) (Or.inl ⟨by rfl, ?hy⟩) hH ?_
  case hy => (intro w9_ hS9; clear hS9; go_simp; try with_reducible rfl)
  (try simp only [PU, Act.put])
  refine wpAnyL_take (i := 2) (v := ?_) rfl (by kernel_rfl) (by kernel_rfl) (by kernel_rfl) (by kernel_rfl) (fun _ _ _ h => h) (Or.inl ⟨by rfl, ?hy⟩) hH ?_
  case hy => (intro w9_ hS9; clear hS9; go_simp; try with_reducible rfl)
  (try simp only [PU, Act.put])
  refine wpAnyL_take (i := 3) (v := ?_) rfl (by kernel_rfl) (by kernel_rfl) (by kernel_rfl) (by kernel_rfl) (fun _ _ _ h => h) (Or.inl ⟨by rfl, ?hy⟩) hH ?_
  case hy => (intro w9_ hS9; clear hS9; go_simp; try with_reducible rfl)
  (try simp only [PU, Act.put])
  refine wpAnyL_take (i := 4) (v := ?_) rfl (by kernel_rfl) (by kernel_rfl) (by kernel_rfl) (by kernel_rfl) (fun _ _ _ h => h) (Or.inl ⟨by rfl, ?hy⟩) hH ?_
  case hy => (intro w9_ hS9; have t := (hS9.cell hbl1 hnb1 o).trans HC.out; clear hS9; go_simp; try with_reducible rfl)
  (try simp only [PU, Act.put])
  refine wpAnyL_take (i := 5) (v := ?_) rfl (by kernel_rfl) (by kernel_rfl) (by kernel_rfl) (by kernel_rfl) (fun _ _ _ h => h) (Or.inl ⟨by rfl, ?hy⟩) hH ?_
  case hy => (intro w9_ hS9; have t := (hS9.blk HK1.out hnk).cell; clear hS9; go_simp; try with_reducible rfl)
  (try simp only [PU, Act.put])
  refine wpAnyL_next (i := 6) rfl (by kernel_rfl) (fun K hK => ?_)
  go_simp
  replace hH := hX.alloc (.cells #[.string nm, .int .u8 k, .int .i64 len] 72)
  refine hK.out _ _ hH (fun _ => ?_)
  clear hK
  (try simp only [PU, Act.put])
  refine wpAnyL_at ?_
  intro wb hwn
  have hbn : Below wa.heap.size wa wb := by rw [hwn]; exact (Below.refl _ _).alloc (Nat.le_refl _) _
  have K_n : Blk wb wa.heap.size 72 #[.string nm, .int .u8 k, .int .i64 len] := by rw [hwn]; exact Blk.new _ _ _
  replace HOq := own_below HOq hbn (Nat.le_refl _)
  replace hX := hX.next hbn
  replace hH := hX
  clear hwn hbn
  refine wpAnyL_next (i := 7) rfl (by kernel_rfl) (fun K hK => ?_)
  rw [if_pos (by rfl)]
  refine wp_appS (.tmp 10) (.tmp 12) 22 rfl B 72 i3 _ 3 32 Tryz.underlying22 HI.out HZ.out HSZ.out HBY.out rfl (by decide) (.slice A n c0) n (varCells vs) (by simp [Act.eval]) HOq (by simp [Act.eval]) (sl_blk3 K_n) (by intro u hu; simp at hu; rcases hu with rfl | rfl | rfl <;> rfl) (by unfold maxLen; omega) (by omega) (by have := hX.size; omega) ?_
  intro v_2 wc hown hgr hat
  have hXB := hX.size
  replace hX : Fr (fun k => Value.ownBlock (.slice A n c0) = some k) w1 wc := hX.trans (Fr.ofGrownN hgr)
  replace hH := hX
  obtain ⟨A_2, c_2, rfl⟩ := own_form hown
  have HAT : Hid (∀ k, Value.ownBlock (.slice A_2 (n + 1) c_2) = some k → Value.ownBlock (.slice A n c0) = some k ∨ w1.heap.size ≤ k) := Lib.hid (fun k hk => hat.imp (fun e => by rw [← e]; exact hk) (fun e => by rw [hk] at e; have e := Option.some.inj e; omega))
  clear hgr hat hXB
  refine hK.out _ _ hH (fun _ => ?_)
  clear hK
  (try simp only [PU, Act.put])
  refine wpAnyL_next (i := 8) rfl (by kernel_rfl) (fun K hK => ?_)
  go_simp
  refine hK.out _ _ hH (fun _ => ?_)
  clear hK
  (try simp only [PU, Act.put])
  refine wpAnyL_take (i := 9) (v := ?_) rfl (by kernel_rfl) (by kernel_rfl) (by kernel_rfl) (by kernel_rfl) (fun _ _ _ h => h) (Or.inl ⟨by rfl, ?hy⟩) hH ?_
  case hy => (intro w9_ hS9; clear hS9; go_simp; try with_reducible rfl)
  (try simp only [PU, Act.put])
  refine wpAnyL_last (l := 10) rfl (by kernel_rfl) (by kernel_rfl) (fun K hK => ?_)
  have F_f := (World.frozen?_of_block (a := ⟨b, o, none⟩) (hX.block _ hbl1 hnb1)).trans HCF.out
  have C_f := (hX.cell hbl1 hnb1 _).trans HC.out
  go_simp
  refine hK.out _ _ ?_
  clear hK
  (try simp only [PU, Act.put])
  have HOZ := Lib.hid hown; have HXZ := Lib.hid hX; clear hown hX hH HOq
  -- behind the first row
  have HB2 : Hid (Blk wc b t (cs.setIfInBounds o (.slice A n c0))) := Lib.hid (by
    have e : cs.setIfInBounds o (.slice A n c0) = cs := by
      have ho := (Array.getElem?_eq_some_iff.1 HS0.out)
      obtain ⟨hlt, he⟩ := ho
      rw [← he]; simp [Array.setIfInBounds, hlt]
    rw [e]; exact HXZ.out.blk (HBK.out.next HB1.out) hnb1)
  generalize hwd : wc.setCell ⟨b, o, none⟩ (.slice A_2 (n + 1) c_2) = we at *
  have HWD := Lib.hid hwd
  have HBE : Hid (Blk we b t (cs.setIfInBounds o (.slice A_2 (n + 1) c_2))) := Lib.hid (by rw [← HWD.out]; exact (HXZ.out.blk (HBK.out.next HB1.out) hnb1).set_ o _)
  have HFE : Hid (Fr (fun k => k = b ∨ Value.ownBlock (.slice A n c0) = some k) w1 we) := Lib.hid (by rw [← HWD.out]; exact (HXZ.out.mono fun k hk => .inr hk).set (p := ⟨b, o, none⟩) (.inl rfl) _)
  have HOE : Hid (we.ownsRow B 72 3 (.slice A_2 (n + 1) c_2) (n + 1) (varCells vs ++ [.string nm, .int .u8 k, .int .i64 len])) := Lib.hid (by
    rw [← HWD.out]
    exact own_fr (O := fun k => k = b) HOZ.out ((Fr.refl (fun k => k = b) wc).set (p := ⟨b, o, none⟩) rfl _) fun k hk e => by subst e; rcases HAT.out _ hk with h1 | h1; exact hnb1 h1; omega)
  have HCE : Hid (we.ownsRow B 125 1 (.slice A1 n2 c1) n2 ps) := Lib.hid (own_fr (own_below HCC.out HB1.out (Nat.le_refl _)) HFE.out fun k hk e => by rcases e with e | e; (subst e; exact HNB2.out hk); exact HNE.out k e hk)
  have d1 : we.cell? ⟨b, o + 1, none⟩ = some (.slice A1 n2 c1) := by rw [HBE.out.cell, Array.getElem?_setIfInBounds, if_neg (by omega)]; exact HS1.out
  have f1 := HBE.out.frozen (o + 1)
  have hse := HFE.out.size
  clear hwd
  go_wp2_with (at_builtin; refine wpList_appS rfl (.tmp 20) (.tmp 22) 118 rfl B 125 i4 _ 1 8 Tryz.underlying118 HI4.out HZ4.out HSZ4.out HBY4.out rfl (by decide) (.slice A1 n2 c1) n2 ps rfl (own_below HCE.out ((Below.refl _ _).alloc (Nat.le_refl _) _) (Nat.le_refl _)) rfl (sl_blk1 (Blk.new _ _ _)) (by intro u hu; simp at hu; rcases hu with rfl; rfl) (by unfold maxLen; omega) (by omega) (by simp; omega) ?_)
  intro v_3 wf hown3 hgr3 hat3
  obtain ⟨A_3, c_3, rfl⟩ := own_form hown3
  have HO3 := Lib.hid hown3
  have HF3 : Hid (Fr (fun k => Value.ownBlock (.slice A1 n2 c1) = some k) we wf) := Lib.hid ((Fr.of ((Below.refl _ _).alloc (Nat.le_refl _) _)).trans (Fr.ofGrownN hgr3))
  have HAT3 : Hid (∀ k, Value.ownBlock (.slice A_3 (n2 + 1) c_3) = some k → Value.ownBlock (.slice A1 n2 c1) = some k ∨ we.heap.size ≤ k) := Lib.hid fun k hk => hat3.imp (fun e => by rw [← e]; exact hk) fun e => by rw [hk] at e; have e := Option.some.inj e; have hsz := ((Below.refl we.heap.size we).alloc (Nat.le_refl _) (.cells #[.pointer (some ⟨p, 0, none⟩)] 125)).size; omega
  have hbe : b < we.heap.size := by omega
  have HBF : Hid (Blk wf b t (cs.setIfInBounds o (.slice A_2 (n + 1) c_2))) := Lib.hid (HF3.out.blk HBE.out HNB2.out)
  have g1 := HBF.out.frozen (o + 1)
  have d2 : wf.cell? ⟨b, o + 1, none⟩ = some (.slice A1 n2 c1) := by rw [HBF.out.cell, Array.getElem?_setIfInBounds, if_neg (by omega)]; exact HS1.out
  clear hown3 hgr3 hat3 d1 f1
  go_wp2_with fail
  refine bodyPost_end (results_none rfl _ _ _) rfl ?_
  have hF4 : Fr (fun k => k = b) wf (wf.setCell ⟨b, o + 1, none⟩ (.slice A_3 (n2 + 1) c_3)) := (Fr.refl (fun k => k = b) wf).set (p := ⟨b, o + 1, none⟩) rfl _
  have hv2 : ∀ k, Value.ownBlock (.slice A_2 (n + 1) c_2) = some k → k ≠ b ∧ ¬ Value.ownBlock (.slice A1 n2 c1) = some k ∧ k < we.heap.size := fun k hk => by
    refine ⟨fun e => ?_, fun e => ?_, own_lt' HOE.out hk⟩
    · subst e; rcases HAT.out _ hk with h1 | h1; exact hnb1 h1; omega
    · rcases HAT.out k hk with h1 | h1
      · exact HNE.out k h1 e
      · have := HCR.out k e; omega
  refine ⟨rfl, .slice A_2 (n + 1) c_2, .slice A_3 (n2 + 1) c_3, ⟨fun t' cs' hb' => ?_, ?_, ?_, ?_, fun k hk => ?_, fun k hk => ?_, fun k h1 h2 => ?_⟩⟩
  · have he := HBK.out
    unfold Blk at he hb'
    rw [he] at hb'
    injection hb' with hb'
    injection hb' with e1 e2
    subst e1; subst e2
    exact HBF.out.set_ (o + 1) _
  · rw [HN.out, show varCells (vs ++ [(⟨nm, k, len⟩ : Vr)]) = varCells vs ++ [.string nm, .int .u8 k, .int .i64 len] by simp [varCells]]
    exact own_fr (own_fr HOE.out HF3.out fun k hk e => (hv2 k hk).2.1 e) hF4 fun k hk e => (hv2 k hk).1 e
  · rw [HN2.out]
    refine own_fr HO3.out hF4 fun k hk e => ?_
    subst e
    rcases HAT3.out _ hk with h1 | h1
    · exact HNB2.out h1
    · omega
  · exact (((Fr.of HB1.out).trans (HFE.out.mono fun k hk => hk.imp id .inl)).trans (HF3.out.mono fun k hk => .inr (.inr hk))).trans (hF4.mono fun k hk => .inl hk)
  · exact (HAT.out k hk).imp id fun h => by omega
  · exact (HAT3.out k hk).imp id fun h => by omega
  · rcases HAT3.out k h2 with h3 | h3
    · exact (hv2 k h1).2.1 h3
    · have := (hv2 k h1).2.2; omega
end Go.Proofs.YtakfdnnlhjhcfaaGreatDoor
