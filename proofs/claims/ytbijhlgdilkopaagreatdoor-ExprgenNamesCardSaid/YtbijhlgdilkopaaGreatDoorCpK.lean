/- Several texts in one: CpuK CpuL. -/
import Derived.Test.YtbijhlgdilkopaaGreatDoorCpI
set_option linter.unusedVariables false
set_option linter.unusedSimpArgs false
/- The walks of package cpu: Turn, holds. -/
set_option maxRecDepth 100000
set_option maxHeartbeats 8000000
set_option linter.unusedVariables false
namespace Go.Proofs.YtbijhlgdilkopaaGreatDoor
open Go.RowKit Bk
variable {w : World} {D : Nat → Prop} {P : Pl} {M : Mach} {vm vs vc vi vo : Value} {sv : List Value}

theorem c_Turn (h : MOn w P M vm vs vc vi vo sv) (hd : M.dir = 1 ∨ M.dir = -1) :
    Calls Tryz.prog 87 #[.pointer (some ⟨P.b, P.off, none⟩)] w fun e w' => e = .returned (.tuple #[]) ∧ MAt w' P M.turn ∧ Fr P.O w w' := by
  have HM := Lib.hid h
  have e1 := h.c1
  have z1 := h.frozen (P.off + 1)
  have HD := Lib.hid hd
  obtain ⟨b, tt, pre, post, off, gm, gs, fx⟩ := P
  obtain ⟨dd, hdd⟩ : ∃ dd, M.dir = dd := ⟨_, rfl⟩
  have h0 : -1 ≤ dd := by omega
  have h1 : dd ≤ 1 := by omega
  have HR : Hid (M.turn = { M with dir := -dd }) := Lib.hid (by rw [← hdd]; rfl)
  rw [HR.out]
  dsimp only at *
  rw [hdd] at e1
  clear h hd hdd
  go_enter Tryz.func87, Tryz.ntmps87
  go_wp2_with fail
  go_end0
  exact ⟨rfl, (HM.out.setDir (-dd)).matE rfl, by repeat' (first | with_reducible (first | assumption | apply Fr.refl | apply Fr.drew | apply Fr.drewN | apply Fr.alloc | apply Fr.set) | exact .inl rfl | exact .inr (.inl rfl) | exact .inr (.inr rfl) | (apply Fr.of; assumption))⟩
theorem holds_23a (h : MOn w P M vm vs vc vi vo sv) (x : Nat) (hx : x < 16) (i c d : Int) (hr : M.reg x = 0) :
    Calls Tryz.prog 89 #[.pointer (some ⟨P.b, P.off, none⟩), .agg #[.int .u8 (23), .int .i64 ((x : Nat)), .int .i64 (i), .int .i64 (c), .int .i64 (d)]] w fun e w' => e = .returned (.bool true) ∧ Below w.heap.size w w' := by
  obtain ⟨w1, hw1, h1, hbw, KI, hlt, hlt0, hne0, hne⟩ := h.al 102 #[.int .u8 (23), .int .i64 ((x : Nat)), .int .i64 (i), .int .i64 (c), .int .i64 (d)]; have H1 := Lib.hid h1; obtain ⟨er_x, zr_x, i0_x, i1_x⟩ := h1.rg x hx; obtain ⟨zI, TI, FI⟩ := KI.open_; obtain ⟨b, tt, pre, post, off, gm, gs, fx⟩ := P; dsimp only at *; clear h h1 KI
  rw [hr] at er_x
  clear hr
  go_enter Tryz.func89, Tryz.ntmps89
  go_wp2_with fail
  rw [← hw1]
  clear hw1
  go_quiet (fail)
  go_wp2_with fail
  go_ret
  exact ⟨rfl, by repeat' (first | (with_reducible assumption) | (with_reducible exact Below.refl _ _) | (with_reducible refine Below.alloc ?_ ?_ _) | (with_reducible refine Bk.drewN_ ?_ _) | (with_reducible refine Below.drew ?_) | (with_reducible refine Below.setCell ?_ ?_ _) | go_size)⟩
theorem holds_23b (h : MOn w P M vm vs vc vi vo sv) (x : Nat) (hx : x < 16) (i c d : Int) (hr : M.reg x ≠ 0) :
    Calls Tryz.prog 89 #[.pointer (some ⟨P.b, P.off, none⟩), .agg #[.int .u8 (23), .int .i64 ((x : Nat)), .int .i64 (i), .int .i64 (c), .int .i64 (d)]] w fun e w' => e = .returned (.bool false) ∧ Below w.heap.size w w' := by
  obtain ⟨w1, hw1, h1, hbw, KI, hlt, hlt0, hne0, hne⟩ := h.al 102 #[.int .u8 (23), .int .i64 ((x : Nat)), .int .i64 (i), .int .i64 (c), .int .i64 (d)]; have H1 := Lib.hid h1; obtain ⟨er_x, zr_x, i0_x, i1_x⟩ := h1.rg x hx; obtain ⟨zI, TI, FI⟩ := KI.open_; obtain ⟨b, tt, pre, post, off, gm, gs, fx⟩ := P; dsimp only at *; clear h h1 KI
  have hr' : (M.reg x == 0) = false := by simpa using hr
  have hr2 : (M.reg x != 0) = true := by simpa using hr
  clear hr
  go_enter Tryz.func89, Tryz.ntmps89
  go_wp2_with fail
  rw [← hw1]
  clear hw1
  go_quiet (fail)
  go_wp2_with fail
  go_ret
  exact ⟨rfl, by repeat' (first | (with_reducible assumption) | (with_reducible exact Below.refl _ _) | (with_reducible refine Below.alloc ?_ ?_ _) | (with_reducible refine Bk.drewN_ ?_ _) | (with_reducible refine Below.drew ?_) | (with_reducible refine Below.setCell ?_ ?_ _) | go_size)⟩
theorem holds_26a (h : MOn w P M vm vs vc vi vo sv) (x : Nat) (hx : x < 16) (i c d : Int) (hr : M.reg x = 0) :
    Calls Tryz.prog 89 #[.pointer (some ⟨P.b, P.off, none⟩), .agg #[.int .u8 (26), .int .i64 ((x : Nat)), .int .i64 (i), .int .i64 (c), .int .i64 (d)]] w fun e w' => e = .returned (.bool true) ∧ Below w.heap.size w w' := by
  obtain ⟨w1, hw1, h1, hbw, KI, hlt, hlt0, hne0, hne⟩ := h.al 102 #[.int .u8 (26), .int .i64 ((x : Nat)), .int .i64 (i), .int .i64 (c), .int .i64 (d)]; have H1 := Lib.hid h1; obtain ⟨er_x, zr_x, i0_x, i1_x⟩ := h1.rg x hx; obtain ⟨zI, TI, FI⟩ := KI.open_; obtain ⟨b, tt, pre, post, off, gm, gs, fx⟩ := P; dsimp only at *; clear h h1 KI
  rw [hr] at er_x
  clear hr
  go_enter Tryz.func89, Tryz.ntmps89
  go_wp2_with fail
  rw [← hw1]
  clear hw1
  go_quiet (fail)
  go_wp2_with fail
  go_ret
  exact ⟨rfl, by repeat' (first | (with_reducible assumption) | (with_reducible exact Below.refl _ _) | (with_reducible refine Below.alloc ?_ ?_ _) | (with_reducible refine Bk.drewN_ ?_ _) | (with_reducible refine Below.drew ?_) | (with_reducible refine Below.setCell ?_ ?_ _) | go_size)⟩
theorem holds_26b (h : MOn w P M vm vs vc vi vo sv) (x : Nat) (hx : x < 16) (i c d : Int) (hr : M.reg x ≠ 0) :
    Calls Tryz.prog 89 #[.pointer (some ⟨P.b, P.off, none⟩), .agg #[.int .u8 (26), .int .i64 ((x : Nat)), .int .i64 (i), .int .i64 (c), .int .i64 (d)]] w fun e w' => e = .returned (.bool false) ∧ Below w.heap.size w w' := by
  obtain ⟨w1, hw1, h1, hbw, KI, hlt, hlt0, hne0, hne⟩ := h.al 102 #[.int .u8 (26), .int .i64 ((x : Nat)), .int .i64 (i), .int .i64 (c), .int .i64 (d)]; have H1 := Lib.hid h1; obtain ⟨er_x, zr_x, i0_x, i1_x⟩ := h1.rg x hx; obtain ⟨zI, TI, FI⟩ := KI.open_; obtain ⟨b, tt, pre, post, off, gm, gs, fx⟩ := P; dsimp only at *; clear h h1 KI
  have hr' : (M.reg x == 0) = false := by simpa using hr
  have hr2 : (M.reg x != 0) = true := by simpa using hr
  clear hr
  go_enter Tryz.func89, Tryz.ntmps89
  go_wp2_with fail
  rw [← hw1]
  clear hw1
  go_quiet (fail)
  go_wp2_with fail
  go_ret
  exact ⟨rfl, by repeat' (first | (with_reducible assumption) | (with_reducible exact Below.refl _ _) | (with_reducible refine Below.alloc ?_ ?_ _) | (with_reducible refine Bk.drewN_ ?_ _) | (with_reducible refine Below.drew ?_) | (with_reducible refine Below.setCell ?_ ?_ _) | go_size)⟩
theorem holds_24a (h : MOn w P M vm vs vc vi vo sv) (x : Nat) (hx : x < 16) (i c d : Int) (hr : M.reg x = 0) :
    Calls Tryz.prog 89 #[.pointer (some ⟨P.b, P.off, none⟩), .agg #[.int .u8 (24), .int .i64 ((x : Nat)), .int .i64 (i), .int .i64 (c), .int .i64 (d)]] w fun e w' => e = .returned (.bool false) ∧ Below w.heap.size w w' := by
  obtain ⟨w1, hw1, h1, hbw, KI, hlt, hlt0, hne0, hne⟩ := h.al 102 #[.int .u8 (24), .int .i64 ((x : Nat)), .int .i64 (i), .int .i64 (c), .int .i64 (d)]; have H1 := Lib.hid h1; obtain ⟨er_x, zr_x, i0_x, i1_x⟩ := h1.rg x hx; obtain ⟨zI, TI, FI⟩ := KI.open_; obtain ⟨b, tt, pre, post, off, gm, gs, fx⟩ := P; dsimp only at *; clear h h1 KI
  rw [hr] at er_x
  clear hr
  go_enter Tryz.func89, Tryz.ntmps89
  go_wp2_with fail
  rw [← hw1]
  clear hw1
  go_quiet (fail)
  go_wp2_with fail
  go_ret
  exact ⟨rfl, by repeat' (first | (with_reducible assumption) | (with_reducible exact Below.refl _ _) | (with_reducible refine Below.alloc ?_ ?_ _) | (with_reducible refine Bk.drewN_ ?_ _) | (with_reducible refine Below.drew ?_) | (with_reducible refine Below.setCell ?_ ?_ _) | go_size)⟩
theorem holds_24b (h : MOn w P M vm vs vc vi vo sv) (x : Nat) (hx : x < 16) (i c d : Int) (hr : M.reg x ≠ 0) :
    Calls Tryz.prog 89 #[.pointer (some ⟨P.b, P.off, none⟩), .agg #[.int .u8 (24), .int .i64 ((x : Nat)), .int .i64 (i), .int .i64 (c), .int .i64 (d)]] w fun e w' => e = .returned (.bool true) ∧ Below w.heap.size w w' := by
  obtain ⟨w1, hw1, h1, hbw, KI, hlt, hlt0, hne0, hne⟩ := h.al 102 #[.int .u8 (24), .int .i64 ((x : Nat)), .int .i64 (i), .int .i64 (c), .int .i64 (d)]; have H1 := Lib.hid h1; obtain ⟨er_x, zr_x, i0_x, i1_x⟩ := h1.rg x hx; obtain ⟨zI, TI, FI⟩ := KI.open_; obtain ⟨b, tt, pre, post, off, gm, gs, fx⟩ := P; dsimp only at *; clear h h1 KI
  have hr' : (M.reg x == 0) = false := by simpa using hr
  have hr2 : (M.reg x != 0) = true := by simpa using hr
  clear hr
  go_enter Tryz.func89, Tryz.ntmps89
  go_wp2_with fail
  rw [← hw1]
  clear hw1
  go_quiet (fail)
  go_wp2_with fail
  go_ret
  exact ⟨rfl, by repeat' (first | (with_reducible assumption) | (with_reducible exact Below.refl _ _) | (with_reducible refine Below.alloc ?_ ?_ _) | (with_reducible refine Bk.drewN_ ?_ _) | (with_reducible refine Below.drew ?_) | (with_reducible refine Below.setCell ?_ ?_ _) | go_size)⟩
theorem holds_27a (h : MOn w P M vm vs vc vi vo sv) (x : Nat) (hx : x < 16) (i c d : Int) (hr : M.reg x = 0) :
    Calls Tryz.prog 89 #[.pointer (some ⟨P.b, P.off, none⟩), .agg #[.int .u8 (27), .int .i64 ((x : Nat)), .int .i64 (i), .int .i64 (c), .int .i64 (d)]] w fun e w' => e = .returned (.bool false) ∧ Below w.heap.size w w' := by
  obtain ⟨w1, hw1, h1, hbw, KI, hlt, hlt0, hne0, hne⟩ := h.al 102 #[.int .u8 (27), .int .i64 ((x : Nat)), .int .i64 (i), .int .i64 (c), .int .i64 (d)]; have H1 := Lib.hid h1; obtain ⟨er_x, zr_x, i0_x, i1_x⟩ := h1.rg x hx; obtain ⟨zI, TI, FI⟩ := KI.open_; obtain ⟨b, tt, pre, post, off, gm, gs, fx⟩ := P; dsimp only at *; clear h h1 KI
  rw [hr] at er_x
  clear hr
  go_enter Tryz.func89, Tryz.ntmps89
  go_wp2_with fail
  rw [← hw1]
  clear hw1
  go_quiet (fail)
  go_wp2_with fail
  go_ret
  exact ⟨rfl, by repeat' (first | (with_reducible assumption) | (with_reducible exact Below.refl _ _) | (with_reducible refine Below.alloc ?_ ?_ _) | (with_reducible refine Bk.drewN_ ?_ _) | (with_reducible refine Below.drew ?_) | (with_reducible refine Below.setCell ?_ ?_ _) | go_size)⟩
theorem holds_27b (h : MOn w P M vm vs vc vi vo sv) (x : Nat) (hx : x < 16) (i c d : Int) (hr : M.reg x ≠ 0) :
    Calls Tryz.prog 89 #[.pointer (some ⟨P.b, P.off, none⟩), .agg #[.int .u8 (27), .int .i64 ((x : Nat)), .int .i64 (i), .int .i64 (c), .int .i64 (d)]] w fun e w' => e = .returned (.bool true) ∧ Below w.heap.size w w' := by
  obtain ⟨w1, hw1, h1, hbw, KI, hlt, hlt0, hne0, hne⟩ := h.al 102 #[.int .u8 (27), .int .i64 ((x : Nat)), .int .i64 (i), .int .i64 (c), .int .i64 (d)]; have H1 := Lib.hid h1; obtain ⟨er_x, zr_x, i0_x, i1_x⟩ := h1.rg x hx; obtain ⟨zI, TI, FI⟩ := KI.open_; obtain ⟨b, tt, pre, post, off, gm, gs, fx⟩ := P; dsimp only at *; clear h h1 KI
  have hr' : (M.reg x == 0) = false := by simpa using hr
  have hr2 : (M.reg x != 0) = true := by simpa using hr
  clear hr
  go_enter Tryz.func89, Tryz.ntmps89
  go_wp2_with fail
  rw [← hw1]
  clear hw1
  go_quiet (fail)
  go_wp2_with fail
  go_ret
  exact ⟨rfl, by repeat' (first | (with_reducible assumption) | (with_reducible exact Below.refl _ _) | (with_reducible refine Below.alloc ?_ ?_ _) | (with_reducible refine Bk.drewN_ ?_ _) | (with_reducible refine Below.drew ?_) | (with_reducible refine Below.setCell ?_ ?_ _) | go_size)⟩
theorem holds_else (p : Value) (op a b c d : Int) (h1 : op ≠ 23) (h2 : op ≠ 26) (h3 : op ≠ 24) (h4 : op ≠ 27) (w : World) :
    Calls Tryz.prog 89 #[p, .agg #[.int .u8 (op), .int .i64 (a), .int .i64 (b), .int .i64 (c), .int .i64 (d)]] w fun e w' => e = .returned (.bool true) ∧ Below w.heap.size w w' := by
  go_enter Tryz.func89, Tryz.ntmps89
  go_wp2_with fail
  go_ret
  exact ⟨rfl, by repeat' (first | (with_reducible assumption) | (with_reducible exact Below.refl _ _) | (with_reducible refine Below.alloc ?_ ?_ _) | (with_reducible refine Bk.drewN_ ?_ _) | (with_reducible refine Below.drew ?_) | (with_reducible refine Below.setCell ?_ ?_ _) | go_size)⟩

theorem c_holds (h : MOn w P M vm vs vc vi vo sv) (i : Ins) (hv : i.valid = true) {v : Bool} (hh : holds M i = v) :
    Calls Tryz.prog 89 #[.pointer (some ⟨P.b, P.off, none⟩), .agg #[.int .u8 (i.op), .int .i64 (i.a), .int .i64 (i.b), .int .i64 (i.c), .int .i64 (i.d)]] w fun e w' => e = .returned (.bool v) ∧ Below w.heap.size w w' := by
  obtain ⟨op, a, b, c, d⟩ := i
  simp only [Ins.valid, validB, Bool.and_eq_true] at hv
  obtain ⟨⟨_, _⟩, hsh⟩ := hv
  subst hh
  unfold holds
  simp only
  by_cases e : op = 23 ∨ op = 26 ∨ op = 24 ∨ op = 27
  · have hx : 0 ≤ a ∧ a < 16 := by
      rcases e with rfl | rfl | rfl | rfl <;> (simp [shapeB, regB] at hsh; exact hsh.1)
    clear hsh
    obtain ⟨x, rfl⟩ := nat_of hx.1
    by_cases hr : M.reg x = 0
    · rcases e with rfl | rfl | rfl | rfl
      · rw [if_pos (by simp), decide_eq_true hr]; exact holds_23a h x (by omega) b c d hr
      · rw [if_pos (by simp), decide_eq_true hr]; exact holds_26a h x (by omega) b c d hr
      · rw [if_neg (by simp), if_pos (by simp), decide_eq_false (fun g => g hr)]; exact holds_24a h x (by omega) b c d hr
      · rw [if_neg (by simp), if_pos (by simp), decide_eq_false (fun g => g hr)]; exact holds_27a h x (by omega) b c d hr
    · rcases e with rfl | rfl | rfl | rfl
      · rw [if_pos (by simp), decide_eq_false hr]; exact holds_23b h x (by omega) b c d hr
      · rw [if_pos (by simp), decide_eq_false hr]; exact holds_26b h x (by omega) b c d hr
      · rw [if_neg (by simp), if_pos (by simp), decide_eq_true hr]; exact holds_24b h x (by omega) b c d hr
      · rw [if_neg (by simp), if_pos (by simp), decide_eq_true hr]; exact holds_27b h x (by omega) b c d hr
  · rw [if_neg (by omega), if_neg (by omega)]
    exact holds_else _ op a b c d (by omega) (by omega) (by omega) (by omega) w
end Go.Proofs.YtbijhlgdilkopaaGreatDoor

/- The walks of package cpu: jump. -/
set_option maxRecDepth 100000
set_option maxHeartbeats 8000000
set_option linter.unusedVariables false
namespace Go.Proofs.YtbijhlgdilkopaaGreatDoor
open Go.RowKit Bk
variable {w : World} {D : Nat → Prop} {P : Pl} {M : Mach} {vm vs vc vi vo : Value} {sv : List Value}

/-- What surrounds a machine: the code, which is not of the machine's own; the table of the instruction set. -/
structure Env (w : World) (P : Pl) (A : Option Addr) (n : Nat) (code : Prg) : Prop where
  hC : Rd w (P.E w) 5 A n (codeCells code)
  hw : CodeWf code
  hT : TableAt w
  hG : ¬ P.O 0
  hl : code.length ≤ 65536
theorem Env.hn {w : World} {P : Pl} {A : Option Addr} {n : Nat} {code : Prg} (h : Env w P A n code) : n = code.length := by have := h.hC.1; rw [codeCells_length] at this; omega
theorem Env.next {w w' : World} {P : Pl} {A : Option Addr} {n : Nat} {code : Prg} (h : Env w P A n code) (hb : Below w.heap.size w w') : Env w' P A n code :=
  ⟨(h.hC.keep fun b o hd => hb.cell (p := ⟨b, o, none⟩) hd.1).mono fun _ hk => ⟨Nat.lt_of_lt_of_le hk.1 hb.size, hk.2⟩, h.hw, h.hT.next hb, h.hG, h.hl⟩
theorem Env.fr {w w' : World} {P : Pl} {A : Option Addr} {n : Nat} {code : Prg} (h : Env w P A n code) (hf : Fr P.O w w') : Env w' P A n code :=
  ⟨(h.hC.keep fun b o hd => hf.cell hd.1 hd.2 o).mono fun _ hk => ⟨Nat.lt_of_lt_of_le hk.1 hf.size, hk.2⟩, h.hw, fun k hk => (hf.cell h.hT.lt h.hG _).trans (h.hT k hk), h.hG, h.hl⟩
theorem Env.rd {w : World} {P : Pl} {A : Option Addr} {n : Nat} {code : Prg} (h : Env w P A n code) : Rd w (· < w.heap.size) 5 A n (codeCells code) := h.hC.mono fun _ hk => hk.1
theorem Env.at_ {w : World} {P : Pl} {b off n : Nat} {code : Prg} (h : Env w P (some ⟨b, off, none⟩) n code) {k : Nat} (hk : k < code.length) {x : Ins} (hx : code.getD k default = x) : InsAt w b (off + k * 5) x := hx ▸ h.hC.insAt hk
theorem Env.form {w : World} {P : Pl} {A : Option Addr} {n : Nat} {code : Prg} (h : Env w P A n code) {k : Nat} (hk : k < code.length) : ∃ bc oc, A = some ⟨bc, oc, none⟩ := by
  obtain ⟨b, off, e, _⟩ := h.hC.2 (by have := h.hn; omega)
  exact ⟨b, off, e⟩


theorem jump_none (h : MOn w P M vm vs vc vi vo sv) {A : Option Addr} {n : Nat} (cap : Nat) {code : Prg} (hE : Env w P A n code) (mem st : Int) (k : Nat) (hk : k < code.length) (hd : M.dir = 1 ∨ M.dir = -1) (hp : (partner code k).2 = false) :
    Calls Tryz.prog 74 #[.agg #[.slice A n cap, .int .i64 mem, .int .i64 st], .pointer (some ⟨P.b, P.off, none⟩), .int .i64 k] w (OnM P (23, M) w) := by
  obtain ⟨pt, hpt⟩ : ∃ pt, (partner code k).1 = pt := ⟨_, rfl⟩
  have HP : Hid (partner code k = (pt, false)) := Lib.hid (Prod.ext hpt hp)
  clear hpt hp
  obtain ⟨bc, oc, rfl⟩ := hE.form hk; have HM := Lib.hid h; have HE := Lib.hid hE; have HK := Lib.hid hk; have hkn : k < n := (by rw [hE.hn]; exact hk); have hn6 : n ≤ 65536 := (by rw [hE.hn]; exact hE.hl); obtain ⟨x, hx⟩ : ∃ x, code.getD k default = x := ⟨_, rfl⟩; have HX := Lib.hid hx; obtain ⟨dd, hdd⟩ : ∃ dd, M.dir = dd := ⟨_, rfl⟩; have HDD := Lib.hid hdd; have d0 : -1 ≤ dd := (by omega); have d1 : dd ≤ 1 := (by omega); have i1 : (0 : Int) ≤ (k : Int) := (by omega); have i2 : (k : Int) < (n : Int) := (by omega); have HD := Lib.hid hd; obtain ⟨b, tt, pre, post, off, gm, gs, fx⟩ := P; dsimp only at *; clear h hE hk hx hdd hd
  go_enter Tryz.func74, Tryz.ntmps74; go_wp2_with fail; refine (c_Partner' _ n cap mem st k code HP.out _ (HE.out.next (by repeat' (first | (with_reducible assumption) | (with_reducible exact Below.refl _ _) | (with_reducible refine Below.alloc ?_ ?_ _) | (with_reducible refine Bk.drewN_ ?_ _) | (with_reducible refine Below.drew ?_) | (with_reducible refine Below.setCell ?_ ?_ _) | go_size))).rd HE.out.hw (HE.out.next (by repeat' (first | (with_reducible assumption) | (with_reducible exact Below.refl _ _) | (with_reducible refine Below.alloc ?_ ?_ _) | (with_reducible refine Bk.drewN_ ?_ _) | (with_reducible refine Below.drew ?_) | (with_reducible refine Below.setCell ?_ ?_ _) | go_size))).hT).mono ?_; rintro e w2 ⟨rfl, hb2⟩; have hB_w2 : Below w.heap.size w w2 := Below.next (by repeat' (first | (with_reducible assumption) | (with_reducible exact Below.refl _ _) | (with_reducible refine Below.alloc ?_ ?_ _) | (with_reducible refine Bk.drewN_ ?_ _) | (with_reducible refine Below.drew ?_) | (with_reducible refine Below.setCell ?_ ?_ _) | go_size)) hb2; have K_1 : Blk w2 (w.heap.size) 82 #[.slice (some ⟨bc, oc, none⟩) n cap, .int .i64 mem, .int .i64 st] := Blk.next (by repeat' (first | with_reducible exact H_1.out | with_reducible exact K0_1 | (refine Blk.new' ?_ _ _; simp; done) | with_reducible refine Blk.alloc ?_ _ | with_reducible refine Blk.drewN ?_ _ | with_reducible refine Blk.drew ?_)) hb2; (try clear H_1); (try clear T_1); (try clear z_1); (try clear F_1); obtain ⟨z_1, T_1, F_1⟩ := K_1.open_; have H_1 := Lib.hid K_1; clear K_1; clear hb2
  go_wp2_with fail
  go_ret
  exact ⟨rfl, (HM.out.next hB_w2).mat, Fr.of hB_w2⟩

theorem behind_eq (M : Mach) (i : Int) {dd : Int} (h : M.dir = dd) : behind i M.dir = behind i dd := by rw [h]

theorem jump_not (h : MOn w P M vm vs vc vi vo sv) {A : Option Addr} {n : Nat} (cap : Nat) {code : Prg} (hE : Env w P A n code) (mem st : Int) (k : Nat) (hk : k < code.length) (hd : M.dir = 1 ∨ M.dir = -1) (t : Nat) (hp : partner code k = ((t : Int), true)) (hv : (code.getD k default).valid = true) (hh : holds M (code.getD k default) = false) :
    Calls Tryz.prog 74 #[.agg #[.slice A n cap, .int .i64 mem, .int .i64 st], .pointer (some ⟨P.b, P.off, none⟩), .int .i64 k] w (OnM P (0, { M with pc := behind k M.dir }) w) := by
  have HP := Lib.hid hp
  clear hp
  obtain ⟨bc, oc, rfl⟩ := hE.form hk; have HM := Lib.hid h; have HE := Lib.hid hE; have HK := Lib.hid hk; have hkn : k < n := (by rw [hE.hn]; exact hk); have hn6 : n ≤ 65536 := (by rw [hE.hn]; exact hE.hl); obtain ⟨x, hx⟩ : ∃ x, code.getD k default = x := ⟨_, rfl⟩; have HX := Lib.hid hx; obtain ⟨dd, hdd⟩ : ∃ dd, M.dir = dd := ⟨_, rfl⟩; have HDD := Lib.hid hdd; have d0 : -1 ≤ dd := (by omega); have d1 : dd ≤ 1 := (by omega); have i1 : (0 : Int) ≤ (k : Int) := (by omega); have i2 : (k : Int) < (n : Int) := (by omega); have HD := Lib.hid hd; obtain ⟨b, tt, pre, post, off, gm, gs, fx⟩ := P; dsimp only at *; clear h hE hk hx hdd hd
  rw [HX.out] at hv hh
  have HXV := Lib.hid hv; have HH := Lib.hid hh
  rw [show behind k M.dir = behind k dd by rw [HDD.out]]
  have HJ : ∃ v, jumpB x.op = v := ⟨_, rfl⟩
  obtain ⟨vj, hvj⟩ := HJ
  have HJ := Lib.hid hvj
  clear hv hh hvj
  go_enter Tryz.func74, Tryz.ntmps74; go_wp2_with fail; refine (c_Partner' _ n cap mem st k code HP.out _ (HE.out.next (by repeat' (first | (with_reducible assumption) | (with_reducible exact Below.refl _ _) | (with_reducible refine Below.alloc ?_ ?_ _) | (with_reducible refine Bk.drewN_ ?_ _) | (with_reducible refine Below.drew ?_) | (with_reducible refine Below.setCell ?_ ?_ _) | go_size))).rd HE.out.hw (HE.out.next (by repeat' (first | (with_reducible assumption) | (with_reducible exact Below.refl _ _) | (with_reducible refine Below.alloc ?_ ?_ _) | (with_reducible refine Bk.drewN_ ?_ _) | (with_reducible refine Below.drew ?_) | (with_reducible refine Below.setCell ?_ ?_ _) | go_size))).hT).mono ?_; rintro e w2 ⟨rfl, hb2⟩; have hB_w2 : Below w.heap.size w w2 := Below.next (by repeat' (first | (with_reducible assumption) | (with_reducible exact Below.refl _ _) | (with_reducible refine Below.alloc ?_ ?_ _) | (with_reducible refine Bk.drewN_ ?_ _) | (with_reducible refine Below.drew ?_) | (with_reducible refine Below.setCell ?_ ?_ _) | go_size)) hb2; have K_1 : Blk w2 (w.heap.size) 82 #[.slice (some ⟨bc, oc, none⟩) n cap, .int .i64 mem, .int .i64 st] := Blk.next (by repeat' (first | with_reducible exact H_1.out | with_reducible exact K0_1 | (refine Blk.new' ?_ _ _; simp; done) | with_reducible refine Blk.alloc ?_ _ | with_reducible refine Blk.drewN ?_ _ | with_reducible refine Blk.drew ?_)) hb2; (try clear H_1); (try clear T_1); (try clear z_1); (try clear F_1); obtain ⟨z_1, T_1, F_1⟩ := K_1.open_; have H_1 := Lib.hid K_1; clear K_1; clear hb2
  have Hm_w2 := Lib.hid (HM.out.next hB_w2); have Ev_w2 := Lib.hid (HE.out.next hB_w2); obtain ⟨x0, x1, x2, x3, x4⟩ := Ev_w2.out.at_ HK.out HX.out; have e1 := Hm_w2.out.c1; have e0 := Hm_w2.out.c0; have z0 := Hm_w2.out.frozen off; rw [HDD.out] at e1; dsimp only at e0 e1 z0; go_wp2_with fail; refine (c_holds Hm_w2.out x HXV.out HH.out).mono ?_; rintro e w3 ⟨rfl, hb3⟩; have hB_w3 : Below w.heap.size w w3 := Below.next hB_w2 hb3; have K_1 := H_1.out.next hb3; (try clear H_1); (try clear T_1); (try clear z_1); (try clear F_1); obtain ⟨z_1, T_1, F_1⟩ := K_1.open_; have H_1 := Lib.hid K_1; clear K_1; clear hb3; clear x0 x1 x2 x3 x4 e1 e0 z0
  have Hm_w3 := Lib.hid (HM.out.next hB_w3); have Ev_w3 := Lib.hid (HE.out.next hB_w3); obtain ⟨x0, x1, x2, x3, x4⟩ := Ev_w3.out.at_ HK.out HX.out; have e1 := Hm_w3.out.c1; have e0 := Hm_w3.out.c0; have z0 := Hm_w3.out.frozen off; rw [HDD.out] at e1; dsimp only at e0 e1 z0
  go_wp2_with fail
  go_quiet ((go_at_call 72; exact quiet_left (c_IsJump' _ HJ.out _)))
  go_wp2_with fail
  refine (c_behind k dd i1 (by omega) _).mono ?_
  rintro e w4 ⟨rfl, rfl⟩
  go_wp2_with fail
  go_ret
  exact ⟨rfl, (Hm_w3.out.setPc _).matE rfl, by repeat' (first | with_reducible (first | assumption | apply Fr.refl | apply Fr.drew | apply Fr.drewN | apply Fr.alloc | apply Fr.set) | exact .inl rfl | exact .inr (.inl rfl) | exact .inr (.inr rfl) | (apply Fr.of; assumption))⟩

theorem jump_go (h : MOn w P M vm vs vc vi vo sv) {A : Option Addr} {n : Nat} (cap : Nat) {code : Prg} (hE : Env w P A n code) (mem st : Int) (k : Nat) (hk : k < code.length) (hd : M.dir = 1 ∨ M.dir = -1) (t : Nat) (hp : partner code k = ((t : Int), true)) (hv : (code.getD k default).valid = true) (hh : holds M (code.getD k default) = true) (ht : t < code.length) (hv2 : (code.getD t default).valid = true) (hj : jumpB (code.getD k default).op = decide (M.dir > 0)) (hh2 : holds M (code.getD t default) = true) :
    Calls Tryz.prog 74 #[.agg #[.slice A n cap, .int .i64 mem, .int .i64 st], .pointer (some ⟨P.b, P.off, none⟩), .int .i64 k] w (OnM P (0, { M with pc := behind t M.dir }) w) := by
  have HP := Lib.hid hp
  clear hp
  obtain ⟨bc, oc, rfl⟩ := hE.form hk; have HM := Lib.hid h; have HE := Lib.hid hE; have HK := Lib.hid hk; have hkn : k < n := (by rw [hE.hn]; exact hk); have hn6 : n ≤ 65536 := (by rw [hE.hn]; exact hE.hl); obtain ⟨x, hx⟩ : ∃ x, code.getD k default = x := ⟨_, rfl⟩; have HX := Lib.hid hx; obtain ⟨dd, hdd⟩ : ∃ dd, M.dir = dd := ⟨_, rfl⟩; have HDD := Lib.hid hdd; have d0 : -1 ≤ dd := (by omega); have d1 : dd ≤ 1 := (by omega); have i1 : (0 : Int) ≤ (k : Int) := (by omega); have i2 : (k : Int) < (n : Int) := (by omega); have HD := Lib.hid hd; obtain ⟨b, tt, pre, post, off, gm, gs, fx⟩ := P; dsimp only at *; clear h hE hk hx hdd hd
  rw [HX.out] at hv hh hj; obtain ⟨y, hy⟩ : ∃ y, code.getD t default = y := ⟨_, rfl⟩; have HY := Lib.hid hy; rw [hy] at hv2; have HT := Lib.hid ht; have htn : t < n := (by rw [HE.out.hn]; exact ht); have j1 : (0 : Int) ≤ (t : Int) := (by omega); have j2 : (t : Int) < (n : Int) := (by omega); have HXV := Lib.hid hv; have HH := Lib.hid hh; have HYV := Lib.hid hv2; clear hv hh hv2 hy ht
  rw [HY.out] at hh2
  have HH2 := Lib.hid hh2
  clear hh2
  rw [show behind t M.dir = behind t dd by rw [HDD.out]]
  rcases HD.out with e | e
  · rw [e] at hj
    obtain rfl : dd = 1 := by rw [← HDD.out, e]
    have HJ : Hid (jumpB x.op = true) := Lib.hid (by rw [hj]; rfl)
    clear hj e d0 d1
    go_enter Tryz.func74, Tryz.ntmps74; go_wp2_with fail; refine (c_Partner' _ n cap mem st k code HP.out _ (HE.out.next (by repeat' (first | (with_reducible assumption) | (with_reducible exact Below.refl _ _) | (with_reducible refine Below.alloc ?_ ?_ _) | (with_reducible refine Bk.drewN_ ?_ _) | (with_reducible refine Below.drew ?_) | (with_reducible refine Below.setCell ?_ ?_ _) | go_size))).rd HE.out.hw (HE.out.next (by repeat' (first | (with_reducible assumption) | (with_reducible exact Below.refl _ _) | (with_reducible refine Below.alloc ?_ ?_ _) | (with_reducible refine Bk.drewN_ ?_ _) | (with_reducible refine Below.drew ?_) | (with_reducible refine Below.setCell ?_ ?_ _) | go_size))).hT).mono ?_; rintro e w2 ⟨rfl, hb2⟩; have hB_w2 : Below w.heap.size w w2 := Below.next (by repeat' (first | (with_reducible assumption) | (with_reducible exact Below.refl _ _) | (with_reducible refine Below.alloc ?_ ?_ _) | (with_reducible refine Bk.drewN_ ?_ _) | (with_reducible refine Below.drew ?_) | (with_reducible refine Below.setCell ?_ ?_ _) | go_size)) hb2; have K_1 : Blk w2 (w.heap.size) 82 #[.slice (some ⟨bc, oc, none⟩) n cap, .int .i64 mem, .int .i64 st] := Blk.next (by repeat' (first | with_reducible exact H_1.out | with_reducible exact K0_1 | (refine Blk.new' ?_ _ _; simp; done) | with_reducible refine Blk.alloc ?_ _ | with_reducible refine Blk.drewN ?_ _ | with_reducible refine Blk.drew ?_)) hb2; (try clear H_1); (try clear T_1); (try clear z_1); (try clear F_1); obtain ⟨z_1, T_1, F_1⟩ := K_1.open_; have H_1 := Lib.hid K_1; clear K_1; clear hb2
    have Hm_w2 := Lib.hid (HM.out.next hB_w2); have Ev_w2 := Lib.hid (HE.out.next hB_w2); obtain ⟨x0, x1, x2, x3, x4⟩ := Ev_w2.out.at_ HK.out HX.out; have e1 := Hm_w2.out.c1; have e0 := Hm_w2.out.c0; have z0 := Hm_w2.out.frozen off; rw [HDD.out] at e1; dsimp only at e0 e1 z0; go_wp2_with fail; refine (c_holds Hm_w2.out x HXV.out HH.out).mono ?_; rintro e w3 ⟨rfl, hb3⟩; have hB_w3 : Below w.heap.size w w3 := Below.next hB_w2 hb3; have K_1 := H_1.out.next hb3; (try clear H_1); (try clear T_1); (try clear z_1); (try clear F_1); obtain ⟨z_1, T_1, F_1⟩ := K_1.open_; have H_1 := Lib.hid K_1; clear K_1; clear hb3; clear x0 x1 x2 x3 x4 e1 e0 z0
    (have Hm3 := Lib.hid (HM.out.next hB_w3); have Ev3 := Lib.hid (HE.out.next hB_w3); obtain ⟨x0, x1, x2, x3, x4⟩ := Ev3.out.at_ HK.out HX.out; obtain ⟨y0, y1, y2, y3, y4⟩ := Ev3.out.at_ HT.out HY.out; have e1 := Hm3.out.c1; have e0 := Hm3.out.c0; have z0 := Hm3.out.frozen off; rw [HDD.out] at e1; dsimp only at e0 e1 z0; go_wp2_with fail; go_quiet ((go_at_call 72; exact quiet_left (c_IsJump' _ HJ.out _))); go_wp2_with fail)
    ((refine (c_holds (Hm3.out.next (by repeat' (first | (with_reducible assumption) | (with_reducible exact Below.refl _ _) | (with_reducible refine Below.alloc ?_ ?_ _) | (with_reducible refine Bk.drewN_ ?_ _) | (with_reducible refine Below.drew ?_) | (with_reducible refine Below.setCell ?_ ?_ _) | go_size))) y HYV.out HH2.out).mono ?_); rintro e w4 ⟨rfl, hb4⟩; have hB_w4 : Below w.heap.size w w4 := Below.next (by repeat' (first | (with_reducible assumption) | (with_reducible exact Below.refl _ _) | (with_reducible refine Below.alloc ?_ ?_ _) | (with_reducible refine Bk.drewN_ ?_ _) | (with_reducible refine Below.drew ?_) | (with_reducible refine Below.setCell ?_ ?_ _) | go_size)) hb4; have K_1 : Blk w4 (w.heap.size) 82 #[.slice (some ⟨bc, oc, none⟩) n cap, .int .i64 mem, .int .i64 st] := Blk.next (by repeat' (first | with_reducible exact H_1.out | with_reducible exact K0_1 | (refine Blk.new' ?_ _ _; simp; done) | with_reducible refine Blk.alloc ?_ _ | with_reducible refine Blk.drewN ?_ _ | with_reducible refine Blk.drew ?_)) hb4; (try clear H_1); (try clear T_1); (try clear z_1); (try clear F_1); obtain ⟨z_1, T_1, F_1⟩ := K_1.open_; have H_1 := Lib.hid K_1; clear K_1; clear hb4; clear x0 x1 x2 x3 x4 y0 y1 y2 y3 y4 e1 e0 z0; have Hm4 := Lib.hid (HM.out.next hB_w4); have e1 := Hm4.out.c1; have e0 := Hm4.out.c0; have z0 := Hm4.out.frozen off; rw [HDD.out] at e1; dsimp only at e0 e1 z0; go_wp2_with fail)
    refine (c_behind t 1 j1 (by omega) _).mono ?_
    rintro e w5 ⟨rfl, rfl⟩
    go_wp2_with fail
    go_ret
    exact ⟨rfl, (Hm4.out.setPc _).matE rfl, by repeat' (first | with_reducible (first | assumption | apply Fr.refl | apply Fr.drew | apply Fr.drewN | apply Fr.alloc | apply Fr.set) | exact .inl rfl | exact .inr (.inl rfl) | exact .inr (.inr rfl) | (apply Fr.of; assumption))⟩
  · rw [e] at hj
    obtain rfl : dd = -1 := by rw [← HDD.out, e]
    have HJ : Hid (jumpB x.op = false) := Lib.hid (by rw [hj]; rfl)
    clear hj e d0 d1
    go_enter Tryz.func74, Tryz.ntmps74; go_wp2_with fail; refine (c_Partner' _ n cap mem st k code HP.out _ (HE.out.next (by repeat' (first | (with_reducible assumption) | (with_reducible exact Below.refl _ _) | (with_reducible refine Below.alloc ?_ ?_ _) | (with_reducible refine Bk.drewN_ ?_ _) | (with_reducible refine Below.drew ?_) | (with_reducible refine Below.setCell ?_ ?_ _) | go_size))).rd HE.out.hw (HE.out.next (by repeat' (first | (with_reducible assumption) | (with_reducible exact Below.refl _ _) | (with_reducible refine Below.alloc ?_ ?_ _) | (with_reducible refine Bk.drewN_ ?_ _) | (with_reducible refine Below.drew ?_) | (with_reducible refine Below.setCell ?_ ?_ _) | go_size))).hT).mono ?_; rintro e w2 ⟨rfl, hb2⟩; have hB_w2 : Below w.heap.size w w2 := Below.next (by repeat' (first | (with_reducible assumption) | (with_reducible exact Below.refl _ _) | (with_reducible refine Below.alloc ?_ ?_ _) | (with_reducible refine Bk.drewN_ ?_ _) | (with_reducible refine Below.drew ?_) | (with_reducible refine Below.setCell ?_ ?_ _) | go_size)) hb2; have K_1 : Blk w2 (w.heap.size) 82 #[.slice (some ⟨bc, oc, none⟩) n cap, .int .i64 mem, .int .i64 st] := Blk.next (by repeat' (first | with_reducible exact H_1.out | with_reducible exact K0_1 | (refine Blk.new' ?_ _ _; simp; done) | with_reducible refine Blk.alloc ?_ _ | with_reducible refine Blk.drewN ?_ _ | with_reducible refine Blk.drew ?_)) hb2; (try clear H_1); (try clear T_1); (try clear z_1); (try clear F_1); obtain ⟨z_1, T_1, F_1⟩ := K_1.open_; have H_1 := Lib.hid K_1; clear K_1; clear hb2
    have Hm_w2 := Lib.hid (HM.out.next hB_w2); have Ev_w2 := Lib.hid (HE.out.next hB_w2); obtain ⟨x0, x1, x2, x3, x4⟩ := Ev_w2.out.at_ HK.out HX.out; have e1 := Hm_w2.out.c1; have e0 := Hm_w2.out.c0; have z0 := Hm_w2.out.frozen off; rw [HDD.out] at e1; dsimp only at e0 e1 z0; go_wp2_with fail; refine (c_holds Hm_w2.out x HXV.out HH.out).mono ?_; rintro e w3 ⟨rfl, hb3⟩; have hB_w3 : Below w.heap.size w w3 := Below.next hB_w2 hb3; have K_1 := H_1.out.next hb3; (try clear H_1); (try clear T_1); (try clear z_1); (try clear F_1); obtain ⟨z_1, T_1, F_1⟩ := K_1.open_; have H_1 := Lib.hid K_1; clear K_1; clear hb3; clear x0 x1 x2 x3 x4 e1 e0 z0
    (have Hm3 := Lib.hid (HM.out.next hB_w3); have Ev3 := Lib.hid (HE.out.next hB_w3); obtain ⟨x0, x1, x2, x3, x4⟩ := Ev3.out.at_ HK.out HX.out; obtain ⟨y0, y1, y2, y3, y4⟩ := Ev3.out.at_ HT.out HY.out; have e1 := Hm3.out.c1; have e0 := Hm3.out.c0; have z0 := Hm3.out.frozen off; rw [HDD.out] at e1; dsimp only at e0 e1 z0; go_wp2_with fail; go_quiet ((go_at_call 72; exact quiet_left (c_IsJump' _ HJ.out _))); go_wp2_with fail)
    ((refine (c_holds (Hm3.out.next (by repeat' (first | (with_reducible assumption) | (with_reducible exact Below.refl _ _) | (with_reducible refine Below.alloc ?_ ?_ _) | (with_reducible refine Bk.drewN_ ?_ _) | (with_reducible refine Below.drew ?_) | (with_reducible refine Below.setCell ?_ ?_ _) | go_size))) y HYV.out HH2.out).mono ?_); rintro e w4 ⟨rfl, hb4⟩; have hB_w4 : Below w.heap.size w w4 := Below.next (by repeat' (first | (with_reducible assumption) | (with_reducible exact Below.refl _ _) | (with_reducible refine Below.alloc ?_ ?_ _) | (with_reducible refine Bk.drewN_ ?_ _) | (with_reducible refine Below.drew ?_) | (with_reducible refine Below.setCell ?_ ?_ _) | go_size)) hb4; have K_1 : Blk w4 (w.heap.size) 82 #[.slice (some ⟨bc, oc, none⟩) n cap, .int .i64 mem, .int .i64 st] := Blk.next (by repeat' (first | with_reducible exact H_1.out | with_reducible exact K0_1 | (refine Blk.new' ?_ _ _; simp; done) | with_reducible refine Blk.alloc ?_ _ | with_reducible refine Blk.drewN ?_ _ | with_reducible refine Blk.drew ?_)) hb4; (try clear H_1); (try clear T_1); (try clear z_1); (try clear F_1); obtain ⟨z_1, T_1, F_1⟩ := K_1.open_; have H_1 := Lib.hid K_1; clear K_1; clear hb4; clear x0 x1 x2 x3 x4 y0 y1 y2 y3 y4 e1 e0 z0; have Hm4 := Lib.hid (HM.out.next hB_w4); have e1 := Hm4.out.c1; have e0 := Hm4.out.c0; have z0 := Hm4.out.frozen off; rw [HDD.out] at e1; dsimp only at e0 e1 z0; go_wp2_with fail)
    refine (c_behind t (-1) j1 (by omega) _).mono ?_
    rintro e w5 ⟨rfl, rfl⟩
    go_wp2_with fail
    go_ret
    exact ⟨rfl, (Hm4.out.setPc _).matE rfl, by repeat' (first | with_reducible (first | assumption | apply Fr.refl | apply Fr.drew | apply Fr.drewN | apply Fr.alloc | apply Fr.set) | exact .inl rfl | exact .inr (.inl rfl) | exact .inr (.inr rfl) | (apply Fr.of; assumption))⟩

theorem jump_assertB (h : MOn w P M vm vs vc vi vo sv) {A : Option Addr} {n : Nat} (cap : Nat) {code : Prg} (hE : Env w P A n code) (mem st : Int) (k : Nat) (hk : k < code.length) (hd : M.dir = 1 ∨ M.dir = -1) (t : Nat) (hp : partner code k = ((t : Int), true)) (hv : (code.getD k default).valid = true) (hh : holds M (code.getD k default) = true) (ht : t < code.length) (hv2 : (code.getD t default).valid = true) (hj : jumpB (code.getD k default).op = decide (M.dir > 0)) (hh2 : holds M (code.getD t default) = false) :
    Calls Tryz.prog 74 #[.agg #[.slice A n cap, .int .i64 mem, .int .i64 st], .pointer (some ⟨P.b, P.off, none⟩), .int .i64 k] w (OnM P (15, M) w) := by
  have HP := Lib.hid hp
  clear hp
  obtain ⟨bc, oc, rfl⟩ := hE.form hk; have HM := Lib.hid h; have HE := Lib.hid hE; have HK := Lib.hid hk; have hkn : k < n := (by rw [hE.hn]; exact hk); have hn6 : n ≤ 65536 := (by rw [hE.hn]; exact hE.hl); obtain ⟨x, hx⟩ : ∃ x, code.getD k default = x := ⟨_, rfl⟩; have HX := Lib.hid hx; obtain ⟨dd, hdd⟩ : ∃ dd, M.dir = dd := ⟨_, rfl⟩; have HDD := Lib.hid hdd; have d0 : -1 ≤ dd := (by omega); have d1 : dd ≤ 1 := (by omega); have i1 : (0 : Int) ≤ (k : Int) := (by omega); have i2 : (k : Int) < (n : Int) := (by omega); have HD := Lib.hid hd; obtain ⟨b, tt, pre, post, off, gm, gs, fx⟩ := P; dsimp only at *; clear h hE hk hx hdd hd
  rw [HX.out] at hv hh hj; obtain ⟨y, hy⟩ : ∃ y, code.getD t default = y := ⟨_, rfl⟩; have HY := Lib.hid hy; rw [hy] at hv2; have HT := Lib.hid ht; have htn : t < n := (by rw [HE.out.hn]; exact ht); have j1 : (0 : Int) ≤ (t : Int) := (by omega); have j2 : (t : Int) < (n : Int) := (by omega); have HXV := Lib.hid hv; have HH := Lib.hid hh; have HYV := Lib.hid hv2; clear hv hh hv2 hy ht
  rw [HY.out] at hh2
  have HH2 := Lib.hid hh2
  clear hh2
  rcases HD.out with e | e
  · rw [e] at hj
    obtain rfl : dd = 1 := by rw [← HDD.out, e]
    have HJ : Hid (jumpB x.op = true) := Lib.hid (by rw [hj]; rfl)
    clear hj e d0 d1
    go_enter Tryz.func74, Tryz.ntmps74; go_wp2_with fail; refine (c_Partner' _ n cap mem st k code HP.out _ (HE.out.next (by repeat' (first | (with_reducible assumption) | (with_reducible exact Below.refl _ _) | (with_reducible refine Below.alloc ?_ ?_ _) | (with_reducible refine Bk.drewN_ ?_ _) | (with_reducible refine Below.drew ?_) | (with_reducible refine Below.setCell ?_ ?_ _) | go_size))).rd HE.out.hw (HE.out.next (by repeat' (first | (with_reducible assumption) | (with_reducible exact Below.refl _ _) | (with_reducible refine Below.alloc ?_ ?_ _) | (with_reducible refine Bk.drewN_ ?_ _) | (with_reducible refine Below.drew ?_) | (with_reducible refine Below.setCell ?_ ?_ _) | go_size))).hT).mono ?_; rintro e w2 ⟨rfl, hb2⟩; have hB_w2 : Below w.heap.size w w2 := Below.next (by repeat' (first | (with_reducible assumption) | (with_reducible exact Below.refl _ _) | (with_reducible refine Below.alloc ?_ ?_ _) | (with_reducible refine Bk.drewN_ ?_ _) | (with_reducible refine Below.drew ?_) | (with_reducible refine Below.setCell ?_ ?_ _) | go_size)) hb2; have K_1 : Blk w2 (w.heap.size) 82 #[.slice (some ⟨bc, oc, none⟩) n cap, .int .i64 mem, .int .i64 st] := Blk.next (by repeat' (first | with_reducible exact H_1.out | with_reducible exact K0_1 | (refine Blk.new' ?_ _ _; simp; done) | with_reducible refine Blk.alloc ?_ _ | with_reducible refine Blk.drewN ?_ _ | with_reducible refine Blk.drew ?_)) hb2; (try clear H_1); (try clear T_1); (try clear z_1); (try clear F_1); obtain ⟨z_1, T_1, F_1⟩ := K_1.open_; have H_1 := Lib.hid K_1; clear K_1; clear hb2
    have Hm_w2 := Lib.hid (HM.out.next hB_w2); have Ev_w2 := Lib.hid (HE.out.next hB_w2); obtain ⟨x0, x1, x2, x3, x4⟩ := Ev_w2.out.at_ HK.out HX.out; have e1 := Hm_w2.out.c1; have e0 := Hm_w2.out.c0; have z0 := Hm_w2.out.frozen off; rw [HDD.out] at e1; dsimp only at e0 e1 z0; go_wp2_with fail; refine (c_holds Hm_w2.out x HXV.out HH.out).mono ?_; rintro e w3 ⟨rfl, hb3⟩; have hB_w3 : Below w.heap.size w w3 := Below.next hB_w2 hb3; have K_1 := H_1.out.next hb3; (try clear H_1); (try clear T_1); (try clear z_1); (try clear F_1); obtain ⟨z_1, T_1, F_1⟩ := K_1.open_; have H_1 := Lib.hid K_1; clear K_1; clear hb3; clear x0 x1 x2 x3 x4 e1 e0 z0
    (have Hm3 := Lib.hid (HM.out.next hB_w3); have Ev3 := Lib.hid (HE.out.next hB_w3); obtain ⟨x0, x1, x2, x3, x4⟩ := Ev3.out.at_ HK.out HX.out; obtain ⟨y0, y1, y2, y3, y4⟩ := Ev3.out.at_ HT.out HY.out; have e1 := Hm3.out.c1; have e0 := Hm3.out.c0; have z0 := Hm3.out.frozen off; rw [HDD.out] at e1; dsimp only at e0 e1 z0; go_wp2_with fail; go_quiet ((go_at_call 72; exact quiet_left (c_IsJump' _ HJ.out _))); go_wp2_with fail)
    ((refine (c_holds (Hm3.out.next (by repeat' (first | (with_reducible assumption) | (with_reducible exact Below.refl _ _) | (with_reducible refine Below.alloc ?_ ?_ _) | (with_reducible refine Bk.drewN_ ?_ _) | (with_reducible refine Below.drew ?_) | (with_reducible refine Below.setCell ?_ ?_ _) | go_size))) y HYV.out HH2.out).mono ?_); rintro e w4 ⟨rfl, hb4⟩; have hB_w4 : Below w.heap.size w w4 := Below.next (by repeat' (first | (with_reducible assumption) | (with_reducible exact Below.refl _ _) | (with_reducible refine Below.alloc ?_ ?_ _) | (with_reducible refine Bk.drewN_ ?_ _) | (with_reducible refine Below.drew ?_) | (with_reducible refine Below.setCell ?_ ?_ _) | go_size)) hb4; have K_1 : Blk w4 (w.heap.size) 82 #[.slice (some ⟨bc, oc, none⟩) n cap, .int .i64 mem, .int .i64 st] := Blk.next (by repeat' (first | with_reducible exact H_1.out | with_reducible exact K0_1 | (refine Blk.new' ?_ _ _; simp; done) | with_reducible refine Blk.alloc ?_ _ | with_reducible refine Blk.drewN ?_ _ | with_reducible refine Blk.drew ?_)) hb4; (try clear H_1); (try clear T_1); (try clear z_1); (try clear F_1); obtain ⟨z_1, T_1, F_1⟩ := K_1.open_; have H_1 := Lib.hid K_1; clear K_1; clear hb4; clear x0 x1 x2 x3 x4 y0 y1 y2 y3 y4 e1 e0 z0; have Hm4 := Lib.hid (HM.out.next hB_w4); have e1 := Hm4.out.c1; have e0 := Hm4.out.c0; have z0 := Hm4.out.frozen off; rw [HDD.out] at e1; dsimp only at e0 e1 z0; go_wp2_with fail)
    go_ret
    exact ⟨rfl, Hm4.out.matE rfl, by repeat' (first | with_reducible (first | assumption | apply Fr.refl | apply Fr.drew | apply Fr.drewN | apply Fr.alloc | apply Fr.set) | exact .inl rfl | exact .inr (.inl rfl) | exact .inr (.inr rfl) | (apply Fr.of; assumption))⟩
  · rw [e] at hj
    obtain rfl : dd = -1 := by rw [← HDD.out, e]
    have HJ : Hid (jumpB x.op = false) := Lib.hid (by rw [hj]; rfl)
    clear hj e d0 d1
    go_enter Tryz.func74, Tryz.ntmps74; go_wp2_with fail; refine (c_Partner' _ n cap mem st k code HP.out _ (HE.out.next (by repeat' (first | (with_reducible assumption) | (with_reducible exact Below.refl _ _) | (with_reducible refine Below.alloc ?_ ?_ _) | (with_reducible refine Bk.drewN_ ?_ _) | (with_reducible refine Below.drew ?_) | (with_reducible refine Below.setCell ?_ ?_ _) | go_size))).rd HE.out.hw (HE.out.next (by repeat' (first | (with_reducible assumption) | (with_reducible exact Below.refl _ _) | (with_reducible refine Below.alloc ?_ ?_ _) | (with_reducible refine Bk.drewN_ ?_ _) | (with_reducible refine Below.drew ?_) | (with_reducible refine Below.setCell ?_ ?_ _) | go_size))).hT).mono ?_; rintro e w2 ⟨rfl, hb2⟩; have hB_w2 : Below w.heap.size w w2 := Below.next (by repeat' (first | (with_reducible assumption) | (with_reducible exact Below.refl _ _) | (with_reducible refine Below.alloc ?_ ?_ _) | (with_reducible refine Bk.drewN_ ?_ _) | (with_reducible refine Below.drew ?_) | (with_reducible refine Below.setCell ?_ ?_ _) | go_size)) hb2; have K_1 : Blk w2 (w.heap.size) 82 #[.slice (some ⟨bc, oc, none⟩) n cap, .int .i64 mem, .int .i64 st] := Blk.next (by repeat' (first | with_reducible exact H_1.out | with_reducible exact K0_1 | (refine Blk.new' ?_ _ _; simp; done) | with_reducible refine Blk.alloc ?_ _ | with_reducible refine Blk.drewN ?_ _ | with_reducible refine Blk.drew ?_)) hb2; (try clear H_1); (try clear T_1); (try clear z_1); (try clear F_1); obtain ⟨z_1, T_1, F_1⟩ := K_1.open_; have H_1 := Lib.hid K_1; clear K_1; clear hb2
    have Hm_w2 := Lib.hid (HM.out.next hB_w2); have Ev_w2 := Lib.hid (HE.out.next hB_w2); obtain ⟨x0, x1, x2, x3, x4⟩ := Ev_w2.out.at_ HK.out HX.out; have e1 := Hm_w2.out.c1; have e0 := Hm_w2.out.c0; have z0 := Hm_w2.out.frozen off; rw [HDD.out] at e1; dsimp only at e0 e1 z0; go_wp2_with fail; refine (c_holds Hm_w2.out x HXV.out HH.out).mono ?_; rintro e w3 ⟨rfl, hb3⟩; have hB_w3 : Below w.heap.size w w3 := Below.next hB_w2 hb3; have K_1 := H_1.out.next hb3; (try clear H_1); (try clear T_1); (try clear z_1); (try clear F_1); obtain ⟨z_1, T_1, F_1⟩ := K_1.open_; have H_1 := Lib.hid K_1; clear K_1; clear hb3; clear x0 x1 x2 x3 x4 e1 e0 z0
    (have Hm3 := Lib.hid (HM.out.next hB_w3); have Ev3 := Lib.hid (HE.out.next hB_w3); obtain ⟨x0, x1, x2, x3, x4⟩ := Ev3.out.at_ HK.out HX.out; obtain ⟨y0, y1, y2, y3, y4⟩ := Ev3.out.at_ HT.out HY.out; have e1 := Hm3.out.c1; have e0 := Hm3.out.c0; have z0 := Hm3.out.frozen off; rw [HDD.out] at e1; dsimp only at e0 e1 z0; go_wp2_with fail; go_quiet ((go_at_call 72; exact quiet_left (c_IsJump' _ HJ.out _))); go_wp2_with fail)
    ((refine (c_holds (Hm3.out.next (by repeat' (first | (with_reducible assumption) | (with_reducible exact Below.refl _ _) | (with_reducible refine Below.alloc ?_ ?_ _) | (with_reducible refine Bk.drewN_ ?_ _) | (with_reducible refine Below.drew ?_) | (with_reducible refine Below.setCell ?_ ?_ _) | go_size))) y HYV.out HH2.out).mono ?_); rintro e w4 ⟨rfl, hb4⟩; have hB_w4 : Below w.heap.size w w4 := Below.next (by repeat' (first | (with_reducible assumption) | (with_reducible exact Below.refl _ _) | (with_reducible refine Below.alloc ?_ ?_ _) | (with_reducible refine Bk.drewN_ ?_ _) | (with_reducible refine Below.drew ?_) | (with_reducible refine Below.setCell ?_ ?_ _) | go_size)) hb4; have K_1 : Blk w4 (w.heap.size) 82 #[.slice (some ⟨bc, oc, none⟩) n cap, .int .i64 mem, .int .i64 st] := Blk.next (by repeat' (first | with_reducible exact H_1.out | with_reducible exact K0_1 | (refine Blk.new' ?_ _ _; simp; done) | with_reducible refine Blk.alloc ?_ _ | with_reducible refine Blk.drewN ?_ _ | with_reducible refine Blk.drew ?_)) hb4; (try clear H_1); (try clear T_1); (try clear z_1); (try clear F_1); obtain ⟨z_1, T_1, F_1⟩ := K_1.open_; have H_1 := Lib.hid K_1; clear K_1; clear hb4; clear x0 x1 x2 x3 x4 y0 y1 y2 y3 y4 e1 e0 z0; have Hm4 := Lib.hid (HM.out.next hB_w4); have e1 := Hm4.out.c1; have e0 := Hm4.out.c0; have z0 := Hm4.out.frozen off; rw [HDD.out] at e1; dsimp only at e0 e1 z0; go_wp2_with fail)
    go_ret
    exact ⟨rfl, Hm4.out.matE rfl, by repeat' (first | with_reducible (first | assumption | apply Fr.refl | apply Fr.drew | apply Fr.drewN | apply Fr.alloc | apply Fr.set) | exact .inl rfl | exact .inr (.inl rfl) | exact .inr (.inr rfl) | (apply Fr.of; assumption))⟩
theorem jump_assertA (h : MOn w P M vm vs vc vi vo sv) {A : Option Addr} {n : Nat} (cap : Nat) {code : Prg} (hE : Env w P A n code) (mem st : Int) (k : Nat) (hk : k < code.length) (hd : M.dir = 1 ∨ M.dir = -1) (t : Nat) (hp : partner code k = ((t : Int), true)) (hv : (code.getD k default).valid = true) (hh : holds M (code.getD k default) = true) (ht : t < code.length) (hv2 : (code.getD t default).valid = true) (hj : jumpB (code.getD k default).op ≠ decide (M.dir > 0)) :
    Calls Tryz.prog 74 #[.agg #[.slice A n cap, .int .i64 mem, .int .i64 st], .pointer (some ⟨P.b, P.off, none⟩), .int .i64 k] w (OnM P (15, M) w) := by
  have HP := Lib.hid hp
  clear hp
  obtain ⟨bc, oc, rfl⟩ := hE.form hk; have HM := Lib.hid h; have HE := Lib.hid hE; have HK := Lib.hid hk; have hkn : k < n := (by rw [hE.hn]; exact hk); have hn6 : n ≤ 65536 := (by rw [hE.hn]; exact hE.hl); obtain ⟨x, hx⟩ : ∃ x, code.getD k default = x := ⟨_, rfl⟩; have HX := Lib.hid hx; obtain ⟨dd, hdd⟩ : ∃ dd, M.dir = dd := ⟨_, rfl⟩; have HDD := Lib.hid hdd; have d0 : -1 ≤ dd := (by omega); have d1 : dd ≤ 1 := (by omega); have i1 : (0 : Int) ≤ (k : Int) := (by omega); have i2 : (k : Int) < (n : Int) := (by omega); have HD := Lib.hid hd; obtain ⟨b, tt, pre, post, off, gm, gs, fx⟩ := P; dsimp only at *; clear h hE hk hx hdd hd
  rw [HX.out] at hv hh hj; obtain ⟨y, hy⟩ : ∃ y, code.getD t default = y := ⟨_, rfl⟩; have HY := Lib.hid hy; rw [hy] at hv2; have HT := Lib.hid ht; have htn : t < n := (by rw [HE.out.hn]; exact ht); have j1 : (0 : Int) ≤ (t : Int) := (by omega); have j2 : (t : Int) < (n : Int) := (by omega); have HXV := Lib.hid hv; have HH := Lib.hid hh; have HYV := Lib.hid hv2; clear hv hh hv2 hy ht
  rcases HD.out with e | e
  · rw [e] at hj
    obtain rfl : dd = 1 := by rw [← HDD.out, e]
    have HJ : Hid (jumpB x.op = false) := Lib.hid (by cases hq : jumpB x.op; rfl; exact absurd hq (by rw [hq] at hj; exact absurd rfl hj))
    clear hj e d0 d1
    go_enter Tryz.func74, Tryz.ntmps74; go_wp2_with fail; refine (c_Partner' _ n cap mem st k code HP.out _ (HE.out.next (by repeat' (first | (with_reducible assumption) | (with_reducible exact Below.refl _ _) | (with_reducible refine Below.alloc ?_ ?_ _) | (with_reducible refine Bk.drewN_ ?_ _) | (with_reducible refine Below.drew ?_) | (with_reducible refine Below.setCell ?_ ?_ _) | go_size))).rd HE.out.hw (HE.out.next (by repeat' (first | (with_reducible assumption) | (with_reducible exact Below.refl _ _) | (with_reducible refine Below.alloc ?_ ?_ _) | (with_reducible refine Bk.drewN_ ?_ _) | (with_reducible refine Below.drew ?_) | (with_reducible refine Below.setCell ?_ ?_ _) | go_size))).hT).mono ?_; rintro e w2 ⟨rfl, hb2⟩; have hB_w2 : Below w.heap.size w w2 := Below.next (by repeat' (first | (with_reducible assumption) | (with_reducible exact Below.refl _ _) | (with_reducible refine Below.alloc ?_ ?_ _) | (with_reducible refine Bk.drewN_ ?_ _) | (with_reducible refine Below.drew ?_) | (with_reducible refine Below.setCell ?_ ?_ _) | go_size)) hb2; have K_1 : Blk w2 (w.heap.size) 82 #[.slice (some ⟨bc, oc, none⟩) n cap, .int .i64 mem, .int .i64 st] := Blk.next (by repeat' (first | with_reducible exact H_1.out | with_reducible exact K0_1 | (refine Blk.new' ?_ _ _; simp; done) | with_reducible refine Blk.alloc ?_ _ | with_reducible refine Blk.drewN ?_ _ | with_reducible refine Blk.drew ?_)) hb2; (try clear H_1); (try clear T_1); (try clear z_1); (try clear F_1); obtain ⟨z_1, T_1, F_1⟩ := K_1.open_; have H_1 := Lib.hid K_1; clear K_1; clear hb2
    have Hm_w2 := Lib.hid (HM.out.next hB_w2); have Ev_w2 := Lib.hid (HE.out.next hB_w2); obtain ⟨x0, x1, x2, x3, x4⟩ := Ev_w2.out.at_ HK.out HX.out; have e1 := Hm_w2.out.c1; have e0 := Hm_w2.out.c0; have z0 := Hm_w2.out.frozen off; rw [HDD.out] at e1; dsimp only at e0 e1 z0; go_wp2_with fail; refine (c_holds Hm_w2.out x HXV.out HH.out).mono ?_; rintro e w3 ⟨rfl, hb3⟩; have hB_w3 : Below w.heap.size w w3 := Below.next hB_w2 hb3; have K_1 := H_1.out.next hb3; (try clear H_1); (try clear T_1); (try clear z_1); (try clear F_1); obtain ⟨z_1, T_1, F_1⟩ := K_1.open_; have H_1 := Lib.hid K_1; clear K_1; clear hb3; clear x0 x1 x2 x3 x4 e1 e0 z0
    (have Hm3 := Lib.hid (HM.out.next hB_w3); have Ev3 := Lib.hid (HE.out.next hB_w3); obtain ⟨x0, x1, x2, x3, x4⟩ := Ev3.out.at_ HK.out HX.out; obtain ⟨y0, y1, y2, y3, y4⟩ := Ev3.out.at_ HT.out HY.out; have e1 := Hm3.out.c1; have e0 := Hm3.out.c0; have z0 := Hm3.out.frozen off; rw [HDD.out] at e1; dsimp only at e0 e1 z0; go_wp2_with fail; go_quiet ((go_at_call 72; exact quiet_left (c_IsJump' _ HJ.out _))); go_wp2_with fail)
    go_ret
    exact ⟨rfl, Hm3.out.matE rfl, by repeat' (first | with_reducible (first | assumption | apply Fr.refl | apply Fr.drew | apply Fr.drewN | apply Fr.alloc | apply Fr.set) | exact .inl rfl | exact .inr (.inl rfl) | exact .inr (.inr rfl) | (apply Fr.of; assumption))⟩
  · rw [e] at hj
    obtain rfl : dd = -1 := by rw [← HDD.out, e]
    have HJ : Hid (jumpB x.op = true) := Lib.hid (by cases hq : jumpB x.op; exact absurd hq (by rw [hq] at hj; exact absurd rfl hj); rfl)
    clear hj e d0 d1
    go_enter Tryz.func74, Tryz.ntmps74; go_wp2_with fail; refine (c_Partner' _ n cap mem st k code HP.out _ (HE.out.next (by repeat' (first | (with_reducible assumption) | (with_reducible exact Below.refl _ _) | (with_reducible refine Below.alloc ?_ ?_ _) | (with_reducible refine Bk.drewN_ ?_ _) | (with_reducible refine Below.drew ?_) | (with_reducible refine Below.setCell ?_ ?_ _) | go_size))).rd HE.out.hw (HE.out.next (by repeat' (first | (with_reducible assumption) | (with_reducible exact Below.refl _ _) | (with_reducible refine Below.alloc ?_ ?_ _) | (with_reducible refine Bk.drewN_ ?_ _) | (with_reducible refine Below.drew ?_) | (with_reducible refine Below.setCell ?_ ?_ _) | go_size))).hT).mono ?_; rintro e w2 ⟨rfl, hb2⟩; have hB_w2 : Below w.heap.size w w2 := Below.next (by repeat' (first | (with_reducible assumption) | (with_reducible exact Below.refl _ _) | (with_reducible refine Below.alloc ?_ ?_ _) | (with_reducible refine Bk.drewN_ ?_ _) | (with_reducible refine Below.drew ?_) | (with_reducible refine Below.setCell ?_ ?_ _) | go_size)) hb2; have K_1 : Blk w2 (w.heap.size) 82 #[.slice (some ⟨bc, oc, none⟩) n cap, .int .i64 mem, .int .i64 st] := Blk.next (by repeat' (first | with_reducible exact H_1.out | with_reducible exact K0_1 | (refine Blk.new' ?_ _ _; simp; done) | with_reducible refine Blk.alloc ?_ _ | with_reducible refine Blk.drewN ?_ _ | with_reducible refine Blk.drew ?_)) hb2; (try clear H_1); (try clear T_1); (try clear z_1); (try clear F_1); obtain ⟨z_1, T_1, F_1⟩ := K_1.open_; have H_1 := Lib.hid K_1; clear K_1; clear hb2
    have Hm_w2 := Lib.hid (HM.out.next hB_w2); have Ev_w2 := Lib.hid (HE.out.next hB_w2); obtain ⟨x0, x1, x2, x3, x4⟩ := Ev_w2.out.at_ HK.out HX.out; have e1 := Hm_w2.out.c1; have e0 := Hm_w2.out.c0; have z0 := Hm_w2.out.frozen off; rw [HDD.out] at e1; dsimp only at e0 e1 z0; go_wp2_with fail; refine (c_holds Hm_w2.out x HXV.out HH.out).mono ?_; rintro e w3 ⟨rfl, hb3⟩; have hB_w3 : Below w.heap.size w w3 := Below.next hB_w2 hb3; have K_1 := H_1.out.next hb3; (try clear H_1); (try clear T_1); (try clear z_1); (try clear F_1); obtain ⟨z_1, T_1, F_1⟩ := K_1.open_; have H_1 := Lib.hid K_1; clear K_1; clear hb3; clear x0 x1 x2 x3 x4 e1 e0 z0
    (have Hm3 := Lib.hid (HM.out.next hB_w3); have Ev3 := Lib.hid (HE.out.next hB_w3); obtain ⟨x0, x1, x2, x3, x4⟩ := Ev3.out.at_ HK.out HX.out; obtain ⟨y0, y1, y2, y3, y4⟩ := Ev3.out.at_ HT.out HY.out; have e1 := Hm3.out.c1; have e0 := Hm3.out.c0; have z0 := Hm3.out.frozen off; rw [HDD.out] at e1; dsimp only at e0 e1 z0; go_wp2_with fail; go_quiet ((go_at_call 72; exact quiet_left (c_IsJump' _ HJ.out _))); go_wp2_with fail)
    go_ret
    exact ⟨rfl, Hm3.out.matE rfl, by repeat' (first | with_reducible (first | assumption | apply Fr.refl | apply Fr.drew | apply Fr.drewN | apply Fr.alloc | apply Fr.set) | exact .inl rfl | exact .inr (.inl rfl) | exact .inr (.inr rfl) | (apply Fr.of; assumption))⟩

theorem c_jump (h : MOn w P M vm vs vc vi vo sv) {A : Option Addr} {n : Nat} (cap : Nat) {code : Prg} (hE : Env w P A n code) (mem st : Int) (k : Nat) (hk : k < code.length) (hd : M.dir = 1 ∨ M.dir = -1) (hv : (code.getD k default).valid = true) :
    Calls Tryz.prog 74 #[.agg #[.slice A n cap, .int .i64 mem, .int .i64 st], .pointer (some ⟨P.b, P.off, none⟩), .int .i64 k] w (OnM P (jump code M k) w) := by
  unfold jump
  by_cases hp : (partner code k).2 = false
  · rw [if_pos hp]; exact jump_none h cap hE mem st k hk hd hp
  rw [if_neg hp]
  have hp : (partner code k).2 = true := by simpa using hp
  obtain ⟨a1, a2, a3, a4, a5, a6, a7, a8, a9⟩ := partner_inv hp
  obtain ⟨t, ht⟩ := nat_of a3
  have hpt : partner code k = ((t : Int), true) := Prod.ext ht hp
  rw [ht] at a4 a7
  simp only [Int.toNat_natCast] at a7
  have htl : t < code.length := by omega
  by_cases hh : holds M (code.getD k default) = false
  · rw [if_pos hh]; exact jump_not h cap hE mem st k hk hd t hpt hv hh
  rw [if_neg hh]
  have hh : holds M (code.getD k default) = true := by simpa using hh
  rw [ht]
  simp only [Int.toNat_natCast]
  by_cases hj : jumpB (code.getD k default).op = decide (M.dir > 0)
  · by_cases hh2 : holds M (code.getD t default) = true
    · rw [if_pos ⟨hj, hh2⟩]; exact jump_go h cap hE mem st k hk hd t hpt hv hh htl a7 hj hh2
    · rw [if_neg (fun g => hh2 g.2)]; exact jump_assertB h cap hE mem st k hk hd t hpt hv hh htl a7 hj (by simpa using hh2)
  · rw [if_neg (fun g => hj g.1)]; exact jump_assertA h cap hE mem st k hk hd t hpt hv hh htl a7 hj
theorem OnM.of {f : FuncId} {args : Array Value} {P : Pl} {x y : Int × Mach} {w : World} (h : Calls Tryz.prog f args w (OnM P x w)) (e : y = x) : Calls Tryz.prog f args w (OnM P y w) := e ▸ h
end Go.Proofs.YtbijhlgdilkopaaGreatDoor
