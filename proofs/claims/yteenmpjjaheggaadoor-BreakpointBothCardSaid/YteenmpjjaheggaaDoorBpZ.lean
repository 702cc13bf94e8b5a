/- Several texts in one: BpG BpH BpI BpK. -/
import Derived.Test.YteenmpjjaheggaaDoorBpX
import Derived.Test.YteenmpjjaheggaaDoorZOpenBo
import Derived.Test.YteenmpjjaheggaaDoorDbY
import Derived.Test.YteenmpjjaheggaaDoorZCpuNew
set_option linter.unusedVariables false
set_option linter.unusedSimpArgs false
/- backsteplaw34.small. -/
set_option maxRecDepth 100000
set_option maxHeartbeats 8000000
set_option maxRecDepth 100000
set_option linter.unusedVariables false
set_option linter.unusedSimpArgs false
namespace Bk
/-- Within the bounds of the laws of layer 34. -/
def sm34 (im : Img) (M : Mach) : Bool := decide (im.code.length ≤ 200 ∧ im.mem ≤ 200 ∧ im.stacks ≤ 200 ∧ M.m.length ≤ 200 ∧ M.s.length ≤ 200 ∧ M.inp.length ≤ 200 ∧ M.out.length ≤ 200)
/-- A debugger is made: the image is valid and the machine fits. -/
def ok34 (im : Img) (M : Mach) : Bool := decide (im.check.2 = 0) && fitsB im M
end Bk
namespace Go.Proofs.YteenmpjjaheggaaDoor
open Go.RowKit Bk
variable {w : World} {D : Nat → Prop} {P : Pl} {M : Mach} {vm vs vc vi vo : Value} {sv : List Value}
theorem MLs.up {w w' : World} {M : Mach} {vm vs vc vi vo : Value} {sv : List Value} (h : MLs w (· < w.heap.size) M vm vs vc vi vo sv) (hb : Below w.heap.size w w') : MLs w' (· < w'.heap.size) M vm vs vc vi vo sv :=
  h.keep (fun b o hd => hb.cell (p := ⟨b, o, none⟩) hd) (fun k hk => Nat.lt_of_lt_of_le hk hb.size) fun _ h => h
theorem Rd.upL {w w' : World} {A : Option Addr} {n sz : Nat} {xs : List Value} (h : Rd w (· < w.heap.size) sz A n xs) (hb : Below w.heap.size w w') : Rd w' (· < w'.heap.size) sz A n xs :=
  (h.keep (fun b o hd => hb.cell (p := ⟨b, o, none⟩) hd)).mono (fun k hk => Nat.lt_of_lt_of_le hk hb.size)
theorem c_small1' (hL : MLs w D M vm vs vc vi vo sv) (A : Option Addr) (n cap : Nat) (im : Img) (q0 : ¬ (200 : Int) < ((n : Nat) : Int)) (q1 : ¬ (200 : Int) < im.mem) (q2 : ¬ (200 : Int) < im.stacks) (q3 : ¬ (200 : Int) < ((M.m.length : Nat) : Int)) (q4 : ¬ (200 : Int) < ((M.s.length : Nat) : Int)) (q5 : ¬ (200 : Int) < ((M.inp.length : Nat) : Int)) (q6 : ¬ (200 : Int) < ((M.out.length : Nat) : Int)) :
    Calls Tryd.prog 13 #[.agg #[.slice A n cap, .int .i64 im.mem, .int .i64 im.stacks], .agg (mcells M vm vs vc vi vo).toArray] w fun e w' => e = .returned (.int .i64 1) ∧ Below w.heap.size w w' := by
  obtain ⟨Am, cm, rfl, _⟩ := hL.m; obtain ⟨Av, cv, rfl, _⟩ := hL.s; obtain ⟨Ac, cc, rfl, _⟩ := hL.l.2.1; obtain ⟨Ai, ci, rfl, _⟩ := hL.l.2.2.1; obtain ⟨Ao, co, rfl, _⟩ := hL.l.2.2.2
  obtain ⟨g0, g1, gr, g18, g19, g20, g21, g22, g23, g24, glen⟩ := mc_get (M := M) (vm := .slice Am M.m.length cm) (vs := .slice Av M.s.length cv) (vc := .slice Ac M.calls.length cc) (vi := .slice Ai M.inp.length ci) (vo := .slice Ao M.out.length co) hL.rl
  clear glen gr
  clear hL
  go_enter Tryd.func13, Tryd.ntmps13
  go_wp2_with fail
  go_ret
  exact ⟨rfl, by go_grown⟩
theorem c_small0' (hL : MLs w D M vm vs vc vi vo sv) (A : Option Addr) (n cap : Nat) (im : Img) (h : (200 : Int) < ((n : Nat) : Int) ∨ (200 : Int) < im.mem ∨ (200 : Int) < im.stacks ∨ (200 : Int) < ((M.m.length : Nat) : Int) ∨ (200 : Int) < ((M.s.length : Nat) : Int) ∨ (200 : Int) < ((M.inp.length : Nat) : Int) ∨ (200 : Int) < ((M.out.length : Nat) : Int)) :
    Calls Tryd.prog 13 #[.agg #[.slice A n cap, .int .i64 im.mem, .int .i64 im.stacks], .agg (mcells M vm vs vc vi vo).toArray] w fun e w' => e = .returned (.int .i64 0) ∧ Below w.heap.size w w' := by
  obtain ⟨Am, cm, rfl, _⟩ := hL.m; obtain ⟨Av, cv, rfl, _⟩ := hL.s; obtain ⟨Ac, cc, rfl, _⟩ := hL.l.2.1; obtain ⟨Ai, ci, rfl, _⟩ := hL.l.2.2.1; obtain ⟨Ao, co, rfl, _⟩ := hL.l.2.2.2
  obtain ⟨g0, g1, gr, g18, g19, g20, g21, g22, g23, g24, glen⟩ := mc_get (M := M) (vm := .slice Am M.m.length cm) (vs := .slice Av M.s.length cv) (vc := .slice Ac M.calls.length cc) (vi := .slice Ai M.inp.length ci) (vo := .slice Ao M.out.length co) hL.rl
  clear glen gr
  clear hL
  go_enter Tryd.func13, Tryd.ntmps13
  go_wp2_with fail
  all_goals (go_ret; exact ⟨rfl, by go_grown⟩)
theorem c_small1 (hL : MLs w D M vm vs vc vi vo sv) (A : Option Addr) (n cap : Nat) (im : Img) (hn : n = im.code.length) (h : sm34 im M = true) :
    Calls Tryd.prog 13 #[.agg #[.slice A n cap, .int .i64 im.mem, .int .i64 im.stacks], .agg (mcells M vm vs vc vi vo).toArray] w fun e w' => e = .returned (.int .i64 1) ∧ Below w.heap.size w w' := by
  have h := of_decide_eq_true h
  exact c_small1' hL A n cap im (by omega) (by omega) (by omega) (by omega) (by omega) (by omega) (by omega)
theorem c_small0 (hL : MLs w D M vm vs vc vi vo sv) (A : Option Addr) (n cap : Nat) (im : Img) (hn : n = im.code.length) (h : sm34 im M = false) :
    Calls Tryd.prog 13 #[.agg #[.slice A n cap, .int .i64 im.mem, .int .i64 im.stacks], .agg (mcells M vm vs vc vi vo).toArray] w fun e w' => e = .returned (.int .i64 0) ∧ Below w.heap.size w w' := by
  have h := of_decide_eq_false h
  exact c_small0' hL A n cap im (by omega)
end Go.Proofs.YteenmpjjaheggaaDoor

/- backsteplaw34.line. -/
set_option maxRecDepth 100000
set_option maxHeartbeats 8000000
set_option maxRecDepth 100000
set_option linter.unusedVariables false
set_option linter.unusedSimpArgs false
namespace Bk
open Go Go.RowKit
theorem wp_appendR {P : Program} {o : Oper} {a : Act} {w : World} {K : Act → World → Prop} {Q : Exit → Act → World → Prop} (s x : Operand) (t : TypeId)
    (ho : o.op = .call { callee := .builtin .append, args := #[s, x], argTypes := #[t, t] })
    (base : Nat) (e : TypeId) (i : TypeInfo) (z : Value) (size bytes : Nat) (ht : P.underlying t = some (.slice e)) (hi : P.info? e = some i) (hz : i.zero = some z)
    (hsize : i.size = size) (hby : i.bytes = bytes) (hzs : z.cells.size = size) (hsz : 0 < size)
    (v : Value) (n : Nat) (xs : List Value) (hs : a.eval s = v) (hown : w.ownsRow base e size v n xs)
    (ad : Addr) (m c : Nat) (news : List Value) (hx : a.eval x = .slice (some ad) m c) (hl : news.length = m * size) (hnews : ∀ j u, news[j]? = some u → w.cell? (ad.add j) = some u) (h1 : ∀ u ∈ news, u.oneCell' = true)
    (h63 : n + m ≤ maxLen) (hbytes : (n + m) * bytes ≤ 140737488355328) (hbase : base ≤ w.heap.size)
    (h : ∀ v' w', w'.ownsRow base e size v' (n + m) (xs ++ news) → w.grownBy w' v.ownBlock → (v'.ownBlock = v.ownBlock ∨ v'.ownBlock = some w.heap.size) → K (a.put o.dst v') w') :
    o.wp P a w K Q := by
  obtain ⟨v', w', hr, h2, h3, h4, h5⟩ := run_append_own_at (P := P) w base t o.type e i z size bytes ht hi hz hsize hby hzs hsz v n xs hown ad m c news hl hnews h1 h63 hbytes hbase
  unfold Oper.wp execOp
  simp only [ho, resolve, invoke, builtin, Sem.run_bind, Sem.run_pure, Result.andThen_ok, List.map_toArray, List.map_cons, List.map_nil, hs, hx, hr]
  exact h v' w' h2 h3 h5
theorem own_base {w : World} {base base' : Nat} {e : TypeId} {size n : Nat} {v : Value} {xs : List Value} (h : w.ownsRow base e size v n xs) (hb : base' ≤ base) : w.ownsRow base' e size v n xs := by
  refine ⟨h.1, ?_⟩
  rcases h.2 with h0 | ⟨g, cap, cur, e1, hg, r⟩
  · exact .inl h0
  · exact .inr ⟨g, cap, cur, e1, Nat.le_trans hb hg, r⟩
theorem MAt.otherF {w w' : World} {P : Pl} {M : Mach} (h : MAt w P M) {O : Nat → Prop} (hf : Fr O w w') (h1 : ¬ O P.b) (h2 : ¬ O P.gm) (h3 : ¬ O P.gs) (hx : ∀ k, O k → P.fx k) {fx : Nat → Prop} (f1 : ∀ k, fx k → P.fx k ∨ w.heap.size ≤ k) (f2 : ∀ k, fx k → k < w'.heap.size) : MAt w' { P with fx := fx } M := by
  obtain ⟨vm, vs, vc, vi, vo, sv, h⟩ := h
  have h' := h.other hf h1 h2 h3 hx
  refine ⟨vm, vs, vc, vi, vo, sv, h'.hoff, h'.rl, h'.blk, h'.m, h'.s, h'.gm, h'.gs, h'.am, h'.as_, ?_, f2⟩
  refine h.l.keep (fun b o hd => hf.cell hd.1 (fun ho => hd.2 (.inr (.inr (.inr (hx b ho))))) o) fun k hk => ⟨Nat.lt_of_lt_of_le hk.1 hf.size, fun ho => ?_⟩
  rcases ho with e | e | e | e
  · exact hk.2 (.inl e)
  · exact hk.2 (.inr (.inl e))
  · exact hk.2 (.inr (.inr (.inl e)))
  · rcases f1 k e with e | e
    · exact hk.2 (.inr (.inr (.inr e)))
    · have := hk.1; omega
theorem DAt.otherF {w w' : World} {P : Pl} {code : Prg} {M : Mach} {t : Nat} (h : DAt w P code M t) {O : Nat → Prop} (hf : Fr O w w') (h1 : ¬ O P.b) (h2 : ¬ O P.gm) (h3 : ¬ O P.gs) (hx : ∀ k, O k → P.fx k) {fx : Nat → Prop} (f1 : ∀ k, fx k → P.fx k ∨ w.heap.size ≤ k) (f2 : ∀ k, fx k → k < w'.heap.size) : DAt w' { P with fx := fx } code M t :=
  ⟨h.1.otherF hf h1 h2 h3 hx f1 f2, h.2⟩
end Bk
namespace Go.Proofs.YteenmpjjaheggaaDoor
open Go.RowKit Bk
theorem info_bool34 : (Tryd.prog.info? 4).map (fun i => (i.zero, i.size, i.bytes)) = some (some (.bool false), 1, 1) := by kernel_rfl
/-- No line: the image is not valid, or the machine does not fit. -/
theorem c_lineNone (A : Option Addr) (n cap : Nat) (im : Img) (M : Mach) (vm vs vc vi vo : Value) (sv : List Value) (w : World) (hC : Rd w (· < w.heap.size) 5 A n (codeCells im.code)) (hw : CodeWf im.code) (hL : MLs w (· < w.heap.size) M vm vs vc vi vo sv) (hwf : MWf M) (hl : ∀ l ∈ M.s, l.length ≤ 17592186043904) (hcl : M.calls.length ≤ 17592186043904) (hTab : TableAt w) (tk : Nat) (htk : tk ≤ 255) (ta tb : Int) (hta : I64 ta) (hms : M.s.length ≤ 1000000) (h : ok34 im M = false) :
    Calls Tryd.prog 14 #[.agg #[.slice A n cap, .int .i64 im.mem, .int .i64 im.stacks], .agg (mcells M vm vs vc vi vo).toArray, .agg #[.int .u8 tk, .int .i64 ta, .int .i64 tb]] w fun e w' => e = .returned (.tuple #[.slice none 0 0, .bool false]) ∧ Below w.heap.size w w' := by
  obtain ⟨ck, hck⟩ : ∃ ck, im.check.2 = ck := ⟨_, rfl⟩
  by_cases h0 : ck = 0
  · subst h0
    have hf : fitsB im M = false := by unfold ok34 at h; rw [hck] at h; simpa using h
    have HCK := Lib.hid hck; have HFF := Lib.hid hf
    clear hck hf h
    have hnn : n = im.code.length := by have := hC.1; rw [codeCells_length] at this; omega
    have HC := Lib.hid hC; have HT := Lib.hid hTab; have HL := Lib.hid hL; have HN := Lib.hid hnn
    clear hC hTab hL hnn
    go_enter Tryd.func14, Tryd.ntmps14
    go_upto_region 1 with fail
    refine wp_nameY ?_
    intro w1 hw1
    have hB_w1 : Below w.heap.size w w1 := by rw [hw1]; exact (by go_grown)
    have K_1 : Blk w1 w.heap.size 32 #[.slice A n cap, .int .i64 im.mem, .int .i64 im.stacks] := by rw [hw1]; exact (by repeat' (first | assumption | exact Blk.new' (by simp) _ _ | apply Blk.alloc | apply Blk.drew))
    have KM : Blk w1 (w.heap.size + 1) 27 (mcells M vm vs vc vi vo).toArray := by rw [hw1]; exact (by repeat' (first | assumption | exact Blk.new' (by simp) _ _ | apply Blk.alloc | apply Blk.drew))
    have KT := Lib.hid (show Blk w1 (w.heap.size + 2) 42 #[.int .u8 tk, .int .i64 ta, .int .i64 tb] by rw [hw1]; exact (by repeat' (first | assumption | exact Blk.new' (by simp) _ _ | apply Blk.alloc | apply Blk.drew)))
    have HM := Lib.hid ((HL.out.next hB_w1).at_ KM)
    have zz : w1.heap.size = w.heap.size + 3 := by rw [hw1]; simp
    clear hw1 KM
    obtain ⟨z_1, T_1, F_1⟩ := K_1.open_; have H_1 := Lib.hid K_1; clear K_1
    go_wp2_with (refine wpList_loadG 27 rfl rfl rfl (load_mach HM.out) ?_; simp only [Act.put, Bk.PU])
    refine (c_DNewMis A n cap im M vm vs vc vi vo sv w1 (Rd.upL HC.out hB_w1) hw (MLs.up HL.out hB_w1) hms (by omega) (HT.out.next hB_w1) HCK.out HFF.out).mono ?_
    rintro e w3 ⟨rfl, hb3⟩
    have hB_w3 := hB_w1.next hb3
    clear hb3
    go_wp2_with fail
    go_ret2
    exact ⟨rfl, hB_w3⟩
  · have h0' : (ck != 0) = true := by simpa using h0
    have HCK := Lib.hid hck; have H0 := Lib.hid h0
    clear hck h h0
    have hnn : n = im.code.length := by have := hC.1; rw [codeCells_length] at this; omega
    have HC := Lib.hid hC; have HT := Lib.hid hTab; have HL := Lib.hid hL; have HN := Lib.hid hnn
    clear hC hTab hL hnn
    go_enter Tryd.func14, Tryd.ntmps14
    go_upto_region 1 with fail
    refine wp_nameY ?_
    intro w1 hw1
    have hB_w1 : Below w.heap.size w w1 := by rw [hw1]; exact (by go_grown)
    have K_1 : Blk w1 w.heap.size 32 #[.slice A n cap, .int .i64 im.mem, .int .i64 im.stacks] := by rw [hw1]; exact (by repeat' (first | assumption | exact Blk.new' (by simp) _ _ | apply Blk.alloc | apply Blk.drew))
    have KM : Blk w1 (w.heap.size + 1) 27 (mcells M vm vs vc vi vo).toArray := by rw [hw1]; exact (by repeat' (first | assumption | exact Blk.new' (by simp) _ _ | apply Blk.alloc | apply Blk.drew))
    have KT := Lib.hid (show Blk w1 (w.heap.size + 2) 42 #[.int .u8 tk, .int .i64 ta, .int .i64 tb] by rw [hw1]; exact (by repeat' (first | assumption | exact Blk.new' (by simp) _ _ | apply Blk.alloc | apply Blk.drew)))
    have HM := Lib.hid ((HL.out.next hB_w1).at_ KM)
    have zz : w1.heap.size = w.heap.size + 3 := by rw [hw1]; simp
    clear hw1 KM
    obtain ⟨z_1, T_1, F_1⟩ := K_1.open_; have H_1 := Lib.hid K_1; clear K_1
    go_wp2_with (refine wpList_loadG 27 rfl rfl rfl (load_mach HM.out) ?_; simp only [Act.put, Bk.PU])
    refine (c_DNewBad A n cap im M vm vs vc vi vo sv w1 (Rd.upL HC.out hB_w1) hw (MLs.up HL.out hB_w1) hms (by omega) (HT.out.next hB_w1) HCK.out H0.out).mono ?_
    rintro e w3 ⟨rfl, hb3⟩
    have hB_w3 := hB_w1.next hb3
    clear hb3
    go_wp2_with fail
    go_ret2
    exact ⟨rfl, hB_w3⟩
/-- A line: the results of the predicate at the first times. -/
def LineRes (w : World) (im : Img) (M : Mach) (p : Mach → Bool) (L : Nat) (e : Ending) (w' : World) : Prop :=
  ∃ g cp, e = .returned (.tuple #[.slice (some ⟨g, 0, none⟩) (L + 1) cp, .bool true]) ∧ w'.ownsRow w.heap.size 4 1 (.slice (some ⟨g, 0, none⟩) (L + 1) cp) (L + 1) (boolCells (tl p im.code M L)) ∧ Below w.heap.size w w'
theorem c_lineOk (A : Option Addr) (n cap : Nat) (im : Img) (M : Mach) (vm vs vc vi vo : Value) (sv : List Value) (w : World) (hC : Rd w (· < w.heap.size) 5 A n (codeCells im.code)) (hw : CodeWf im.code) (hL : MLs w (· < w.heap.size) M vm vs vc vi vo sv) (hwf : MWf M) (hl : ∀ l ∈ M.s, l.length ≤ 17592186043904) (hcl : M.calls.length ≤ 17592186043904) (hTab : TableAt w) (tk : Nat) (htk : tk ≤ 255) (ta tb : Int) (hta : I64 ta) (hms : M.s.length ≤ 1000000) (h : ok34 im M = true) {L : Nat} (hLin : Lin im.code M 120 L) :
    Calls Tryd.prog 14 #[.agg #[.slice A n cap, .int .i64 im.mem, .int .i64 im.stacks], .agg (mcells M vm vs vc vi vo).toArray, .agg #[.int .u8 tk, .int .i64 ta, .int .i64 tb]] w (LineRes w im M (Tst.holds ⟨tk, ta, tb⟩) L) := by
  obtain ⟨hck, hff⟩ : im.check.2 = 0 ∧ fitsB im M = true := by unfold ok34 at h; simpa using h
  have hFit := Fit.of hwf hff
  have hbd : MBd M := MBd.of hck hFit (K := 17592186043904) hl (by omega)
  have HVE : Hid (VEnv im M 130) := Lib.hid (VEnv.of hck hw hFit (K := 17592186043904) hl (by omega))
  have HLin := Lib.hid hLin
  obtain ⟨ib, li_b, lz_b, ls_b, lb_b⟩ := info_parts info_bool34
  obtain ⟨p, hp⟩ : ∃ p, (Tst.holds ⟨tk, ta, tb⟩) = p := ⟨_, rfl⟩
  rw [hp]
  have HPP := Lib.hid hp
  have HCK := Lib.hid hck; have HFIT := Lib.hid hFit; have HBD := Lib.hid hbd
  have hL120 : L ≤ 120 := hLin.le
  clear hLin hp hck hFit hbd h hff
  have hnn : n = im.code.length := by have := hC.1; rw [codeCells_length] at this; omega
  have HC := Lib.hid hC; have HT := Lib.hid hTab; have HL := Lib.hid hL; have HN := Lib.hid hnn
  clear hC hTab hL hnn
  go_enter Tryd.func14, Tryd.ntmps14
  go_upto_region 1 with fail
  refine wp_nameY ?_
  intro w1 hw1
  have hB_w1 : Below w.heap.size w w1 := by rw [hw1]; exact (by go_grown)
  have K_1 : Blk w1 w.heap.size 32 #[.slice A n cap, .int .i64 im.mem, .int .i64 im.stacks] := by rw [hw1]; exact (by repeat' (first | assumption | exact Blk.new' (by simp) _ _ | apply Blk.alloc | apply Blk.drew))
  have KM : Blk w1 (w.heap.size + 1) 27 (mcells M vm vs vc vi vo).toArray := by rw [hw1]; exact (by repeat' (first | assumption | exact Blk.new' (by simp) _ _ | apply Blk.alloc | apply Blk.drew))
  have KT := Lib.hid (show Blk w1 (w.heap.size + 2) 42 #[.int .u8 tk, .int .i64 ta, .int .i64 tb] by rw [hw1]; exact (by repeat' (first | assumption | exact Blk.new' (by simp) _ _ | apply Blk.alloc | apply Blk.drew)))
  have HM := Lib.hid ((HL.out.next hB_w1).at_ KM)
  have zz : w1.heap.size = w.heap.size + 3 := by rw [hw1]; simp
  clear hw1 KM
  obtain ⟨z_1, T_1, F_1⟩ := K_1.open_; have H_1 := Lib.hid K_1; clear K_1
  go_wp2_with (refine wpList_loadG 27 rfl rfl rfl (load_mach HM.out) ?_; simp only [Act.put, Bk.PU])
  refine (c_DNewOk A n cap im M vm vs vc vi vo sv w1 (Rd.upL HC.out hB_w1) hw (MLs.up HL.out hB_w1) hms (by omega) (HT.out.next hB_w1) HCK.out HFIT.out HBD.out).mono ?_
  rintro e w3 ⟨P, A', n', cap', rfl, hV, hA, hO, hfx, hR, hb3⟩
  have KT3 := Lib.hid (KT.out.next hb3)
  have z13 := hb3.size
  have HV := Lib.hid hV; have HA := Lib.hid hA; have HO := Lib.hid hO; have HFX := Lib.hid hfx; have HR := Lib.hid hR; have HB3 := Lib.hid hb3
  have HGT := Lib.hid (show 0 < w.heap.size from HT.out.lt)
  obtain ⟨pv, hpv⟩ : ∃ pv, p (tr im.code M 0) = pv := ⟨_, rfl⟩
  have HPV : Hid ((Tst.holds ⟨tk, ta, tb⟩) (tr im.code M 0) = pv) := Lib.hid (by rw [HPP.out]; exact hpv)
  have HTL : Hid (tl p im.code M 0 = [pv]) := Lib.hid (by rw [← hpv]; rfl)
  clear hV hA hO hfx hR hb3 hpv T_1 z_1 F_1 H_1
  go_upto_region 4 with fail
  refine wp_region_held_drew (S := fun W => Below w3.heap.size w3 W) (by kernel_rfl) ((Below.refl _ _).drew) (fun hH => ?_)
  refine wpAnyH_take (i := 0) (v := ?_) rfl (by kernel_rfl) (by kernel_rfl) (by kernel_rfl) (fun _ _ _ h => h) (Or.inl ⟨by rfl, ?hy⟩) hH ?_
  case hy => (intro w9_ hS9; have T9 := (KT3.out.next hS9).cell; clear hS9; go_simp; try with_reducible rfl)
  (try simp only [Bk.PU, Act.put])
  refine wpAnyH_take (i := 1) (v := ?_) rfl (by kernel_rfl) (by kernel_rfl) (by kernel_rfl) (fun _ _ _ h => h) (Or.inl ⟨by rfl, ?hy⟩) hH ?_
  case hy => (intro w9_ hS9; clear hS9; go_simp; try with_reducible rfl)
  (try simp only [Bk.PU, Act.put])
  refine wpAnyH_ready (rs := [2]) (by kernel_rfl) (by simp) ?_
  refine AllReadyH.cons rfl (fun K hK => ?_) (AllReadyH.nil)
  go_simp
  refine (c_DMachine (HV.out.next hH) HVE.out (j := 0) (by omega) (HA.out.next hH)).mono ?_
  rintro e w4 ⟨vmn, vsn, vcn, vin, von, svn, rfl, hO4, hb4⟩
  have HO4 := Lib.hid hO4
  have hb4' := hb4
  replace hH := hH.next hb4
  clear hO4 hb4
  refine hK.out _ _ hH (fun _ => ?_)
  clear hK
  (try simp only [Bk.PU, Act.put])
  refine wpAnyH_ready (rs := [3]) (by kernel_rfl) (by simp) ?_
  refine AllReadyH.cons rfl (fun K hK => ?_) (AllReadyH.nil)
  go_simp
  have hs := c_own HO4.out.mls (by have := (HVE.out.bd (0) (by omega)).ml; omega) tk htk ta tb hta
  rw [HPV.out] at hs
  have HSO := Lib.hid hs
  clear hs
  refine HSO.out.mono ?_
  rintro e w5 ⟨rfl, hb5⟩
  have hb5' := hb5
  replace hH := hH.next hb5
  clear hb5 HSO HO4
  refine hK.out _ _ hH (fun _ => ?_)
  clear hK
  (try simp only [Bk.PU, Act.put])
  refine wpAnyH_ready (rs := [4]) (by kernel_rfl) (by simp) ?_
  refine AllReadyH.cons rfl (fun K hK => ?_) (AllReadyH.nil)
  go_simp
  refine hK.out _ _ (hH.alloc hH.size _) (fun _ => ?_)
  clear hK
  (try simp only [Bk.PU, Act.put])
  refine wpAnyH_at ?_
  intro w6 hw6
  replace hw6 : w6 = w5.alloc (.cells #[.bool pv] 4) := by first | (rw [hw6]; done) | (rw [hw6]; rfl)
  replace hH : Below w3.heap.size w3 w6 := by rw [hw6]; exact hH.alloc hH.size _
  refine wpAnyH_take (i := 5) (v := ?_) rfl (by kernel_rfl) (by kernel_rfl) (by kernel_rfl) (fun _ _ _ h => h) (Or.inl ⟨by rfl, ?hy⟩) hH ?_
  case hy => (intro w9_ hS9; clear hS9; go_simp; try with_reducible rfl)
  (try simp only [Bk.PU, Act.put])
  refine wpAnyH_done (by kernel_rfl) ?_ _
  have hH5 : Below w3.heap.size w3 w5 := (((Below.refl w3.heap.size w3).drew).next hb4').next hb5'
  have b56 : Below w5.heap.size w5 w6 := by rw [hw6]; exact (Below.refl _ _).alloc (Nat.le_refl _) _
  have K6 : Blk w6 w5.heap.size 4 #[.bool pv] := by rw [hw6]; exact Blk.new _ _ _
  have z6 : w6.heap.size = w5.heap.size + 1 := by rw [hw6]; simp
  have z35 := hH5.size
  have hH6 := hH5.next b56
  have HOW6 : Hid (w6.ownsRow w3.heap.size 4 1 (.slice (some ⟨w5.heap.size, 0, none⟩) 1 1) 1 (boolCells (tl p im.code M 0))) := Lib.hid ⟨by rw [HTL.out]; rfl, .inr ⟨w5.heap.size, 1, _, rfl, z35, K6, Nat.le_refl _, by decide, by rfl, by rw [HTL.out]; rfl⟩⟩
  have HA6 : Hid (DAt w6 { P with fx := fun k => k = w5.heap.size } im.code M 0) := Lib.hid ((HA.out.next hH5).foreign b56 (fun k hk => .inr (by omega)) (fun k hk => by omega))
  have HV6 : Hid (VFx w6 { P with fx := fun k => k = w5.heap.size } A' n' cap' im) := Lib.hid ((HV.out.next hH6).pl _)
  have HR6 : Hid (Rd w6 (fun k => w1.heap.size ≤ k ∧ k < w3.heap.size ∧ ¬ P.O k) 5 A' n' (codeCells im.code)) := Lib.hid (HR.out.keep (fun b o hd => hH6.cell (p := ⟨b, o, none⟩) hd.2.1))
  have HB6 : Hid (Below w1.heap.size w1 w6) := Lib.hid (HB3.out.next hH6)
  have h36 : w3.heap.size ≤ w6.heap.size := hH6.size
  clear hw6 K6 b56 hH5 hH6 hb4' hb5'
  go_wp2_with fail
  go_loopg [10, 28] 121 (fun k v10 v28 wr => ∃ (i g cp : Nat) (fx : Nat → Prop), i + k = 121 ∧ i ≤ L ∧ v10 = .slice (some ⟨g, 0, none⟩) (i + 1) cp ∧ v28 = .int .i64 i ∧ wr.ownsRow w3.heap.size 4 1 (.slice (some ⟨g, 0, none⟩) (i + 1) cp) (i + 1) (boolCells (tl p im.code M i)) ∧ DAt wr { P with fx := fx } im.code M i ∧ VFx wr { P with fx := fx } A' n' cap' im ∧ Rd wr (fun k => w1.heap.size ≤ k ∧ k < w3.heap.size ∧ ¬ P.O k) 5 A' n' (codeCells im.code) ∧ fx g ∧ Below w1.heap.size w1 wr ∧ w3.heap.size ≤ wr.heap.size)
  case atStart => exact ⟨0, w5.heap.size, 1, _, rfl, Nat.zero_le _, rfl, rfl, HOW6.out, HA6.out, HV6.out, HR6.out, rfl, HB6.out, h36⟩
  case round =>
    obtain ⟨i, g, cp, fx, hik, hiL, rfl, rfl, how, ha, hv, hr, hfg, hbr, h3r⟩ := hrel
    obtain ⟨Y, hY⟩ : ∃ Y : Pl, Y = { P with fx := fx } := ⟨_, rfl⟩
    rw [← hY] at ha hv
    have hYb : Y.b = P.b := by rw [hY]
    have HYO : Hid (Y.O = P.O) := Lib.hid (by rw [hY]; rfl)
    have HYX : Hid (∀ f, ({ Y with fx := f } : Pl) = { P with fx := f }) := Lib.hid (fun f => by rw [hY])
    have HYF : Hid (Y.fx = fx) := Lib.hid (by rw [hY])
    have HYB := Lib.hid hYb
    rw [← hYb]
    obtain ⟨q, hq⟩ : ∃ q : Nat, q = i + 1 := ⟨_, rfl⟩
    have HOWr := Lib.hid how; have HAr := Lib.hid ha; have HVr := Lib.hid hv; have HRr := Lib.hid hr; have HFG := Lib.hid hfg; have HBr := Lib.hid hbr; have HIK := Lib.hid hik
    have hg3 : w3.heap.size ≤ g := (how.lt g rfl).1
    have hgl : g < wr.heap.size := (how.lt g rfl).2
    have q0 : q ≤ 121 := by omega
    have HZ := Lib.hid hq
    rw [← hq]
    clear how ha hv hr hfg hbr hik hY hq hYb
    by_cases h120 : i = 120
    · have h1 : ¬ (i : Int) < 120 := by omega
      have HLi : Hid (i = L) := Lib.hid (by omega)
      have HI := Lib.hid h120
      clear h120
      go_wp2_with fail
      go_ret2
      have e1 := HZ.out
      have e2 := HLi.out
      subst e2
      exact ⟨g, cp, by rw [← e1]; rfl, own_base HOWr.out (by omega), hB_w1.next HBr.out⟩
    have h1 : (i : Int) < 120 := by omega
    by_cases hiL' : i < L
    · have h0 : te im.code M i = 0 := HLin.out.ran i hiL'
      have H0 := Lib.hid h0
      have HIL := Lib.hid hiL'
      clear h0 h120
      go_wp2_with fail
      refine (c_DStepOk HVr.out HVE.out (j := i) (by omega) (by omega) HAr.out H0.out).mono ?_
      rintro e w4 ⟨rfl, ha4, hf4⟩
      rw [HYO.out] at hf4
      have z4 := hf4.size
      have HA4 := Lib.hid ha4
      have hgP : ¬ P.O g := fun ho => by have := (HO.out _ ho).2; omega
      have HV4 := Lib.hid (HVr.out.fr (by rw [HYO.out]; exact hf4))
      have HOW4 := Lib.hid (own_of_block (w' := w4) HOWr.out (fun k hk hv => by injection hv with hv; subst hv; exact hf4.block _ hk hgP))
      have HR4 := Lib.hid (Rd.frR HRr.out h3r hf4 (fun k h1 h2 h3 => h3))
      have HB4 : Hid (Below w1.heap.size w1 w4) := Lib.hid (HBr.out.trans (hf4.below (B := w1.heap.size) (by omega) (fun k hk => (HO.out k hk).1)))
      have KT4 := Lib.hid (KT.out.next HB4.out)
      have HGP := Lib.hid hgP
      obtain ⟨pv2, hpv2⟩ : ∃ pv2, p (tr im.code M (i + 1)) = pv2 := ⟨_, rfl⟩
      have HPV : Hid ((Tst.holds ⟨tk, ta, tb⟩) (tr im.code M (i + 1)) = pv2) := Lib.hid (by rw [HPP.out]; exact hpv2)
      have HTL8 : Hid (boolCells (tl p im.code M (i + 1)) = boolCells (tl p im.code M i) ++ [.bool pv2]) := Lib.hid (by rw [tl_succ, hpv2]; simp [boolCells])
      rw [← HZ.out] at HOW4
      clear ha4 hf4 hgP hpv2
      go_wp2_with fail
      refine wp_region_held_drew (S := fun W => Fr (· = g) w4 W) (by kernel_rfl) ((Fr.refl _ _).drew) (fun hH => ?_)
      refine wpAnyH_take (i := 0) (v := ?_) rfl (by kernel_rfl) (by kernel_rfl) (by kernel_rfl) (fun _ _ _ h => h) (Or.inl ⟨by rfl, ?hy⟩) hH ?_
      case hy => (intro w9_ hS9; clear hS9; go_simp; try with_reducible rfl)
      (try simp only [Bk.PU, Act.put])
      refine wpAnyH_take (i := 1) (v := ?_) rfl (by kernel_rfl) (by kernel_rfl) (by kernel_rfl) (fun _ _ _ h => h) (Or.inl ⟨by rfl, ?hy⟩) hH ?_
      case hy => (intro w9_ hS9; have T9 := (hS9.blk KT4.out (show ¬ (w.heap.size + 2 = g) by omega)).cell; clear hS9; go_simp; try with_reducible rfl)
      (try simp only [Bk.PU, Act.put])
      refine wpAnyH_take (i := 2) (v := ?_) rfl (by kernel_rfl) (by kernel_rfl) (by kernel_rfl) (fun _ _ _ h => h) (Or.inl ⟨by rfl, ?hy⟩) hH ?_
      case hy => (intro w9_ hS9; clear hS9; go_simp; try with_reducible rfl)
      (try simp only [Bk.PU, Act.put])
      refine wpAnyH_ready (rs := [3]) (by kernel_rfl) (by simp) ?_
      refine AllReadyH.cons rfl (fun K hK => ?_) (AllReadyH.nil)
      go_simp
      refine (c_DMachine (HV4.out.next ((Below.refl w4.heap.size w4).drew)) HVE.out (j := i + 1) (by omega) (HA4.out.next ((Below.refl w4.heap.size w4).drew))).mono ?_
      rintro e w5 ⟨vmn, vsn, vcn, vin, von, svn, rfl, hO5, hb5⟩
      have HO5 := Lib.hid hO5
      have hb5' := hb5
      replace hH := hH.next hb5
      clear hO5 hb5
      refine hK.out _ _ hH (fun _ => ?_)
      clear hK
      (try simp only [Bk.PU, Act.put])
      refine wpAnyH_ready (rs := [4]) (by kernel_rfl) (by simp) ?_
      refine AllReadyH.cons rfl (fun K hK => ?_) (AllReadyH.nil)
      go_simp
      have hs := c_own HO5.out.mls (by have := (HVE.out.bd (i + 1) (by omega)).ml; omega) tk htk ta tb hta
      rw [HPV.out] at hs
      have HSO := Lib.hid hs
      clear hs
      refine HSO.out.mono ?_
      rintro e w6 ⟨rfl, hb6⟩
      have hb6' := hb6
      replace hH := hH.next hb6
      clear hb6 HSO HO5
      refine hK.out _ _ hH (fun _ => ?_)
      clear hK
      (try simp only [Bk.PU, Act.put])
      refine wpAnyH_ready (rs := [5]) (by kernel_rfl) (by simp) ?_
      refine AllReadyH.cons rfl (fun K hK => ?_) (AllReadyH.nil)
      go_simp
      refine hK.out _ _ (Fr.alloc hH _) (fun _ => ?_)
      clear hK
      (try simp only [Bk.PU, Act.put])
      refine wpAnyH_at ?_
      intro w7 hw7
      replace hw7 : w7 = w6.alloc (.cells #[.bool pv2] 4) := by first | (rw [hw7]; done) | (rw [hw7]; rfl)
      have hH7 : Fr (· = g) w4 w7 := by rw [hw7]; exact Fr.alloc hH _
      have hb7 : Below w6.heap.size w6 w7 := by rw [hw7]; exact (Below.refl _ _).alloc (Nat.le_refl _) _
      have z7 : w7.heap.size = w6.heap.size + 1 := by rw [hw7]; simp
      have hb47 : Below w4.heap.size w4 w7 := ((((Below.refl w4.heap.size w4).drew).next hb5').next hb6').next hb7
      have z47 := hb47.size
      have HC7 : Hid (∀ j u, ([.bool pv2] : List Value)[j]? = some u → w7.cell? ((⟨w6.heap.size, 0, none⟩ : Addr).add j) = some u) := Lib.hid (by rw [hw7]; exact cell_one_new w6 (.bool pv2) 4)
      have HOW7 := Lib.hid (own_of_block (w' := w7) HOW4.out (fun k hk hv => hb47.block k hk))
      replace hH := hH7
      clear hw7 hb5' hb6'
      (try simp only [Bk.PU, Act.put])
      refine wpAnyH_ready (rs := [6]) (by kernel_rfl) (by simp) ?_
      refine AllReadyH.cons rfl (fun K hK => ?_) (AllReadyH.nil)
      rw [if_pos (by rfl)]
      refine wp_appendR (.tmp 33) (.tmp 38) 44 rfl w3.heap.size 4 _ _ 1 1 Tryd.underlying44 li_b lz_b ls_b lb_b rfl (by decide) (.slice (some ⟨g, 0, none⟩) q cp) q _ rfl HOW7.out ⟨w6.heap.size, 0, none⟩ 1 1 [.bool pv2] rfl rfl (fun j u hu => HC7.out j u hu) (by intro u hu; simp at hu; subst hu; rfl) (by simp [maxLen]; omega) (by omega) (by omega) ?_
      intro v10 w8 hown8 hgrow hat
      have hf78 : Fr (· = g) w7 w8 := ⟨hgrow.os, hgrow.tape, hgrow.output, hgrow.size, fun k hk ho => hgrow.block k hk (by simp [Value.ownBlock]; exact ho)⟩
      have hH8 := hH7.trans hf78
      replace hH := hH8
      refine hK.out _ _ hH8 (fun _ => ?_)
      clear hK
      (try simp only [Bk.PU, Act.put])
      refine wpAnyH_take (i := 7) (v := ?_) rfl (by kernel_rfl) (by kernel_rfl) (by kernel_rfl) (fun _ _ _ h => h) (Or.inl ⟨by rfl, ?hy⟩) hH ?_
      case hy => (intro w9_ hS9; clear hS9; go_simp; try with_reducible rfl)
      (try simp only [Bk.PU, Act.put])
      refine wpAnyH_done (by kernel_rfl) ?_ _
      obtain ⟨g', cap', rfl, hg'3, hg'l, -, -, -⟩ := own_some hown8 (by omega)
      have hg8 : g' = g ∨ g' = w7.heap.size := by
        rcases hat with h | h <;> (simp [Value.ownBlock] at h; omega)
      have z78 := hf78.size
      have hgY : ¬ Y.O g := by rw [HYO.out]; exact HGP.out
      have hA8 := DAt.otherF (HA4.out.next hb47) hf78 (fun h => hgY (.inl h.symm)) (fun h => hgY (.inr (.inl h.symm))) (fun h => hgY (.inr (.inr h.symm))) (fun k hk => by rw [HYF.out]; exact hk ▸ HFG.out) (fx := fun k => k = g') (fun k hk => hg8.elim (fun e => .inl (by rw [HYF.out, hk, e]; exact HFG.out)) (fun e => .inr (by omega))) (fun k hk => by omega)
      rw [HYX.out] at hA8
      have hR7 : Rd w7 (fun k => w1.heap.size ≤ k ∧ k < w3.heap.size ∧ ¬ P.O k) 5 A' n' (codeCells im.code) := HR4.out.keep (fun b o hd => hb47.cell (p := ⟨b, o, none⟩) (by have := hd.2.1; show b < w4.heap.size; omega))
      have hV8 := (VFx.other (HV4.out.next hb47) (lo := w1.heap.size) (hi := w3.heap.size) (by rw [HYO.out]; exact hR7) (by omega) hf78 (fun k h1 h2 h => by omega) (fun h => by have := HGT.out; omega)).pl (fun k => k = g')
      rw [HYX.out] at hV8
      have hR8 := Rd.frR hR7 (by omega) hf78 (fun k h1 h2 h3 h => by omega)
      have hB8 : Below w1.heap.size w1 w8 := (HB4.out.next hb47).trans (hf78.below (B := w1.heap.size) (by omega) (fun k hk => by omega))
      rw [← HTL8.out] at hown8
      have hq1 : q + 1 = i + 1 + 1 := by have := HZ.out; omega
      rw [hq1] at hown8
      rw [hq1]
      have HA8 := Lib.hid hA8; have HV8 := Lib.hid hV8; have HR8 := Lib.hid hR8; have HB8 := Lib.hid hB8; have HOWN8 := Lib.hid hown8
      have h38 : w3.heap.size ≤ w8.heap.size := by omega
      clear hA8 hV8 hR8 hB8 hown8 hq1 hR7 hgY hg8 hat hgrow hf78 hb47 hb7
      rw [HYB.out]
      go_wp2_with fail
      go_roundg (120 - i)
      case measure => have := HIK.out; omega
      case rel => exact ⟨i + 1, g', cap', _, by have := HIK.out; omega, HIL.out, rfl, by go_num, HOWN8.out, HA8.out, HV8.out, HR8.out, rfl, HB8.out, h38⟩
    · have hiL2 : i = L := by omega
      have h4 : te im.code M i ≠ 0 := by rw [hiL2]; exact HLin.out.stop.resolve_left (by omega)
      obtain ⟨ee, hee⟩ : ∃ ee, te im.code M i = ee := ⟨_, rfl⟩
      have hne : (ee != 0) = true := by rw [← hee]; simpa using h4
      have hs := c_DStepErr HVr.out HVE.out (j := i) (by omega) HAr.out h4
      rw [hee] at hs
      have HS := Lib.hid hs
      have HLi := Lib.hid hiL2
      clear h4 hee hs hiL2 h120
      go_wp2_with fail
      refine HS.out.mono ?_
      rintro e w4 ⟨rfl, ha4, hf4⟩
      rw [HYO.out] at hf4
      have hgP : ¬ P.O g := fun ho => by have := (HO.out _ ho).2; omega
      have HOW4 := Lib.hid (own_of_block (w' := w4) HOWr.out (fun k hk hv => by injection hv with hv; subst hv; exact hf4.block _ hk hgP))
      have HB4 : Hid (Below w1.heap.size w1 w4) := Lib.hid (HBr.out.trans (hf4.below (B := w1.heap.size) (by omega) (fun k hk => (HO.out k hk).1)))
      clear ha4 hf4 HS hgP
      go_wp2_with fail
      go_ret2
      have e1 := HZ.out
      have e2 := HLi.out
      subst e2
      exact ⟨g, cp, by rw [← e1]; rfl, own_base HOW4.out (by omega), hB_w1.next HB4.out⟩
end Go.Proofs.YteenmpjjaheggaaDoor

/- backsteplaw34.at; the searches of the reference. -/
set_option maxRecDepth 100000
set_option linter.unusedVariables false
set_option linter.unusedSimpArgs false
namespace Go.Proofs.YteenmpjjaheggaaDoor
open Go.RowKit Bk
/-- A debugger stands at a time. -/
def AtRes (w : World) (im : Img) (M : Mach) (now : Nat) (e : Ending) (w' : World) : Prop :=
  ∃ P A n cap, e = .returned (.tuple #[.pointer (some ⟨P.b, 0, none⟩), .int .i64 (now : Int), .bool true]) ∧ VFx w' P A n cap im ∧ DAt w' P im.code M now ∧ (∀ k, P.O k → w.heap.size ≤ k ∧ k < w'.heap.size) ∧ Below w.heap.size w w'
def optZ : Option Nat → Int
  | none => -1
  | some t => t
end Go.Proofs.YteenmpjjaheggaaDoor

/- backsteplaw34.awake. -/
set_option maxRecDepth 100000
set_option maxHeartbeats 8000000
set_option maxRecDepth 100000
set_option linter.unusedVariables false
set_option linter.unusedSimpArgs false
namespace Bk
def awC34 : Prg := [⟨4, 1, 1, 0, 0⟩, ⟨10, 1, 0, 0, 0⟩, ⟨10, 1, 0, 0, 0⟩, ⟨5, 1, 1, 0, 0⟩, ⟨34, 0, 0, 0, 0⟩]
def awI34 : Img := ⟨awC34, 1, 1⟩
def awM34 : Mach := newM 1 1 []
theorem aw34_check : awI34.check.2 = 0 := by decide +kernel
theorem aw34_wf : MWf awM34 := by
  have key : ∀ M : Mach, (decide (M.r.length = 16) && M.r.all (fun x => decide (-9223372036854775808 ≤ x ∧ x ≤ 9223372036854775807)) && M.m.all (fun x => decide (-9223372036854775808 ≤ x ∧ x ≤ 9223372036854775807)) && decide (M.s = [[]]) && decide (M.inp = []) && decide (M.out = [])) = true → MWf M := by
    intro M h
    simp only [Bool.and_eq_true, decide_eq_true_eq, List.all_eq_true] at h
    obtain ⟨⟨⟨⟨⟨h1, h2⟩, h3⟩, h4⟩, h5⟩, h6⟩ := h
    exact ⟨h1, h2, h3, by rw [h4]; intro l hl; simp at hl; subst hl; simp, by rw [h5]; simp, by rw [h6]; simp⟩
  exact key _ (by decide +kernel)
theorem aw34_fits : fitsB awI34 awM34 = true := by decide +kernel
theorem aw34_codeWf : CodeWf awC34 := by
  intro k hk
  match k, hk with
  | 0, _ => exact ⟨by decide, by decide, by decide, by decide, by decide, by decide, by decide, by decide, by decide, by decide⟩
  | 1, _ => exact ⟨by decide, by decide, by decide, by decide, by decide, by decide, by decide, by decide, by decide, by decide⟩
  | 2, _ => exact ⟨by decide, by decide, by decide, by decide, by decide, by decide, by decide, by decide, by decide, by decide⟩
  | 3, _ => exact ⟨by decide, by decide, by decide, by decide, by decide, by decide, by decide, by decide, by decide, by decide⟩
  | 4, _ => exact ⟨by decide, by decide, by decide, by decide, by decide, by decide, by decide, by decide, by decide, by decide⟩
theorem aw34_env : VEnv awI34 awM34 20 := VEnv.of aw34_check aw34_codeWf (Fit.of aw34_wf aw34_fits) (K := 0) (fun l hl => by simp [awM34, newM] at hl; simp [hl]) (by omega)
theorem aw34_next : findF awC34 awM34 (fun M => decide ((0 : Int) ≤ 0) && decide ((0 : Int) < (M.m.length : Int)) && (M.m.getD (0 : Int).toNat 0 != 0)) (9 : Int).toNat 0 = some 2 := by decide +kernel
theorem aw34_p3 : findB awC34 awM34 (fun M => decide (M.pc = 3)) (9 : Int).toNat 2 = none := by decide +kernel
theorem aw34_p0 : findB awC34 awM34 (fun M => decide (M.pc = 0)) (9 : Int).toNat 2 = some 0 := by decide +kernel
end Bk
namespace Go.Proofs.YteenmpjjaheggaaDoor
open Go.RowKit Bk
theorem c_awake34 (w : World) (hTab : TableAt w) :
    Calls Tryd.prog 12 #[] w fun e w' => e = .returned (.bool true) ∧ Below w.heap.size w w' := by
  have HT := Lib.hid hTab; clear hTab
  go_enter Tryd.func12, Tryd.ntmps12
  go_wp2_with fail
  refine calls_nameY ?_
  intro w1 hw1
  have hB_w1 : Below w.heap.size w w1 := by rw [hw1]; exact (by go_grown)
  have K_0 : Blk w1 w.heap.size 68 (codeCells awC34).toArray := by rw [hw1]; exact (by repeat' (first | assumption | exact Blk.new' (by simp) _ _ | apply Blk.alloc | apply Blk.drew))
  have K_1 : Blk w1 (w.heap.size + 1) 32 #[.slice (some ⟨w.heap.size, 0, none⟩) 5 5, .int .i64 1, .int .i64 1] := by rw [hw1]; exact (by repeat' (first | assumption | exact Blk.new' (by simp) _ _ | apply Blk.alloc | apply Blk.drew))
  clear hw1
  have HR0 := Lib.hid (Rd.blk_ (cs := (codeCells awC34).toArray) (n := 5) (size := 5) (D := (· < w1.heap.size)) K_0 K_0.lt rfl)
  obtain ⟨z_1, T_1, F_1⟩ := K_1.open_; have H_1 := Lib.hid K_1; clear K_1 K_0
  refine (c_NewI (im := awI34) aw34_check HR0.out aw34_codeWf (HT.out.next hB_w1) (l := []) Sl.nil (D := fun _ => False) (fun k hk => hk.elim) (by simp)).mono ?_
  rintro e w2 ⟨vm, vs, vi, sv, rfl, hO, hb2⟩
  have hB_w2 := hB_w1.next hb2
  have hb2' := hb2
  have HR2 := Lib.hid (Rd.upL HR0.out hb2)
  have K_1 := H_1.out.next hb2; (try clear H_1); (try clear T_1); (try clear z_1); (try clear F_1); obtain ⟨z_1, T_1, F_1⟩ := K_1.open_; have H_1 := Lib.hid K_1; clear K_1
  have HO := Lib.hid hO
  have HMl := Lib.hid hO.mls
  obtain ⟨Am, cm, rfl, _⟩ := HMl.out.m; obtain ⟨Av, cv, rfl, _⟩ := HMl.out.s; obtain ⟨Ai, ci, rfl, _⟩ := HMl.out.l.2.2.1
  have HL := Lib.hid (mc_len (newM awI34.mem.toNat awI34.stacks.toNat []) (.slice Am (newM awI34.mem.toNat awI34.stacks.toNat []).m.length cm) (.slice Av (newM awI34.mem.toNat awI34.stacks.toNat []).s.length cv) (.slice none 0 0) (.slice Ai (newM awI34.mem.toNat awI34.stacks.toNat []).inp.length ci) (.slice none 0 0) hO.1)
  clear hO hb2
  go_upto_region 3 with (refine wpList_store_row rfl 27 (.tmp 2) (.tmp 17) rfl w2.heap.size _ rfl rfl 27 #[.int .i64 0, .int .i64 0, .int .i64 0, .int .i64 0, .int .i64 0, .int .i64 0, .int .i64 0, .int .i64 0, .int .i64 0, .int .i64 0, .int .i64 0, .int .i64 0, .int .i64 0, .int .i64 0, .int .i64 0, .int .i64 0, .int .i64 0, .int .i64 0, .slice none 0 0, .slice none 0 0, .slice none 0 0, .int .i64 0, .int .i64 0, .slice none 0 0, .slice none 0 0] (heap_alloc_new w2 _) (by rw [info_mach25]; simp [HL.out]) (by simp [HL.out]) (all_oneCell_toArray (mc_one rfl rfl rfl rfl rfl)) ?_; simp only [Act.put, Bk.PU])
  refine wp_nameY ?_
  intro w3 hw3
  rw [World.setRow_alloc_new] at hw3
  have hb3 : Below w2.heap.size w2 w3 := by rw [hw3]; exact (by go_grown)
  have KM : Blk w3 w2.heap.size 27 (mcells (newM awI34.mem.toNat awI34.stacks.toNat []) (.slice Am (newM awI34.mem.toNat awI34.stacks.toNat []).m.length cm) (.slice Av (newM awI34.mem.toNat awI34.stacks.toNat []).s.length cv) (.slice none 0 0) (.slice Ai (newM awI34.mem.toNat awI34.stacks.toNat []).inp.length ci) (.slice none 0 0)).toArray := by rw [hw3]; exact Blk.new _ _ _
  have hB_w3 := hB_w2.next hb3
  have hb3' := hb3
  have hL3 : MLs w3 (· < w3.heap.size) awM34 (.slice Am (newM awI34.mem.toNat awI34.stacks.toNat []).m.length cm) (.slice Av (newM awI34.mem.toNat awI34.stacks.toNat []).s.length cv) (.slice none 0 0) (.slice Ai (newM awI34.mem.toNat awI34.stacks.toNat []).inp.length ci) (.slice none 0 0) sv := HMl.out.keep (fun b o hd => hb3.cell (p := ⟨b, o, none⟩) hd.2) (fun k hk => Nat.lt_of_lt_of_le hk.2 hb3.size) fun _ h => h
  have HR3 := Lib.hid (Rd.upL HR2.out hb3)
  have HM3 := Lib.hid ((MLs.at_ hL3 KM))
  have HL3 := Lib.hid hL3
  have HIM := Lib.hid (H_1.out.next hb3)
  clear hw3 KM hb3 hL3 HR2 HMl HO HL T_1 z_1 F_1 H_1
  obtain ⟨z_1, T_1, F_1⟩ := HIM.out.open_
  go_wp2_with (refine wpList_loadG 27 rfl rfl rfl (load_mach HM3.out) ?_; simp only [Act.put, Bk.PU])
  refine (show Calls Tryd.prog 15 #[_, _] w3 _ from c_DNewOk (some ⟨w.heap.size, 0, none⟩) 5 5 awI34 awM34 _ _ _ _ _ sv w3 HR3.out aw34_codeWf HL3.out (by decide) (by decide) (HT.out.next hB_w3) aw34_check aw34_env.ft (aw34_env.bd 0 (by omega))).mono ?_
  rintro e w4 ⟨P, A', n', cap', rfl, hV, hA, hO, hfx, -, hb4⟩
  have hB_w4 := hB_w3.next hb4
  have HV := Lib.hid hV; have HA := Lib.hid hA; have HO := Lib.hid hO
  have BEL : Hid (∀ wz, Fr (fun k => w3.heap.size ≤ k) w4 wz → Below w.heap.size w wz) := Lib.hid fun wz hf => hB_w4.trans (hf.below (B := w.heap.size) (by have := hB_w4.size; omega) (fun k hk => by have := hB_w3.size; omega))
  have HOB : Hid (∀ k, P.O k → w3.heap.size ≤ k) := Lib.hid fun k h => (HO.out k h).1
  have h9 : I64 9 := by unfold I64; omega
  clear hb2' hb3' hV hA hO hfx hb4 HIM T_1 z_1 F_1 HM3 HL3 HR3
  go_wp2_with fail
  refine (show Calls Tryd.prog 40 #[.int .i64 0, .int .i64 0] w4 _ from c_Changed w4 0 0).mono ?_
  rintro e w5 ⟨rfl, hl5, hc5, hd5, hb5⟩
  have HV5 := Lib.hid (HV.out.next hb5); have HA5 := Lib.hid (HA.out.next hb5)
  have HF5 := Lib.hid ((Fr.refl (fun k => w3.heap.size ≤ k) w4).next hb5)
  have hs := c_Next HV5.out aw34_env (j := 0) (by omega) (by omega) (enters_of Tryd.func59 (by kernel_rfl) rfl) (pred_Changed hc5 hd5) (fun b hb => by
    have hP : ∀ k, P.O k → k < w4.heap.size := fun k hk => (HO.out k hk).2
    rcases hb with rfl | rfl
    · exact ⟨by omega, fun h => by have := hP _ h; omega⟩
    · exact ⟨by omega, fun h => by have := hP _ h; omega⟩) 9 h9 (by decide) (by omega) HA5.out
  rw [show findF awI34.code awM34 _ (9 : Int).toNat 0 = some 2 from aw34_next] at hs
  have HS := Lib.hid hs
  have z45 := hb5.size
  clear hl5 hc5 hd5 hb5 hs
  go_wp2_with fail
  refine HS.out.mono ?_
  rintro e w6 ⟨rfl, hA6, hf6⟩
  have HV6 := Lib.hid (HV5.out.fr hf6); have HA6 : Hid (DAt w6 P awI34.code awM34 2) := Lib.hid hA6
  have HF6 := Lib.hid (HF5.out.trans (hf6.mono HOB.out))
  have z56 := hf6.size
  clear hA6 hf6 HS
  go_wp2_with fail
  refine (c_DTime HV6.out HA6.out).mono ?_
  rintro e w7 ⟨rfl, hb7⟩
  have HV7 := Lib.hid (HV6.out.next hb7); have HA7 := Lib.hid (HA6.out.next hb7); have HF7 := Lib.hid (HF6.out.next hb7)
  have z67 := hb7.size
  clear hb7
  go_wp2_with fail
  refine (show Calls Tryd.prog 41 #[.int .i64 3] w7 _ from c_AtPC w7 3).mono ?_
  rintro e w8 ⟨rfl, hl, hc, hb⟩
  have HVb := Lib.hid (HV7.out.next hb); have HAb := Lib.hid (HA7.out.next hb); have HFb := Lib.hid (HF7.out.next hb)
  have hs := c_Prev HVb.out aw34_env (j := 2) (by omega) (by omega) (enters_of Tryd.func60 (by kernel_rfl) rfl) (pred_AtPC hl hc) (fun b hb => by
    subst hb
    exact ⟨hl, fun h => by have := (HO.out _ h).2; omega⟩) 9 h9 (by omega) HAb.out
  rw [show findB awI34.code awM34 _ (9 : Int).toNat 2 = none from aw34_p3] at hs
  have HS := Lib.hid hs
  have zb := hb.size
  clear hl hc hb hs
  go_wp2_with fail
  refine HS.out.mono ?_
  rintro e w9 ⟨rfl, hA', hf'⟩
  have HV9 := Lib.hid (HVb.out.fr hf'); have HA9 : Hid (DAt w9 P awI34.code awM34 2) := Lib.hid hA'
  have HF9 := Lib.hid (HFb.out.trans (hf'.mono HOB.out))
  have z9 := hf'.size
  clear hA' hf' HS HVb HAb HFb
  go_wp2_with fail
  refine (show Calls Tryd.prog 41 #[.int .i64 0] w9 _ from c_AtPC w9 0).mono ?_
  rintro e w10 ⟨rfl, hl, hc, hb⟩
  have HVb := Lib.hid (HV9.out.next hb); have HAb := Lib.hid (HA9.out.next hb); have HFb := Lib.hid (HF9.out.next hb)
  have hs := c_Prev HVb.out aw34_env (j := 2) (by omega) (by omega) (enters_of Tryd.func60 (by kernel_rfl) rfl) (pred_AtPC hl hc) (fun b hb => by
    subst hb
    exact ⟨hl, fun h => by have := (HO.out _ h).2; omega⟩) 9 h9 (by omega) HAb.out
  rw [show findB awI34.code awM34 _ (9 : Int).toNat 2 = some 0 from aw34_p0] at hs
  have HS := Lib.hid hs
  have zb := hb.size
  clear hl hc hb hs
  go_wp2_with fail
  refine HS.out.mono ?_
  rintro e w11 ⟨rfl, hA', hf'⟩
  have HV11 := Lib.hid (HVb.out.fr hf'); have HA11 : Hid (DAt w11 P awI34.code awM34 0) := Lib.hid hA'
  have HF11 := Lib.hid (HFb.out.trans (hf'.mono HOB.out))
  have z11 := hf'.size
  clear hA' hf' HS HVb HAb HFb
  go_wp2_with fail
  refine (c_DTime HV11.out HA11.out).mono ?_
  rintro e w12 ⟨rfl, hb12⟩
  have HF12 := Lib.hid (HF11.out.next hb12)
  clear hb12
  go_wp2_with fail
  go_ret
  exact ⟨rfl, BEL.out _ HF12.out⟩
end Go.Proofs.YteenmpjjaheggaaDoor
