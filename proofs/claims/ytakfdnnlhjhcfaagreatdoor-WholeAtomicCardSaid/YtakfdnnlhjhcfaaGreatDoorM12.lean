/- WhR WhS WhT. -/
import Derived.Test.YtakfdnnlhjhcfaaGreatDoorM11
import Derived.Test.YtakfdnnlhjhcfaaGreatDoorZWhK
set_option linter.unusedVariables false
set_option linter.unusedSimpArgs false
set_option linter.unusedSimpArgs false
set_option maxRecDepth 100000
set_option maxHeartbeats 4000000
namespace Go.Proofs.YtakfdnnlhjhcfaaGreatDoor
open Go.RowKit Bk
def FailE (x : Int) : Ending := .panicked [{ v := .iface 131 (.agg #[.int .i64 x]), recovered := false }]
theorem c_Fail (x : Int) (hx : x ≠ 0) (w : World) : Calls Tryz.prog 129 #[.int .i64 x] w fun e w' => e = FailE x ∧ w' = w := by
  have h0 : (x == 0) = false := by simpa using hx
  unfold FailE
  go_enter Tryz.func129, Tryz.ntmps129
  go_wp2_with fail
  exact ⟨rfl, rfl, rfl⟩
structure Rn where
  V : Value
  Q : Value
  m : Nd
  st : Nat
  ent : Value
  X : Nat → Prop
def Rn.cells (R : Rn) (steps fuel : Int) : Array Value := #[R.V, R.Q, .int .u8 R.m.k, .int .i64 R.m.num, .string R.m.nm, .slice R.m.A R.m.n R.m.cap, .pointer (some ⟨R.st, 0, none⟩), .int .i64 steps, .int .i64 fuel, R.ent]
theorem c_check0 (p : Value) (w : World) : Calls Tryz.prog 104 #[p, .int .i64 0] w fun e w' => e = .returned (.tuple #[]) ∧ w' = w := by
  go_enter Tryz.func104, Tryz.ntmps104
  go_wp2_with fail
  refine bodyPost_end (results_none rfl _ _ _) rfl ?_
  exact ⟨rfl, rfl⟩
theorem c_checkF (p : Value) (x : Int) (hx : x ≠ 0) (w : World) : Calls Tryz.prog 104 #[p, .int .i64 x] w fun e w' => e = FailE x ∧ w' = w := by
  have h0 : (x != 0) = true := by simpa using hx
  have HF := Lib.hid (c_Fail x hx w)
  unfold FailE at *
  go_enter Tryz.func104, Tryz.ntmps104
  go_wp2_with fail
  refine HF.out.mono ?_
  rintro e w1 ⟨rfl, rfl⟩
  go_wp2_with fail
  exact ⟨rfl, rfl, rfl⟩
theorem c_step {w : World} {r : Nat} {R : Rn} {s f : Int} (h : Blk w r 86 (R.cells s f)) (hs : s < f) (h0 : 0 ≤ s) (hf : f ≤ 17592186043904) : Calls Tryz.prog 103 #[.pointer (some ⟨r, 0, none⟩)] w fun e w' => e = .returned (.tuple #[]) ∧ Blk w' r 86 (R.cells (s + 1) f) ∧ Fr (fun k => k = r) w w' := by
  have HK := Lib.hid h
  obtain ⟨z_, T_, F_⟩ := h.open_
  unfold Rn.cells at *
  have hge : decide (f ≤ s) = false := by simp; omega
  go_enter Tryz.func103, Tryz.ntmps103
  go_wp2_with fail
  go_region
  go_wp2_with fail
  refine bodyPost_end (results_none rfl _ _ _) rfl ?_
  refine ⟨rfl, ?_, ((Fr.refl _ _).set (by rfl) _).drew⟩
  simpa using (HK.out.set_ 7 (.int .i64 (s + 1))).drew
theorem c_stepF {w : World} {r : Nat} {R : Rn} {s f : Int} (h : Blk w r 86 (R.cells s f)) (hs : f ≤ s) : Calls Tryz.prog 103 #[.pointer (some ⟨r, 0, none⟩)] w fun e w' => e = FailE 18 ∧ Below w.heap.size w w' := by
  have HF := Lib.hid (fun w => c_Fail 18 (by decide) w)
  obtain ⟨z_, T_, F_⟩ := h.open_
  unfold Rn.cells at *
  unfold FailE at *
  have hge : decide (f ≤ s) = true := by simp; omega
  go_enter Tryz.func103, Tryz.ntmps103
  go_wp2_with fail
  go_region
  go_wp2_with fail
  refine (HF.out _).mono ?_
  rintro e w1 ⟨rfl, rfl⟩
  go_wp2_with fail
  exact ⟨rfl, rfl, by go_grown⟩
end Go.Proofs.YtakfdnnlhjhcfaaGreatDoor
namespace Bk
open Go Go.RowKit
inductive Role where
  | none | store | tape | tin | tout | calls
  | cell (i : Nat) | items (i : Nat) | vars (d : Nat) | refs (d : Nat)
deriving DecidableEq
structure Sv where
  st : Nat
  tb : Nat
  bv : Value
  bc : Value
  cv : Value
  vi : Value
  vo : Value
  fv : List (Value × Value)
  cb : Nat → Nat
  iv : Nat → Value
  ro : Nat → Role
def Sv.has (S : Sv) (v : Value) (r : Role) : Prop := ∀ k, v.ownBlock = some k → S.ro k = r
def Sv.ptrs (S : Sv) (l : List Nat) : List Value := l.map fun i => .pointer (some ⟨S.cb i, 0, none⟩)
def frRow : List (Value × Value) → List PFr → List Value
  | x :: xs, f :: fs => x.1 :: x.2 :: .int .i64 f.locals :: frRow xs fs
  | _, _ => []
theorem frRow_get : ∀ {xs : List (Value × Value)} {fs : List PFr} {i : Nat} {x : Value × Value} {f : PFr}, xs[i]? = some x → fs[i]? = some f → (frRow xs fs)[i * 3]? = some x.1 ∧ (frRow xs fs)[i * 3 + 1]? = some x.2 ∧ (frRow xs fs)[i * 3 + 2]? = some (.int .i64 f.locals)
  | [], _, i, _, _, h, _ => by simp at h
  | _ :: _, [], i, _, _, _, h => by simp at h
  | y :: xs, g :: fs, 0, x, f, h1, h2 => by simp at h1 h2; subst h1; subst h2; exact ⟨rfl, rfl, rfl⟩
  | y :: xs, g :: fs, i + 1, x, f, h1, h2 => by
    have := frRow_get (xs := xs) (fs := fs) (i := i) (by simpa using h1) (by simpa using h2)
    rw [show (i + 1) * 3 = i * 3 + 1 + 1 + 1 by omega]
    simpa [frRow] using this
def Sv.Ext (S S' : Sv) (w : World) : Prop := S'.st = S.st ∧ ∀ k, k < w.heap.size → S'.ro k = S.ro k
def Sv.O (S : Sv) : Nat → Prop := fun k => S.ro k ≠ .none
theorem Sv.Ext.refl (S : Sv) (w : World) : S.Ext S w := ⟨rfl, fun _ _ => rfl⟩
theorem Sv.Ext.trans {S S' S'' : Sv} {w w' : World} (h : S.Ext S' w) (h' : S'.Ext S'' w') (hs : w.heap.size ≤ w'.heap.size) : S.Ext S'' w :=
  ⟨h'.1.trans h.1, fun k hk => (h'.2 k (Nat.lt_of_lt_of_le hk hs)).trans (h.2 k hk)⟩
theorem Sv.Ext.fr {S S' : Sv} {w w' w'' : World} (h : S.Ext S' w) (h1 : Fr S.O w w') (h2 : Fr S'.O w' w'') : Fr S.O w w'' :=
  ⟨h2.os.trans h1.os, h2.tape.trans h1.tape, h2.output.trans h1.output, Nat.le_trans h1.size h2.size, fun k hk ho => (h2.block k (Nat.lt_of_lt_of_le hk h1.size) (fun hn => ho (by unfold Sv.O at *; rwa [h.2 k hk] at hn))).trans (h1.block k hk ho)⟩
theorem Sv.has_ext {S S' : Sv} {w : World} {v : Value} {r : Role} (h : S.has v r) (hl : ∀ k, v.ownBlock = some k → k < w.heap.size) (hr : ∀ k, k < w.heap.size → S'.ro k = S.ro k) : S'.has v r := fun k hk => (hr k (hl k hk)).trans (h k hk)
end Bk
namespace Go.Proofs.YtakfdnnlhjhcfaaGreatDoor
open Go.RowKit Bk
structure FrAt (w : World) (B : Nat) (S : Sv) (d : Nat) (v c : Value) (f : PFr) : Prop where
  vars : w.ownsRow B 72 3 v f.vars.length (varCells f.vars)
  refs : w.ownsRow B 125 1 c f.idx.length (S.ptrs f.idx)
  rv : S.has v (.vars d)
  rc : S.has c (.refs d)
structure CellAt (w : World) (B : Nat) (S : Sv) (i : Nat) (l : List Int) : Prop where
  blk : Blk w (S.cb i) 127 #[S.iv i]
  own : w.ownsRow B 3 1 (S.iv i) l.length (intCells l)
  rb : S.ro (S.cb i) = .cell i
  ri : S.has (S.iv i) (.items i)
structure SOn (w : World) (B : Nat) (S : Sv) (σ : PSt) : Prop where
  top : Blk w S.st 123 #[S.bv, S.bc, .int .i64 σ.base.locals, S.cv, .pointer (some ⟨S.tb, 0, none⟩)]
  base : FrAt w B S 0 S.bv S.bc σ.base
  calls : w.ownsRow B 120 3 S.cv σ.calls.length (frRow S.fv σ.calls)
  flen : S.fv.length = σ.calls.length
  frames : ∀ (i : Nat) (x : Value × Value) (f : PFr), S.fv[i]? = some x → σ.calls[i]? = some f → FrAt w B S (i + 1) x.1 x.2 f
  tape : Blk w S.tb 156 #[S.vi, S.vo]
  inp : w.ownsRow B 3 1 S.vi σ.inp.length (intCells σ.inp)
  out : w.ownsRow B 3 1 S.vo σ.out.length (intCells σ.out)
  cells : ∀ (i : Nat) (l : List Int), σ.cells[i]? = some l → CellAt w B S i l
  rst : S.ro S.st = .store
  rtb : S.ro S.tb = .tape
  rcv : S.has S.cv .calls
  rvi : S.has S.vi .tin
  rvo : S.has S.vo .tout
  new : ∀ k, S.ro k ≠ .none → B ≤ k ∧ k < w.heap.size
theorem own_fr {O : Nat → Prop} {w w' : World} {base : Nat} {e : TypeId} {size n : Nat} {v : Value} {xs : List Value} (h : w.ownsRow base e size v n xs) (hf : Fr O w w') (ho : ∀ k, v.ownBlock = some k → ¬ O k) : w'.ownsRow base e size v n xs :=
  own_of_block h fun g hg hv => hf.block g hg (ho g hv)
theorem own_lt' {w : World} {base : Nat} {e : TypeId} {size n : Nat} {v : Value} {xs : List Value} (h : w.ownsRow base e size v n xs) {k : Nat} (hk : v.ownBlock = some k) : k < w.heap.size := (own_gE h hk).2
theorem FrAt.keep {O : Nat → Prop} {w w' : World} {B : Nat} {S S' : Sv} {d : Nat} {v c : Value} {f : PFr} (h : FrAt w B S d v c f) (hf : Fr O w w') (ho : ∀ k, k < w.heap.size → S.ro k = .vars d ∨ S.ro k = .refs d → ¬ O k) (hr : ∀ k, k < w.heap.size → S'.ro k = S.ro k) (hc : ∀ i, i ∈ f.idx → S'.cb i = S.cb i) : FrAt w' B S' d v c f := by
  refine ⟨own_fr h.vars hf fun k hk => ho k (own_lt' h.vars hk) (.inl (h.rv k hk)), ?_, fun k hk => (hr k (own_lt' h.vars hk)).trans (h.rv k hk), fun k hk => (hr k (own_lt' h.refs hk)).trans (h.rc k hk)⟩
  have he : S'.ptrs f.idx = S.ptrs f.idx := by unfold Sv.ptrs; exact List.map_congr_left fun i hi => by rw [hc i hi]
  rw [he]
  exact own_fr h.refs hf fun k hk => ho k (own_lt' h.refs hk) (.inr (h.rc k hk))
theorem CellAt.keep {O : Nat → Prop} {w w' : World} {B : Nat} {S S' : Sv} {i : Nat} {l : List Int} (h : CellAt w B S i l) (hf : Fr O w w') (ho : ∀ k, k < w.heap.size → S.ro k = .cell i ∨ S.ro k = .items i → ¬ O k) (hr : ∀ k, k < w.heap.size → S'.ro k = S.ro k) (hc : S'.cb i = S.cb i) (hi : S'.iv i = S.iv i) : CellAt w' B S' i l := by
  have hlt := h.blk.lt
  refine ⟨by rw [hc, hi]; exact hf.blk h.blk (ho _ hlt (.inl h.rb)), by rw [hi]; exact own_fr h.own hf fun k hk => ho k (own_lt' h.own hk) (.inr (h.ri k hk)), by rw [hc, hr _ hlt]; exact h.rb, ?_⟩
  rw [hi]
  exact fun k hk => (hr k (own_lt' h.own hk)).trans (h.ri k hk)
section
variable {w w' : World} {B : Nat} {S : Sv} {σ : PSt}
theorem SOn.lt_st (h : SOn w B S σ) : S.st < w.heap.size := h.top.lt
theorem SOn.other (h : SOn w B S σ) {O : Nat → Prop} (hf : Fr O w w') (hO : ∀ k, k < w.heap.size → O k → S.ro k = .none) : SOn w' B S σ := by
  have nO : ∀ k r, k < w.heap.size → S.ro k = r → r ≠ .none → ¬ O k := fun k r hk hr hn ho => hn (by rw [← hr]; exact hO k hk ho)
  refine ⟨hf.blk h.top (nO _ _ h.top.lt h.rst (by simp)), h.base.keep hf (fun k hk hr ho => ?_) (fun _ _ => rfl) (fun _ _ => rfl), own_fr h.calls hf fun k hk => nO k _ (own_lt' h.calls hk) (h.rcv k hk) (by simp), h.flen,
    fun i x f h1 h2 => (h.frames i x f h1 h2).keep hf (fun k hk hr ho => ?_) (fun _ _ => rfl) (fun _ _ => rfl), hf.blk h.tape (nO _ _ h.tape.lt h.rtb (by simp)),
    own_fr h.inp hf fun k hk => nO k _ (own_lt' h.inp hk) (h.rvi k hk) (by simp), own_fr h.out hf fun k hk => nO k _ (own_lt' h.out hk) (h.rvo k hk) (by simp),
    fun i l hl => (h.cells i l hl).keep hf (fun k hk hr ho => ?_) (fun _ _ => rfl) rfl rfl, h.rst, h.rtb, h.rcv, h.rvi, h.rvo, fun k hk => ⟨(h.new k hk).1, Nat.lt_of_lt_of_le (h.new k hk).2 hf.size⟩⟩
  · rcases hr with hr | hr <;> exact nO k _ hk hr (by simp) ho
  · rcases hr with hr | hr <;> exact nO k _ hk hr (by simp) ho
  · rcases hr with hr | hr <;> exact nO k _ hk hr (by simp) ho
theorem SOn.next (h : SOn w B S σ) (hb : Below w.heap.size w w') : SOn w' B S σ := h.other (O := fun _ => False) (Fr.of hb |>.mono (fun _ h => h)) (fun _ _ h => h.elim)
theorem SOn.cellTo (h : SOn w B S σ) {i : Nat} {l l' : List Int} (hi : σ.cells[i]? = some l) (hf : Fr (fun k => S.ro k = .cell i ∨ S.ro k = .items i) w w') {v' : Value} (hb : Blk w' (S.cb i) 127 #[v']) (ho : w'.ownsRow B 3 1 v' l'.length (intCells l')) (hv : ∀ k, v'.ownBlock = some k → S.ro k = .items i ∨ w.heap.size ≤ k) :
    ∃ S', SOn w' B S' { σ with cells := σ.cells.set i l' } ∧ S.Ext S' w ∧ (S'.cb = S.cb ∧ S'.tb = S.tb) ∧ S'.iv i = v' ∧ ∀ j, j ≠ i → S'.iv j = S.iv j := by
  let S' : Sv := { S with iv := fun j => if j = i then v' else S.iv j, ro := fun k => if v'.ownBlock = some k ∧ w.heap.size ≤ k then .items i else S.ro k }
  have hr : ∀ k, k < w.heap.size → S'.ro k = S.ro k := fun k hk => if_neg (by omega)
  have nO : ∀ k r, S.ro k = r → r ≠ .cell i → r ≠ .items i → ¬ (S.ro k = .cell i ∨ S.ro k = .items i) := fun k r h1 h2 h3 h4 => by rw [h1] at h4; exact h4.elim h2 h3
  refine ⟨S', ⟨hf.blk h.top (nO _ _ h.rst (by simp) (by simp)), h.base.keep hf (fun k hk hr => ?_) hr (fun _ _ => rfl), own_fr h.calls hf fun k hk => nO k _ (h.rcv k hk) (by simp) (by simp), h.flen,
    fun j x f h1 h2 => (h.frames j x f h1 h2).keep hf (fun k hk hr => ?_) hr (fun _ _ => rfl), hf.blk h.tape (nO _ _ h.rtb (by simp) (by simp)),
    own_fr h.inp hf fun k hk => nO k _ (h.rvi k hk) (by simp) (by simp), own_fr h.out hf fun k hk => nO k _ (h.rvo k hk) (by simp) (by simp),
    fun j m hj => ?_, (hr _ h.top.lt).trans h.rst, (hr _ h.tape.lt).trans h.rtb, Sv.has_ext h.rcv (fun k hk => own_lt' h.calls hk) hr, Sv.has_ext h.rvi (fun k hk => own_lt' h.inp hk) hr, Sv.has_ext h.rvo (fun k hk => own_lt' h.out hk) hr, fun k hk => ?_⟩, ⟨rfl, hr⟩, ⟨rfl, rfl⟩, if_pos rfl, fun j hj => if_neg hj⟩
  · rcases hr with hr | hr <;> exact nO k _ hr (by simp) (by simp)
  · rcases hr with hr | hr <;> exact nO k _ hr (by simp) (by simp)
  · by_cases hji : j = i
    · subst hji
      rw [List.getElem?_set_self (List.getElem?_eq_some_iff.1 hi).1] at hj
      injection hj with hj; subst hj
      have h0 := (h.cells j l hi)
      refine ⟨by show Blk w' (S.cb j) _ #[if j = j then v' else _]; rw [if_pos rfl]; exact hb, by show w'.ownsRow B _ 1 (if j = j then v' else _) _ _; rw [if_pos rfl]; exact ho, (hr _ h0.blk.lt).trans h0.rb, ?_⟩
      show S'.has (if j = j then v' else _) _
      rw [if_pos rfl]
      intro k hk
      show (if v'.ownBlock = some k ∧ w.heap.size ≤ k then Role.items j else S.ro k) = .items j
      by_cases hc : v'.ownBlock = some k ∧ w.heap.size ≤ k
      · rw [if_pos hc]
      · rw [if_neg hc]; exact (hv k hk).resolve_right fun h => hc ⟨hk, h⟩
    · rw [List.getElem?_set_ne (fun e => hji e.symm)] at hj
      refine (h.cells j m hj).keep hf (fun k hk hr => ?_) hr rfl (if_neg hji)
      rcases hr with hr | hr <;> exact nO k _ hr (by simp [hji]) (by simp [hji])
  · change (if v'.ownBlock = some k ∧ w.heap.size ≤ k then Role.items i else S.ro k) ≠ .none at hk
    by_cases hc : v'.ownBlock = some k ∧ w.heap.size ≤ k
    · exact own_gE ho hc.1
    · rw [if_neg hc] at hk; exact ⟨(h.new k hk).1, Nat.lt_of_lt_of_le (h.new k hk).2 hf.size⟩
theorem SOn.tapeTo (h : SOn w B S σ) {a b : List Int} (hf : Fr (fun k => S.ro k = .tape ∨ S.ro k = .tin ∨ S.ro k = .tout) w w') {vi vo : Value} (hb : Blk w' S.tb 156 #[vi, vo]) (hi : w'.ownsRow B 3 1 vi a.length (intCells a)) (ho : w'.ownsRow B 3 1 vo b.length (intCells b))
    (hvi : ∀ k, vi.ownBlock = some k → S.ro k = .tin ∨ w.heap.size ≤ k) (hvo : ∀ k, vo.ownBlock = some k → S.ro k = .tout ∨ w.heap.size ≤ k) (hne : ∀ k, vi.ownBlock = some k → vo.ownBlock = some k → False) :
    ∃ S', SOn w' B S' { σ with inp := a, out := b } ∧ S.Ext S' w ∧ (S'.cb = S.cb ∧ S'.tb = S.tb) ∧ S'.iv = S.iv := by
  let S' : Sv := { S with vi := vi, vo := vo, ro := fun k => if w.heap.size ≤ k ∧ vi.ownBlock = some k then .tin else if w.heap.size ≤ k ∧ vo.ownBlock = some k then .tout else S.ro k }
  have hr : ∀ k, k < w.heap.size → S'.ro k = S.ro k := fun k hk => by show (if _ then _ else if _ then _ else _) = _; rw [if_neg (by omega), if_neg (by omega)]
  have nO : ∀ k r, S.ro k = r → r ≠ .tape → r ≠ .tin → r ≠ .tout → ¬ (S.ro k = .tape ∨ S.ro k = .tin ∨ S.ro k = .tout) := fun k r h1 h2 h3 h4 h5 => by rw [h1] at h5; rcases h5 with h5 | h5 | h5; exact h2 h5; exact h3 h5; exact h4 h5
  refine ⟨S', ⟨hf.blk h.top (nO _ _ h.rst (by simp) (by simp) (by simp)), h.base.keep hf (fun k hk hr => ?_) hr (fun _ _ => rfl), own_fr h.calls hf fun k hk => nO k _ (h.rcv k hk) (by simp) (by simp) (by simp), h.flen,
    fun j x f h1 h2 => (h.frames j x f h1 h2).keep hf (fun k hk hr => ?_) hr (fun _ _ => rfl), hb, hi, ho,
    fun j m hj => (h.cells j m hj).keep hf (fun k hk hr => ?_) hr rfl rfl, (hr _ h.top.lt).trans h.rst, (hr _ h.tape.lt).trans h.rtb, Sv.has_ext h.rcv (fun k hk => own_lt' h.calls hk) hr, fun k hk => ?_, fun k hk => ?_, fun k hk => ?_⟩, ⟨rfl, hr⟩, ⟨rfl, rfl⟩, rfl⟩
  · rcases hr with hr | hr <;> exact nO k _ hr (by simp) (by simp) (by simp)
  · rcases hr with hr | hr <;> exact nO k _ hr (by simp) (by simp) (by simp)
  · rcases hr with hr | hr <;> exact nO k _ hr (by simp) (by simp) (by simp)
  · show (if w.heap.size ≤ k ∧ vi.ownBlock = some k then Role.tin else if w.heap.size ≤ k ∧ vo.ownBlock = some k then .tout else S.ro k) = .tin
    rcases hvi k hk with h1 | h1
    · by_cases hk2 : w.heap.size ≤ k
      · rw [if_pos ⟨hk2, hk⟩]
      · rw [if_neg (by omega), if_neg (by omega)]; exact h1
    · rw [if_pos ⟨h1, hk⟩]
  · show (if w.heap.size ≤ k ∧ vi.ownBlock = some k then Role.tin else if w.heap.size ≤ k ∧ vo.ownBlock = some k then .tout else S.ro k) = .tout
    rw [if_neg (fun h => hne k h.2 hk)]
    rcases hvo k hk with h1 | h1
    · by_cases hk2 : w.heap.size ≤ k
      · rw [if_pos ⟨hk2, hk⟩]
      · rw [if_neg (by omega)]; exact h1
    · rw [if_pos ⟨h1, hk⟩]
  · change (if w.heap.size ≤ k ∧ vi.ownBlock = some k then Role.tin else if w.heap.size ≤ k ∧ vo.ownBlock = some k then .tout else S.ro k) ≠ .none at hk
    by_cases h1 : w.heap.size ≤ k ∧ vi.ownBlock = some k
    · exact own_gE hi h1.2
    · rw [if_neg h1] at hk
      by_cases h2 : w.heap.size ≤ k ∧ vo.ownBlock = some k
      · exact own_gE ho h2.2
      · rw [if_neg h2] at hk
        exact ⟨(h.new k hk).1, Nat.lt_of_lt_of_le (h.new k hk).2 hf.size⟩
end
end Go.Proofs.YtakfdnnlhjhcfaaGreatDoor
set_option maxHeartbeats 17592186043904
namespace Bk
open Go Go.RowKit
theorem own_set {w : World} {base : Nat} {e : TypeId} {size n g cp : Nat} {xs : List Value} (h : w.ownsRow base e size (.slice (some ⟨g, 0, none⟩) n cp) n xs) (j : Nat) (u : Value) : (w.setCell ⟨g, j, none⟩ u).ownsRow base e size (.slice (some ⟨g, 0, none⟩) n cp) n (xs.set j u) := by
  refine ⟨by rw [List.length_set]; exact h.1, .inr ?_⟩
  rcases h.2 with ⟨e1, _⟩ | ⟨g', cap', cur, e1, hg, hh, h3, h4, h5, h6⟩
  · simp at e1
  · injection e1 with e1 _ e2
    injection e1 with e1
    injection e1 with e1 _ _
    subst e1; subst e2
    refine ⟨g, cp, cur.setIfInBounds j u, rfl, hg, (show Blk w g e cur from hh).set_ j u, h3, h4, by simpa using h5, ?_⟩
    rw [← h6]
    simp [List.take_set]
theorem own_row {w : World} {base : Nat} {e : TypeId} {size n g cp : Nat} {xs : List Value} (h : w.ownsRow base e size (.slice (some ⟨g, 0, none⟩) n cp) n xs) : ∃ cur, Blk w g e cur ∧ ∀ (j : Nat) (u : Value), xs[j]? = some u → cur[j]? = some u := by
  rcases h.2 with ⟨e1, _⟩ | ⟨g', cap', cur, e1, hg, hh, h3, h4, h5, h6⟩
  · simp at e1
  · injection e1 with e1 _ e2
    injection e1 with e1
    injection e1 with e1 _ _
    subst e1; subst e2
    refine ⟨cur, hh, fun j u hu => ?_⟩
    rw [← h6, List.getElem?_take] at hu
    split at hu
    · simpa using hu
    · cases hu
theorem own_cut {w : World} {base : Nat} {e : TypeId} {size n g cp : Nat} {xs : List Value} (h : w.ownsRow base e size (.slice (some ⟨g, 0, none⟩) n cp) n xs) {m : Nat} (hm : m ≤ n) : w.ownsRow base e size (.slice (some ⟨g, 0, none⟩) m cp) m (xs.take (m * size)) := by
  have hle : m * size ≤ n * size := Nat.mul_le_mul_right _ hm
  refine ⟨by rw [List.length_take, h.1]; omega, .inr ?_⟩
  rcases h.2 with ⟨e1, _⟩ | ⟨g', cap', cur, e1, hg, hh, h3, h4, h5, h6⟩
  · simp at e1
  · injection e1 with e1 _ e2
    injection e1 with e1
    injection e1 with e1 _ _
    subst e1; subst e2
    refine ⟨g, cp, cur, rfl, hg, hh, by omega, h4, h5, ?_⟩
    rw [← h6, List.take_take, Nat.min_eq_left hle]
theorem frRow_set : ∀ {xs : List (Value × Value)} {fs : List PFr} {i : Nat} {x x' : Value × Value} {f f' : PFr}, xs[i]? = some x → fs[i]? = some f → (((frRow xs fs).set (i * 3) x'.1).set (i * 3 + 1) x'.2).set (i * 3 + 2) (.int .i64 f'.locals) = frRow (xs.set i x') (fs.set i f')
  | [], _, i, _, _, _, _, h, _ => by simp at h
  | _ :: _, [], i, _, _, _, _, _, h => by simp at h
  | y :: xs, g :: fs, 0, x, x', f, f', h1, h2 => by simp [frRow]
  | y :: xs, g :: fs, i + 1, x, x', f, f', h1, h2 => by
    have := frRow_set (xs := xs) (fs := fs) (i := i) (x' := x') (f' := f') (by simpa using h1) (by simpa using h2)
    rw [show (i + 1) * 3 = i * 3 + 1 + 1 + 1 by omega]
    simpa [frRow] using this
theorem frRow_app : ∀ {xs : List (Value × Value)} {fs : List PFr} (x : Value × Value) (f : PFr), xs.length = fs.length → frRow (xs ++ [x]) (fs ++ [f]) = frRow xs fs ++ [x.1, x.2, .int .i64 f.locals]
  | [], [], _, _, _ => rfl
  | [], _ :: _, _, _, h => by simp at h
  | _ :: _, [], _, _, h => by simp at h
  | y :: xs, g :: fs, x, f, h => by
    have := frRow_app (xs := xs) (fs := fs) x f (by simpa using h)
    simp only [List.cons_append, frRow, this]
theorem frRow_take : ∀ (n : Nat) {xs : List (Value × Value)} {fs : List PFr}, xs.length = fs.length → (frRow xs fs).take (n * 3) = frRow (xs.take n) (fs.take n)
  | 0, _, _, _ => by simp [frRow]
  | n + 1, [], [], _ => by simp [frRow]
  | n + 1, [], _ :: _, h => by simp at h
  | n + 1, _ :: _, [], h => by simp at h
  | n + 1, x :: xs, f :: fs, h => by
    have := frRow_take n (xs := xs) (fs := fs) (by simpa using h)
    rw [show (n + 1) * 3 = n * 3 + 1 + 1 + 1 by omega]
    simp only [frRow, List.take_succ_cons, this]
def Sv.fb (S : Sv) (σ : PSt) : Nat := if σ.calls = [] then S.st else S.cv.ownBlock.getD 0
def PSt.fo (σ : PSt) : Nat := (σ.calls.length - 1) * 3
def Sv.fx (S : Sv) (σ : PSt) : Value × Value := if σ.calls = [] then (S.bv, S.bc) else S.fv.getD (σ.calls.length - 1) (.nilFunc, .nilFunc)
theorem PSt.setCur_nil {σ : PSt} (h : σ.calls = []) (f : PFr) : σ.setCur f = { σ with base := f } := by unfold PSt.setCur; rw [if_pos h]
theorem PSt.setCur_some {σ : PSt} (h : σ.calls ≠ []) (f : PFr) : σ.setCur f = { σ with calls := σ.calls.set (σ.calls.length - 1) f } := by unfold PSt.setCur; rw [if_neg h]
end Bk
namespace Go.Proofs.YtakfdnnlhjhcfaaGreatDoor
open Go.RowKit Bk
section
variable {w w' : World} {B : Nat} {S : Sv} {σ : PSt}
theorem SOn.calls_some (h : SOn w B S σ) (hn : σ.calls ≠ []) : ∃ g cp x f, S.cv = .slice (some ⟨g, 0, none⟩) σ.calls.length cp ∧ S.fv[σ.calls.length - 1]? = some x ∧ σ.calls[σ.calls.length - 1]? = some f ∧ 0 < σ.calls.length := by
  have h0 : 0 < σ.calls.length := List.length_pos_iff.2 hn
  obtain ⟨g, cp, e, _⟩ := own_some h.calls h0
  exact ⟨g, cp, _, _, e, List.getElem?_eq_getElem (by rw [h.flen]; omega), List.getElem?_eq_getElem (by omega), h0⟩
theorem SOn.cur (h : SOn w B S σ) : FrAt w B S σ.calls.length (S.fx σ).1 (S.fx σ).2 σ.cur ∧ (w.cell? ⟨S.fb σ, σ.fo, none⟩ = some (S.fx σ).1 ∧ w.cell? ⟨S.fb σ, σ.fo + 1, none⟩ = some (S.fx σ).2 ∧ w.cell? ⟨S.fb σ, σ.fo + 2, none⟩ = some (.int .i64 σ.cur.locals)) ∧ (∀ o, w.frozen? ⟨S.fb σ, o, none⟩ = false) ∧ (S.ro (S.fb σ) = .store ∨ S.ro (S.fb σ) = .calls) ∧ S.fb σ < w.heap.size := by
  by_cases hn : σ.calls = []
  · unfold Sv.fb Sv.fx PSt.fo
    rw [PSt.cur_base hn, if_pos hn, if_pos hn, hn]
    exact ⟨h.base, ⟨h.top.cell 0, h.top.cell 1, h.top.cell 2⟩, h.top.frozen, .inl h.rst, h.top.lt⟩
  · obtain ⟨g, cp, x, f, e, hx, hf, h0⟩ := h.calls_some hn
    have hc := h.calls
    rw [e] at hc
    obtain ⟨cur, hb, hcur⟩ := own_row hc
    obtain ⟨q0, q1, q2⟩ := frRow_get hx hf
    unfold Sv.fb Sv.fx PSt.fo
    rw [PSt.cur_call hf, if_neg hn, if_neg hn, List.getD_eq_getElem?_getD, hx, e]
    have hF := h.frames _ x f hx hf
    rw [show σ.calls.length - 1 + 1 = σ.calls.length by omega] at hF
    refine ⟨hF, ⟨(hb.cell _).trans (hcur _ _ q0), (hb.cell _).trans (hcur _ _ q1), (hb.cell _).trans (hcur _ _ q2)⟩, hb.frozen, .inr (h.rcv g (by rw [e]; rfl)), hb.lt⟩
theorem SOn.fbBlk (h : SOn w B S σ) : ∃ t cs, Blk w (S.fb σ) t cs ∧ cs[σ.fo]? = some (S.fx σ).1 ∧ cs[σ.fo + 1]? = some (S.fx σ).2 ∧ cs[σ.fo + 2]? = some (.int .i64 σ.cur.locals) := by
  obtain ⟨_, ⟨h0, h1, h2⟩, _, _, _⟩ := h.cur
  obtain ⟨t, cs, hb⟩ : ∃ t cs, Blk w (S.fb σ) t cs := by
    by_cases hn : σ.calls = []
    · exact ⟨_, _, by rw [show S.fb σ = S.st by unfold Sv.fb; rw [if_pos hn]]; exact h.top⟩
    · obtain ⟨g, cp, x, f, e, hx, hf, h0⟩ := h.calls_some hn
      have hc := h.calls
      rw [e] at hc
      obtain ⟨cur, hb, _⟩ := own_row hc
      exact ⟨_, cur, by rw [show S.fb σ = g by unfold Sv.fb; rw [if_neg hn, e]; rfl]; exact hb⟩
  exact ⟨t, cs, hb, (hb.cell _).symm.trans h0, (hb.cell _).symm.trans h1, (hb.cell _).symm.trans h2⟩
theorem SOn.setFr (h : SOn w B S σ) {v c : Value} {f' : PFr} (hF : Fr (fun k => S.ro k = .vars σ.calls.length ∨ S.ro k = .refs σ.calls.length ∨ k = S.fb σ) w w')
    (hblk : ∀ t cs, Blk w (S.fb σ) t cs → Blk w' (S.fb σ) t (((cs.setIfInBounds σ.fo v).setIfInBounds (σ.fo + 1) c).setIfInBounds (σ.fo + 2) (.int .i64 f'.locals)))
    (ov : w'.ownsRow B 72 3 v f'.vars.length (varCells f'.vars)) (oc : w'.ownsRow B 125 1 c f'.idx.length (S.ptrs f'.idx))
    (rv : ∀ k, v.ownBlock = some k → S.ro k = .vars σ.calls.length ∨ w.heap.size ≤ k) (rc : ∀ k, c.ownBlock = some k → S.ro k = .refs σ.calls.length ∨ w.heap.size ≤ k) (hne : ∀ k, v.ownBlock = some k → c.ownBlock = some k → False) :
    ∃ S', SOn w' B S' (σ.setCur f') ∧ S.Ext S' w ∧ Fr S.O w w' ∧ S'.cb = S.cb ∧ S'.fb (σ.setCur f') = S.fb σ ∧ (σ.setCur f').fo = σ.fo ∧ S'.fx (σ.setCur f') = (v, c) := by
  obtain ⟨hcur, _, _, hrb, hbl⟩ := h.cur
  let ro' : Nat → Role := fun k => if w.heap.size ≤ k ∧ v.ownBlock = some k then .vars σ.calls.length else if w.heap.size ≤ k ∧ c.ownBlock = some k then .refs σ.calls.length else S.ro k
  have hr : ∀ k, k < w.heap.size → ro' k = S.ro k := fun k hk => by show (if _ then _ else if _ then _ else _) = _; rw [if_neg (by omega), if_neg (by omega)]
  have hv2 : ∀ k, v.ownBlock = some k → ro' k = .vars σ.calls.length := fun k hk => by
    show (if _ then _ else if _ then _ else _) = _
    by_cases h1 : w.heap.size ≤ k
    · rw [if_pos ⟨h1, hk⟩]
    · rw [if_neg (by omega), if_neg (by omega)]; exact (rv k hk).resolve_right h1
  have hc2 : ∀ k, c.ownBlock = some k → ro' k = .refs σ.calls.length := fun k hk => by
    show (if _ then _ else if _ then _ else _) = _
    rw [if_neg (fun h => hne k h.2 hk)]
    by_cases h1 : w.heap.size ≤ k
    · rw [if_pos ⟨h1, hk⟩]
    · rw [if_neg (by omega)]; exact (rc k hk).resolve_right h1
  have hbne : ∀ k, (S.ro k ≠ .store ∧ S.ro k ≠ .calls) → k ≠ S.fb σ := fun k hk e => by subst e; rcases hrb with h | h; exact hk.1 h; exact hk.2 h
  have nO : ∀ k r, S.ro k = r → r ≠ .store → r ≠ .calls → r ≠ .vars σ.calls.length → r ≠ .refs σ.calls.length → ¬ (S.ro k = .vars σ.calls.length ∨ S.ro k = .refs σ.calls.length ∨ k = S.fb σ) := fun k r h1 h2 h3 h4 h5 h6 => by
    rcases h6 with h6 | h6 | h6
    · exact h4 (h1 ▸ h6)
    · exact h5 (h1 ▸ h6)
    · exact hbne k ⟨h1 ▸ h2, h1 ▸ h3⟩ h6
  have hO : Fr S.O w w' := hF.mono fun k hk => by
    show S.ro k ≠ .none
    rcases hk with h1 | h1 | h1
    · rw [h1]; simp
    · rw [h1]; simp
    · rw [h1]; rcases hrb with h | h <;> rw [h] <;> simp
  have hnw : ∀ k, ro' k ≠ .none → B ≤ k ∧ k < w'.heap.size := fun k hk => by
    change (if w.heap.size ≤ k ∧ v.ownBlock = some k then Role.vars σ.calls.length else if w.heap.size ≤ k ∧ c.ownBlock = some k then .refs σ.calls.length else S.ro k) ≠ .none at hk
    by_cases h1 : w.heap.size ≤ k ∧ v.ownBlock = some k
    · exact own_gE ov h1.2
    · rw [if_neg h1] at hk
      by_cases h2 : w.heap.size ≤ k ∧ c.ownBlock = some k
      · exact own_gE oc h2.2
      · rw [if_neg h2] at hk
        exact ⟨(h.new k hk).1, Nat.lt_of_lt_of_le (h.new k hk).2 hF.size⟩
  by_cases hn : σ.calls = []
  · have hfb : S.fb σ = S.st := by unfold Sv.fb; rw [if_pos hn]
    have hfo : σ.fo = 0 := by unfold PSt.fo; rw [hn]; rfl
    have hd : σ.calls.length = 0 := by rw [hn]; rfl
    have ht2 : Blk w' S.st 123 #[v, c, .int .i64 f'.locals, S.cv, .pointer (some ⟨S.tb, 0, none⟩)] := by
      have := hblk _ _ (by rw [hfb]; exact h.top)
      rw [hfb, hfo] at this
      simpa using this
    rw [PSt.setCur_nil hn]
    refine ⟨{ S with bv := v, bc := c, ro := ro' }, ⟨ht2, ⟨ov, oc, fun k hk => by rw [← hd]; exact hv2 k hk, fun k hk => by rw [← hd]; exact hc2 k hk⟩, own_fr h.calls hF fun k hk => ?_, h.flen, fun i x f h1 h2 => by rw [hn] at h2; simp at h2, hF.blk h.tape (nO _ _ h.rtb (by simp) (by simp) (by simp) (by simp)),
      own_fr h.inp hF fun k hk => nO k _ (h.rvi k hk) (by simp) (by simp) (by simp) (by simp), own_fr h.out hF fun k hk => nO k _ (h.rvo k hk) (by simp) (by simp) (by simp) (by simp),
      fun j m hj => (h.cells j m hj).keep hF (fun k hk hr => ?_) hr rfl rfl, (hr _ h.top.lt).trans h.rst, (hr _ h.tape.lt).trans h.rtb, Sv.has_ext h.rcv (fun k hk => own_lt' h.calls hk) hr, Sv.has_ext h.rvi (fun k hk => own_lt' h.inp hk) hr, Sv.has_ext h.rvo (fun k hk => own_lt' h.out hk) hr, hnw⟩, ⟨rfl, hr⟩, hO, rfl, ?_, rfl, ?_⟩
    · rintro (h1 | h1 | h1)
      · rw [h.rcv k hk] at h1; cases h1
      · rw [h.rcv k hk] at h1; cases h1
      · rw [hfb] at h1; subst h1; have := h.rcv _ hk; rw [h.rst] at this; cases this
    · rcases hr with hr | hr <;> exact nO k _ hr (by simp) (by simp) (by simp) (by simp)
    · unfold Sv.fb; simp [hn]
    · unfold Sv.fx; simp [hn]
  · obtain ⟨g, cp, x, f, e, hx, hfm, h0⟩ := h.calls_some hn
    have hfb : S.fb σ = g := by unfold Sv.fb; rw [if_neg hn, e]; rfl
    have hrow := h.calls
    rw [e] at hrow
    have hrow2 : w'.ownsRow B 120 3 S.cv σ.calls.length (frRow (S.fv.set (σ.calls.length - 1) (v, c)) (σ.calls.set (σ.calls.length - 1) f')) := by
      obtain ⟨cur, hb, _⟩ := own_row hrow
      have e2 := hblk _ _ (by rw [hfb]; exact hb)
      rw [hfb] at e2
      have e1 := ((hb.set_ σ.fo v).set_ (σ.fo + 1) c).set_ (σ.fo + 2) (.int .i64 f'.locals)
      rw [e, ← frRow_set hx hfm]
      refine own_of_block (own_set (own_set (own_set hrow σ.fo v) (σ.fo + 1) c) (σ.fo + 2) (.int .i64 f'.locals)) fun g' _ hg' => ?_
      injection hg' with hg'
      subst hg'
      exact e2.trans e1.symm
    rw [PSt.setCur_some hn]
    have hlen : (σ.calls.set (σ.calls.length - 1) f').length = σ.calls.length := List.length_set
    have hne2 : σ.calls.set (σ.calls.length - 1) f' ≠ [] := fun h9 => by rw [h9] at hlen; simp at hlen; omega
    refine ⟨{ S with fv := S.fv.set (σ.calls.length - 1) (v, c), ro := ro' }, ⟨hF.blk h.top ?_, h.base.keep hF (fun k hk hr => ?_) hr (fun _ _ => rfl), by rw [hlen]; exact hrow2, by simp [h.flen], fun i y f1 h1 h2 => ?_, hF.blk h.tape (nO _ _ h.rtb (by simp) (by simp) (by simp) (by simp)),
      own_fr h.inp hF fun k hk => nO k _ (h.rvi k hk) (by simp) (by simp) (by simp) (by simp), own_fr h.out hF fun k hk => nO k _ (h.rvo k hk) (by simp) (by simp) (by simp) (by simp),
      fun j m hj => (h.cells j m hj).keep hF (fun k hk hr => ?_) hr rfl rfl, (hr _ h.top.lt).trans h.rst, (hr _ h.tape.lt).trans h.rtb, Sv.has_ext h.rcv (fun k hk => own_lt' h.calls hk) hr, Sv.has_ext h.rvi (fun k hk => own_lt' h.inp hk) hr, Sv.has_ext h.rvo (fun k hk => own_lt' h.out hk) hr, hnw⟩, ⟨rfl, hr⟩, hO, rfl, ?_, ?_, ?_⟩
    · rintro (h1 | h1 | h1)
      · rw [h.rst] at h1; cases h1
      · rw [h.rst] at h1; cases h1
      · rw [hfb] at h1; have := h.rcv g (by rw [e]; rfl); rw [← h1, h.rst] at this; cases this
    · rcases hr with hr | hr <;> exact nO k _ hr (by simp) (by simp) (by simp <;> omega) (by simp <;> omega)
    · by_cases hi : i = σ.calls.length - 1
      · subst hi
        rw [List.getElem?_set_self (by rw [h.flen]; omega)] at h1
        rw [List.getElem?_set_self (by omega)] at h2
        injection h1 with h1; injection h2 with h2; subst h1; subst h2
        rw [show σ.calls.length - 1 + 1 = σ.calls.length by omega]
        exact ⟨ov, oc, hv2, hc2⟩
      · rw [List.getElem?_set_ne (fun e => hi e.symm)] at h1 h2
        have hil : i < σ.calls.length := (List.getElem?_eq_some_iff.1 h2).1
        refine (h.frames i y f1 h1 h2).keep hF (fun k hk hr => ?_) hr (fun _ _ => rfl)
        rcases hr with hr | hr <;> exact nO k _ hr (by simp) (by simp) (by simp <;> omega) (by simp <;> omega)
    · rcases hr with hr | hr <;> exact nO k _ hr (by simp) (by simp) (by simp) (by simp)
    · unfold Sv.fb; simp [hn]
    · unfold PSt.fo; rw [hlen]
    · unfold Sv.fx; simp only [List.set_eq_nil_iff, hn, if_false]; rw [hlen, List.getD_eq_getElem?_getD, List.getElem?_set_self (by rw [h.flen]; omega)]; rfl
theorem SOn.addCell (h : SOn w B S σ) (hI : ∀ f, f = σ.base ∨ f ∈ σ.calls → ∀ i, i ∈ f.idx → i < σ.cells.length) (hb : Below w.heap.size w w') {g : Nat} {v : Value} {l : List Int} (hg : w.heap.size ≤ g) (hB : B ≤ w.heap.size) (hbl : Blk w' g 127 #[v]) (ho : w'.ownsRow w.heap.size 3 1 v l.length (intCells l)) (hne : v.ownBlock ≠ some g) :
    ∃ S', SOn w' B S' { σ with cells := σ.cells ++ [l] } ∧ S.Ext S' w ∧ S'.cb σ.cells.length = g ∧ S'.fb { σ with cells := σ.cells ++ [l] } = S.fb σ ∧ S'.fx { σ with cells := σ.cells ++ [l] } = S.fx σ := by
  let S' : Sv := { S with cb := fun j => if j = σ.cells.length then g else S.cb j, iv := fun j => if j = σ.cells.length then v else S.iv j, ro := fun k => if k = g then .cell σ.cells.length else if w.heap.size ≤ k ∧ v.ownBlock = some k then .items σ.cells.length else S.ro k }
  have hr : ∀ k, k < w.heap.size → S'.ro k = S.ro k := fun k hk => by show (if _ then _ else if _ then _ else _) = _; rw [if_neg (by omega), if_neg (by omega)]
  have hf : Fr (fun _ => False) w w' := (Fr.of hb).mono fun _ h => h
  have hc : ∀ f, f = σ.base ∨ f ∈ σ.calls → ∀ i, i ∈ f.idx → S'.cb i = S.cb i := fun f hf' i hi => if_neg (by have := hI f hf' i hi; omega)
  refine ⟨S', ⟨h.top.next hb, h.base.keep hf (fun _ _ _ h => h) hr (hc _ (.inl rfl)), own_below h.calls hb (Nat.le_refl _), h.flen, fun i x f h1 h2 => (h.frames i x f h1 h2).keep hf (fun _ _ _ h => h) hr (hc _ (.inr (List.mem_of_getElem? h2))), h.tape.next hb, own_below h.inp hb (Nat.le_refl _), own_below h.out hb (Nat.le_refl _), fun j m hj => ?_, (hr _ h.top.lt).trans h.rst, (hr _ h.tape.lt).trans h.rtb, Sv.has_ext h.rcv (fun k hk => own_lt' h.calls hk) hr, Sv.has_ext h.rvi (fun k hk => own_lt' h.inp hk) hr, Sv.has_ext h.rvo (fun k hk => own_lt' h.out hk) hr, fun k hk => ?_⟩, ⟨rfl, hr⟩, if_pos rfl, rfl, rfl⟩
  · by_cases hjn : j = σ.cells.length
    · subst hjn
      simp at hj; subst hj
      refine ⟨by show Blk w' (if _ = _ then g else _) _ #[if _ = _ then v else _]; rw [if_pos rfl, if_pos rfl]; exact hbl, by show w'.ownsRow B _ 1 (if _ = _ then v else _) _ _; rw [if_pos rfl]; exact own_lowE ho hB, ?_, ?_⟩
      · show S'.ro (if _ = _ then g else _) = _
        rw [if_pos rfl]; exact if_pos rfl
      · show S'.has (if _ = _ then v else _) _
        rw [if_pos rfl]
        intro k hk
        show (if k = g then Role.cell σ.cells.length else if w.heap.size ≤ k ∧ v.ownBlock = some k then .items σ.cells.length else S.ro k) = _
        rw [if_neg (fun e : k = g => hne (e ▸ hk)), if_pos ⟨(own_gE ho hk).1, hk⟩]
    · have hj2 : σ.cells[j]? = some m := by
        rw [List.getElem?_append] at hj
        split at hj
        · exact hj
        · have := (List.getElem?_eq_some_iff.1 hj).1; simp at this; omega
      exact (h.cells j m hj2).keep hf (fun _ _ _ h => h) hr (if_neg hjn) (if_neg hjn)
  · change (if k = g then Role.cell σ.cells.length else if w.heap.size ≤ k ∧ v.ownBlock = some k then .items σ.cells.length else S.ro k) ≠ .none at hk
    by_cases h1 : k = g
    · subst h1; exact ⟨Nat.le_trans hB hg, hbl.lt⟩
    · rw [if_neg h1] at hk
      by_cases h2 : w.heap.size ≤ k ∧ v.ownBlock = some k
      · have := own_gE ho h2.2; omega
      · rw [if_neg h2] at hk
        exact ⟨(h.new k hk).1, Nat.lt_of_lt_of_le (h.new k hk).2 hb.size⟩
theorem SOn.push (h : SOn w B S σ) (hf : Fr (fun k => S.ro k = .calls ∨ k = S.st) w w') (hB : B ≤ w.heap.size) {v c cv : Value} {f : PFr} (hv : w'.ownsRow w.heap.size 72 3 v f.vars.length (varCells f.vars)) (hc : w'.ownsRow w.heap.size 125 1 c f.idx.length (S.ptrs f.idx))
    (ht : Blk w' S.st 123 #[S.bv, S.bc, .int .i64 σ.base.locals, cv, .pointer (some ⟨S.tb, 0, none⟩)]) (ho : w'.ownsRow B 120 3 cv (σ.calls.length + 1) (frRow S.fv σ.calls ++ [v, c, .int .i64 f.locals])) (rcv : ∀ k, cv.ownBlock = some k → S.ro k = .calls ∨ w.heap.size ≤ k)
    (hvc : ∀ k, v.ownBlock = some k → c.ownBlock = some k → False) (hvr : ∀ k, cv.ownBlock = some k → v.ownBlock = some k ∨ c.ownBlock = some k → False) :
    ∃ S', SOn w' B S' { σ with calls := σ.calls ++ [f] } ∧ S.Ext S' w := by
  let S' : Sv := { S with cv := cv, fv := S.fv ++ [(v, c)], ro := fun k => if w.heap.size ≤ k ∧ v.ownBlock = some k then .vars (σ.calls.length + 1) else if w.heap.size ≤ k ∧ c.ownBlock = some k then .refs (σ.calls.length + 1) else if w.heap.size ≤ k ∧ cv.ownBlock = some k then .calls else S.ro k }
  have hr : ∀ k, k < w.heap.size → S'.ro k = S.ro k := fun k hk => by show (if _ then _ else if _ then _ else if _ then _ else _) = _; rw [if_neg (by omega), if_neg (by omega), if_neg (by omega)]
  have nO : ∀ k r, S.ro k = r → r ≠ .calls → r ≠ .store → ¬ (S.ro k = .calls ∨ k = S.st) := fun k r h1 h2 h3 h4 => by
    rcases h4 with h4 | h4
    · exact h2 (h1 ▸ h4)
    · subst h4; rw [h.rst] at h1; exact h3 h1.symm
  refine ⟨S', ⟨ht, h.base.keep hf (fun k hk hr => ?_) hr (fun _ _ => rfl), ?_, by simp [S', h.flen], fun i x f1 h1 h2 => ?_, hf.blk h.tape (nO _ _ h.rtb (by simp) (by simp)), own_fr h.inp hf fun k hk => nO k _ (h.rvi k hk) (by simp) (by simp), own_fr h.out hf fun k hk => nO k _ (h.rvo k hk) (by simp) (by simp),
    fun j m hj => (h.cells j m hj).keep hf (fun k hk hr => ?_) hr rfl rfl, (hr _ h.top.lt).trans h.rst, (hr _ h.tape.lt).trans h.rtb, fun k hk => ?_, Sv.has_ext h.rvi (fun k hk => own_lt' h.inp hk) hr, Sv.has_ext h.rvo (fun k hk => own_lt' h.out hk) hr, fun k hk => ?_⟩, rfl, hr⟩
  · rcases hr with hr | hr <;> exact nO k _ hr (by simp) (by simp)
  · show w'.ownsRow B _ 3 cv (σ.calls ++ [f]).length (frRow (S.fv ++ [(v, c)]) (σ.calls ++ [f]))
    rw [frRow_app _ _ h.flen, List.length_append]; exact ho
  · by_cases hi : i < σ.calls.length
    · rw [List.getElem?_append_left (by rw [h.flen]; exact hi)] at h1
      rw [List.getElem?_append_left hi] at h2
      refine (h.frames i x f1 h1 h2).keep hf (fun k hk hr => ?_) hr (fun _ _ => rfl)
      rcases hr with hr | hr <;> exact nO k _ hr (by simp) (by simp)
    · obtain rfl : i = σ.calls.length := by have := (List.getElem?_eq_some_iff.1 h2).1; simp at this; omega
      simp at h2
      have h1' : x = (v, c) := by
        have : (S.fv ++ [(v, c)])[S.fv.length]? = some x := by rw [h.flen]; exact h1
        simp at this; exact this.symm
      subst h2; subst h1'
      refine ⟨own_lowE hv hB, own_lowE hc hB, fun k hk => ?_, fun k hk => ?_⟩
      · exact if_pos ⟨(own_gE hv hk).1, hk⟩
      · show (if _ then _ else if _ then _ else _) = _
        rw [if_neg (fun h => hvc k h.2 hk), if_pos ⟨(own_gE hc hk).1, hk⟩]
  · rcases hr with hr | hr <;> exact nO k _ hr (by simp) (by simp)
  · show (if _ then _ else if _ then _ else if _ then _ else _) = _
    rw [if_neg (fun h => hvr k hk (.inl h.2)), if_neg (fun h => hvr k hk (.inr h.2))]
    by_cases h1 : w.heap.size ≤ k
    · rw [if_pos ⟨h1, hk⟩]
    · rw [if_neg (by omega)]; exact (rcv k hk).resolve_right h1
  · change (if w.heap.size ≤ k ∧ v.ownBlock = some k then Role.vars (σ.calls.length + 1) else if w.heap.size ≤ k ∧ c.ownBlock = some k then .refs (σ.calls.length + 1) else if w.heap.size ≤ k ∧ cv.ownBlock = some k then .calls else S.ro k) ≠ .none at hk
    by_cases h1 : w.heap.size ≤ k ∧ v.ownBlock = some k
    · have := own_gE hv h1.2; omega
    · rw [if_neg h1] at hk
      by_cases h2 : w.heap.size ≤ k ∧ c.ownBlock = some k
      · have := own_gE hc h2.2; omega
      · rw [if_neg h2] at hk
        by_cases h3 : w.heap.size ≤ k ∧ cv.ownBlock = some k
        · exact own_gE ho h3.2
        · rw [if_neg h3] at hk
          exact ⟨(h.new k hk).1, Nat.lt_of_lt_of_le (h.new k hk).2 hf.size⟩
theorem SOn.pop (h : SOn w B S σ) (hn : σ.calls ≠ []) (hf : Fr (fun k => k = S.st) w w') {g cp : Nat} (he : S.cv = .slice (some ⟨g, 0, none⟩) σ.calls.length cp)
    (ht : Blk w' S.st 123 #[S.bv, S.bc, .int .i64 σ.base.locals, .slice (some ⟨g, 0, none⟩) (σ.calls.length - 1) cp, .pointer (some ⟨S.tb, 0, none⟩)]) :
    ∃ S', SOn w' B S' { σ with calls := σ.calls.dropLast } ∧ S.Ext S' w := by
  have nO : ∀ k r, S.ro k = r → r ≠ .store → ¬ k = S.st := fun k r h1 h3 h4 => by subst h4; rw [h.rst] at h1; exact h3 h1.symm
  have hrow := own_fr h.calls hf fun k hk => nO k _ (h.rcv k hk) (by simp)
  rw [he] at hrow
  have hcut := own_cut hrow (m := σ.calls.length - 1) (by omega)
  rw [frRow_take _ h.flen] at hcut
  have hdl : σ.calls.dropLast = σ.calls.take (σ.calls.length - 1) := List.dropLast_eq_take
  refine ⟨{ S with cv := .slice (some ⟨g, 0, none⟩) (σ.calls.length - 1) cp, fv := S.fv.take (σ.calls.length - 1) }, ⟨ht, h.base.keep hf (fun k hk hr => ?_) (fun _ _ => rfl) (fun _ _ => rfl), ?_, ?_, fun i x f1 h1 h2 => ?_, hf.blk h.tape (nO _ _ h.rtb (by simp)), own_fr h.inp hf fun k hk => nO k _ (h.rvi k hk) (by simp), own_fr h.out hf fun k hk => nO k _ (h.rvo k hk) (by simp),
    fun j m hj => (h.cells j m hj).keep hf (fun k hk hr => ?_) (fun _ _ => rfl) rfl rfl, h.rst, h.rtb, fun k hk => h.rcv k (by rw [he]; exact hk), h.rvi, h.rvo, fun k hk => ⟨(h.new k hk).1, Nat.lt_of_lt_of_le (h.new k hk).2 hf.size⟩⟩, rfl, fun _ _ => rfl⟩
  · rcases hr with hr | hr <;> exact nO k _ hr (by simp)
  · show w'.ownsRow B _ 3 _ σ.calls.dropLast.length (frRow _ σ.calls.dropLast)
    rw [hdl, List.length_take, Nat.min_eq_left (by omega)]; exact hcut
  · simp [h.flen]
  · change (S.fv.take (σ.calls.length - 1))[i]? = some x at h1
    change σ.calls.dropLast[i]? = some f1 at h2
    rw [hdl] at h2
    rw [List.getElem?_take] at h1 h2
    split at h1
    · rename_i hi
      rw [if_pos hi] at h2
      refine (h.frames i x f1 h1 h2).keep hf (fun k hk hr => ?_) (fun _ _ => rfl) (fun _ _ => rfl)
      rcases hr with hr | hr <;> exact nO k _ hr (by simp)
    · cases h1
  · rcases hr with hr | hr <;> exact nO k _ hr (by simp)
end
end Go.Proofs.YtakfdnnlhjhcfaaGreatDoor
