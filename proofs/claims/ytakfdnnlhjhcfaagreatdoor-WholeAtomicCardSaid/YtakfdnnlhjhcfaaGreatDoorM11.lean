/- WhP WhQ. -/
import Derived.Test.YtakfdnnlhjhcfaaGreatDoorM7
set_option linter.unusedVariables false
set_option linter.unusedSimpArgs false
set_option linter.unusedSimpArgs false
namespace Bk
open Go.RowKit (wrap64)
structure PFr.Ok (kd : Nat → Int) (nc m : Nat) (f : PFr) : Prop where
  len : f.idx.length = f.vars.length
  kind : ∀ (i : Nat) (v : Vr) (c : Nat), f.vars[i]? = some v → f.idx[i]? = some c → c < nc ∧ v.k = kd c
  loc : f.locals ≤ f.vars.length
  bd : f.vars.length ≤ m
structure PSt.Ok (kd : Nat → Int) (m : Nat) (σ : PSt) : Prop where
  base : σ.base.Ok kd σ.cells.length m
  calls : ∀ f, f ∈ σ.calls → f.Ok kd σ.cells.length m
  one : ∀ (c : Nat) (l : List Int), σ.cells[c]? = some l → (kd c = 1 → l.length = 1) ∧ l.length ≤ 1000
  inp : σ.inp.length ≤ 4096
  out : σ.out.length ≤ 4096
  nc : σ.calls.length ≤ 100
theorem PFr.Ok.mono {kd : Nat → Int} {nc nc' m m' : Nat} {f : PFr} (h : f.Ok kd nc m) (hn : nc ≤ nc') (hm : m ≤ m') : f.Ok kd nc' m' :=
  ⟨h.len, fun i v c h1 h2 => ⟨Nat.lt_of_lt_of_le (h.kind i v c h1 h2).1 hn, (h.kind i v c h1 h2).2⟩, h.loc, Nat.le_trans h.bd hm⟩
theorem PSt.Ok.mono {kd : Nat → Int} {m m' : Nat} {σ : PSt} (h : σ.Ok kd m) (hm : m ≤ m') : σ.Ok kd m' :=
  ⟨h.base.mono (Nat.le_refl _) hm, fun f hf => (h.calls f hf).mono (Nat.le_refl _) hm, h.one, h.inp, h.out, h.nc⟩
theorem PSt.cur_base {σ : PSt} (h : σ.calls = []) : σ.cur = σ.base := by unfold PSt.cur; rw [h]; rfl
theorem PSt.cur_call {σ : PSt} {f : PFr} (h : σ.calls[σ.calls.length - 1]? = some f) : σ.cur = f := by
  unfold PSt.cur
  rw [List.getLastD_eq_getLast?, List.getLast?_eq_getElem?, h]; rfl
theorem PSt.Ok.cur {kd : Nat → Int} {m : Nat} {σ : PSt} (h : σ.Ok kd m) : σ.cur.Ok kd σ.cells.length m := by
  rcases Nat.eq_zero_or_pos σ.calls.length with h0 | h0
  · rw [PSt.cur_base (List.eq_nil_of_length_eq_zero h0)]; exact h.base
  · have he : σ.calls[σ.calls.length - 1]? = some (σ.calls[σ.calls.length - 1]'(by omega)) := List.getElem?_eq_getElem (by omega)
    rw [PSt.cur_call he]; exact h.calls _ (List.getElem_mem _)
theorem PSt.Ok.setCur {kd : Nat → Int} {m : Nat} {σ : PSt} (h : σ.Ok kd m) {f : PFr} (hf : f.Ok kd σ.cells.length m) : (σ.setCur f).Ok kd m := by
  unfold PSt.setCur
  split
  · exact ⟨hf, h.calls, h.one, h.inp, h.out, h.nc⟩
  · refine ⟨h.base, fun g hg => ?_, h.one, h.inp, h.out, by simpa using h.nc⟩
    rcases List.mem_or_eq_of_mem_set hg with hg | rfl
    · exact h.calls g hg
    · exact hf
theorem findV_some {s : ByteArray} : ∀ {l : List Vr} {i : Nat}, findV s l = some i → ∃ v, l[i]? = some v ∧ (v.nm.toList == s.toList) = true
  | [], _, h => by cases h
  | v :: l, i, h => by
    simp only [findV] at h
    cases h1 : findV s l with
    | none => rw [h1] at h; simp only at h; split at h <;> simp at h; subst h; exact ⟨v, rfl, by assumption⟩
    | some j => rw [h1] at h; simp at h; subst h; simpa using findV_some h1
theorem useE_some {vars : List Vr} {s : ByteArray} {k : Int} (h : useE vars s k = 0) : ∃ i v, findV s vars = some i ∧ vars[i]? = some v ∧ v.k = k := by
  unfold useE at h
  cases h1 : findV s vars with
  | none => rw [h1] at h; simp at h
  | some i =>
    obtain ⟨v, hv, _⟩ := findV_some h1
    rw [h1] at h; simp only [Option.bind_some, hv] at h
    refine ⟨i, v, rfl, hv, ?_⟩
    by_cases hk : v.k = k
    · exact hk
    · rw [if_pos hk] at h; cases h
theorem PSt.Ok.find {kd : Nat → Int} {m : Nat} {σ : PSt} (h : σ.Ok kd m) {s : ByteArray} {i : Nat} (hf : findV s σ.cur.vars = some i) : ∃ v c l, σ.cur.vars[i]? = some v ∧ σ.cur.idx[i]? = some c ∧ σ.cells[c]? = some l ∧ v.k = kd c ∧ σ.at_ s = some c ∧ σ.look s = some l := by
  obtain ⟨v, hv, _⟩ := findV_some hf
  have hl := (List.getElem?_eq_some_iff.1 hv).1
  have hc : σ.cur.idx[i]? = some (σ.cur.idx[i]'(by rw [h.cur.len]; exact hl)) := List.getElem?_eq_getElem (by rw [h.cur.len]; exact hl)
  obtain ⟨h1, h2⟩ := h.cur.kind i v _ hv hc
  have hcl := List.getElem?_eq_getElem h1
  have hat : σ.at_ s = some (σ.cur.idx[i]'(by rw [h.cur.len]; exact hl)) := by
    unfold PSt.at_; rw [hf]; simp [List.getD_eq_getElem?_getD, hc]
  exact ⟨v, _, _, hv, hc, hcl, h2, hat, by unfold PSt.look; rw [hat]; simp [List.getD_eq_getElem?_getD, hcl]⟩
theorem PSt.Ok.use {kd : Nat → Int} {m : Nat} {σ : PSt} (h : σ.Ok kd m) {s : ByteArray} {k : Int} (hu : useE σ.cur.vars s k = 0) : ∃ i c l, findV s σ.cur.vars = some i ∧ σ.cur.idx[i]? = some c ∧ σ.cells[c]? = some l ∧ kd c = k ∧ σ.at_ s = some c ∧ σ.look s = some l := by
  obtain ⟨i, v, hf, hv, hk⟩ := useE_some hu
  obtain ⟨v', c, l, hv', hc, hl, hkd, h1, h2⟩ := h.find hf
  rw [hv] at hv'; injection hv' with e; subst e
  exact ⟨i, c, l, hf, hc, hl, by rw [← hkd, hk], h1, h2⟩
theorem PSt.Ok.cell {kd : Nat → Int} {m : Nat} {σ : PSt} (h : σ.Ok kd m) {c : Nat} {l : List Int} (h1 : kd c = 1 → l.length = 1) (h2 : l.length ≤ 1000) : ({ σ with cells := σ.cells.set c l } : PSt).Ok kd m := by
  refine ⟨by simpa using h.base, by simpa using h.calls, fun c' l' hc => ?_, h.inp, h.out, h.nc⟩
  rw [List.getElem?_set] at hc
  split at hc
  · rename_i he
    subst he
    split at hc
    · injection hc with e; subst e; exact ⟨h1, h2⟩
    · cases hc
  · exact h.one c' l' hc
theorem PSt.Ok.write {kd : Nat → Int} {m : Nat} {σ : PSt} (h : σ.Ok kd m) (s : ByteArray) (i : Nat) (v : Int) : (σ.write s i v).Ok kd m := by
  unfold PSt.write
  cases hc : σ.at_ s with
  | none => exact h
  | some c =>
    cases hl : σ.cells[c]? with
    | none => simp only [List.getD_eq_getElem?_getD, hl]; rw [List.set_eq_of_length_le (by exact List.getElem?_eq_none_iff.1 hl)]; exact h
    | some l =>
      simp only [List.getD_eq_getElem?_getD, hl]
      exact h.cell (fun hk => by simpa using (h.one c l hl).1 hk) (by simpa using (h.one c l hl).2)
theorem PSt.Ok.setCell {kd : Nat → Int} {m : Nat} {σ : PSt} (h : σ.Ok kd m) {s : ByteArray} (hu : useE σ.cur.vars s 3 = 0) {l : List Int} (hl : l.length ≤ 1000) : (σ.setCell s l).Ok kd m := by
  obtain ⟨i, c, l0, _, _, _, hk, ha, _⟩ := h.use hu
  unfold PSt.setCell
  rw [ha]
  exact h.cell (fun h1 => by rw [hk] at h1; cases h1) hl
theorem placeM_ok {σ σ' : PSt} {p : Ex} {right : Int × Int} {k : Nat → Int → Rs} (h : placeM σ p right k = .ok σ') : ((indexE σ.look p).2 = 0 ∧ right.2 = 0 ∧ 0 ≤ (indexE σ.look p).1 ∧ (indexE σ.look p).1 < (σ.len p.nam : Int)) ∧ k (indexE σ.look p).1.toNat right.1 = .ok σ' := by
  unfold placeM at h
  split at h
  · cases h
  split at h
  · cases h
  split at h
  · cases h
  · exact ⟨⟨by omega, by omega, by omega, by omega⟩, h⟩
theorem updM_ok {kd : Nat → Int} {m : Nat} {σ σ' : PSt} (h : σ.Ok kd m) {op : Int} {p e : Ex} (hr : updM op p e σ = .ok σ') : σ'.Ok kd m := by
  unfold updM at hr
  split at hr
  · cases hr
  split at hr
  · cases hr
  obtain ⟨_, h2⟩ := placeM_ok hr
  injection h2 with h2; subst h2
  exact h.write _ _ _
theorem swpM_ok {kd : Nat → Int} {m : Nat} {σ σ' : PSt} (h : σ.Ok kd m) {p q : Ex} (hr : swpM p q σ = .ok σ') : σ'.Ok kd m := by
  unfold swpM at hr
  split at hr
  · cases hr
  obtain ⟨_, h2⟩ := placeM_ok hr
  split at h2
  · cases h2
  injection h2 with h2; subst h2
  exact (h.write _ _ _).write _ _ _
theorem err2_zero {a b : Int} (h : err2 a b = 0) : a = 0 ∧ b = 0 := by
  unfold err2 at h; split at h <;> omega
theorem PSt.write_cur (σ : PSt) (s : ByteArray) (i : Nat) (v : Int) : (σ.write s i v).cur = σ.cur := by
  unfold PSt.write; split <;> rfl
theorem PSt.Ok.lookLen {kd : Nat → Int} {m : Nat} {σ : PSt} (h : σ.Ok kd m) {s : ByteArray} {l : List Int} (hl : σ.look s = some l) : l.length ≤ 1000 := by
  unfold PSt.look at hl
  cases ha : σ.at_ s with
  | none => rw [ha] at hl; cases hl
  | some c =>
    rw [ha] at hl; simp only [Option.map_some, Option.some.injEq] at hl
    subst hl
    rw [List.getD_eq_getElem?_getD]
    cases hc : σ.cells[c]? with
    | none => simp
    | some l => exact (h.one c l hc).2
theorem stkM_ok {kd : Nat → Int} {m : Nat} {σ σ' : PSt} (h : σ.Ok kd m) {op : Int} {s : ByteArray} {p : Ex} (hr : stkM op s p σ = .ok σ') : σ'.Ok kd m := by
  unfold stkM at hr
  split at hr
  · cases hr
  rename_i h0
  have hu := (err2_zero (by omega : err2 (useE σ.cur.vars s 3) (faultE σ.cur.vars p) = 0)).1
  obtain ⟨_, h2⟩ := placeM_ok hr
  have hlen : ((σ.look s).getD []).length ≤ 1000 := by
    cases hl : σ.look s with
    | none => simp
    | some l => exact h.lookLen hl
  split at h2
  · split at h2
    · cases h2
    injection h2 with h2; subst h2
    refine (h.setCell hu ?_).write _ _ _
    rename_i h3
    unfold PSt.len at h3
    simp; omega
  · split at h2
    · cases h2
    split at h2
    · cases h2
    injection h2 with h2; subst h2
    exact (h.write _ _ _).setCell (by rw [PSt.write_cur]; exact hu) (by simp; omega)
theorem PSt.Ok.tapes {kd : Nat → Int} {m : Nat} {σ : PSt} (h : σ.Ok kd m) {a b : List Int} (ha : a.length ≤ 4096) (hb : b.length ≤ 4096) : ({ σ with inp := a, out := b } : PSt).Ok kd m := ⟨h.base, h.calls, h.one, ha, hb, h.nc⟩
theorem tapM_ok {kd : Nat → Int} {m : Nat} {σ σ' : PSt} (h : σ.Ok kd m) {op : Int} {p : Ex} (hr : tapM op p σ = .ok σ') : σ'.Ok kd m := by
  have hi := h.inp; have ho := h.out
  unfold tapM at hr
  split at hr
  · cases hr
  obtain ⟨_, h2⟩ := placeM_ok hr
  split at h2
  · split at h2
    · cases h2
    split at h2
    · cases h2
    injection h2 with h2; subst h2
    exact PSt.Ok.write (h.tapes (a := σ.inp.tail) (b := σ.out) (by simp; omega) ho) _ _ _
  split at h2
  · split at h2
    · cases h2
    injection h2 with h2; subst h2
    exact PSt.Ok.write (h.tapes (a := _ :: σ.inp) (b := σ.out) (by simp; omega) ho) _ _ _
  split at h2
  · split at h2
    · cases h2
    injection h2 with h2; subst h2
    exact PSt.Ok.write (h.tapes (a := σ.inp) (b := σ.out ++ [_]) hi (by simp; omega)) _ _ _
  · split at h2
    · cases h2
    split at h2
    · cases h2
    injection h2 with h2; subst h2
    exact PSt.Ok.write (h.tapes (a := σ.inp) (b := σ.out.dropLast) hi (by simp; omega)) _ _ _
theorem openM_ok {kd : Nat → Int} {m : Nat} {σ σ' : PSt} (h : σ.Ok kd m) {v : Vr} {l : List Int} (h1 : v.k = 1 → l.length = 1) (hl : l.length ≤ 1000) (hr : openM v l σ = .ok σ') : σ'.Ok (fun c => if c = σ.cells.length then v.k else kd c) (m + 1) := by
  unfold openM at hr
  split at hr
  · cases hr
  injection hr with hr; subst hr
  have hf : ∀ f : PFr, f.Ok kd σ.cells.length m → f.Ok (fun c => if c = σ.cells.length then v.k else kd c) (σ.cells.length + 1) (m + 1) := fun f hf =>
    ⟨hf.len, fun i u c a b => by obtain ⟨q1, q2⟩ := hf.kind i u c a b; exact ⟨by omega, by rw [if_neg (by omega)]; exact q2⟩, hf.loc, by have := hf.bd; omega⟩
  have h2 : ({ σ with cells := σ.cells ++ [l] } : PSt).Ok (fun c => if c = σ.cells.length then v.k else kd c) (m + 1) := by
    refine ⟨by simpa using hf _ h.base, fun f hm => by simpa using hf f (h.calls f hm), fun c l' hc => ?_, h.inp, h.out, h.nc⟩
    rw [List.getElem?_append] at hc
    split at hc
    · rename_i hlt
      rw [if_neg (by omega)]; exact h.one c l' hc
    · rename_i hge
      have : c = σ.cells.length := by
        have := (List.getElem?_eq_some_iff.1 hc).1; simp at this; omega
      subst this
      simp at hc; subst hc
      rw [if_pos rfl]; exact ⟨h1, hl⟩
  have hc := h.cur
  refine h2.setCur ⟨by simp [hc.len], fun i u c a b => ?_, by have := hc.loc; simp; omega, by have := hc.bd; simp; omega⟩
  rw [List.getElem?_append] at a b
  rw [hc.len] at b
  simp only [List.length_append, List.length_cons, List.length_nil]
  split at a
  · rename_i hlt
    rw [if_pos hlt] at b
    obtain ⟨q1, q2⟩ := hc.kind i u c a b
    exact ⟨by omega, by rw [if_neg (by omega)]; exact q2⟩
  · rename_i hlt
    rw [if_neg hlt] at b
    obtain hi : i = σ.cur.vars.length := by have := (List.getElem?_eq_some_iff.1 a).1; simp at this; omega
    subst hi
    simp at a b
    subst a; subst b
    exact ⟨by omega, by rw [if_pos rfl]⟩
theorem closeM_ok {kd : Nat → Int} {m : Nat} {σ σ' : PSt} (h : σ.Ok kd m) {s : ByteArray} {v : Int} (hr : closeM s v σ = .ok σ') : σ'.Ok kd m := by
  unfold closeM at hr
  split at hr
  · cases hr
  split at hr
  · cases hr
  split at hr
  · cases hr
  injection hr with hr; subst hr
  have hc := h.cur
  refine h.setCur ⟨by simp [hc.len], fun i u c a b => ?_, by have := hc.loc; simp; omega, by have := hc.bd; simp; omega⟩
  rw [List.getElem?_dropLast] at a b
  split at a
  · split at b
    · exact hc.kind i u c a b
    · cases b
  · cases a
theorem argsM_ok {kd : Nat → Int} {m : Nat} {σ : PSt} (h : σ.Ok kd m) : ∀ (ps : List Vr) (ss : List ByteArray) (l : List Nat), argsM σ ps ss = .ok l → l.length = ps.length ∧ ∀ (i : Nat) (v : Vr) (c : Nat), ps[i]? = some v → l[i]? = some c → c < σ.cells.length ∧ v.k = kd c
  | [], _, l, hr => by simp [argsM] at hr; subst hr; exact ⟨rfl, fun i v c a b => by simp at a⟩
  | v :: ps, [], l, hr => by cases hr
  | v :: ps, s :: ss, l, hr => by
    unfold argsM at hr
    split at hr
    · cases hr
    rename_i i hi
    split at hr
    · cases hr
    rename_i hk
    split at hr
    · cases hr
    rename_i l' hl'
    injection hr with hr; subst hr
    obtain ⟨q1, q2⟩ := argsM_ok h ps ss l' hl'
    obtain ⟨u, c, lc, hu, hc, hcl, hkd, _⟩ := h.find hi
    refine ⟨by simp [q1], fun j u' c' a b => ?_⟩
    cases j with
    | zero =>
      simp at a b
      subst a
      rw [hc] at b; simp at b; subst b
      rw [List.getD_eq_getElem?_getD, hu] at hk
      simp at hk
      exact ⟨(List.getElem?_eq_some_iff.1 hcl).1, by rw [← hk.1]; exact hkd⟩
    | succ j => exact q2 j u' c' (by simpa using a) (by simpa using b)
theorem enterM_ok {kd : Nat → Int} {m : Nat} {σ σ' : PSt} (h : σ.Ok kd m) {ps : List Vr} {ss : List ByteArray} (hps : ps.length ≤ m) (hr : enterM ps ss σ = .ok σ') : σ'.Ok kd m := by
  unfold enterM at hr
  split at hr
  · cases hr
  split at hr
  · cases hr
  rename_i l hl
  split at hr
  · cases hr
  injection hr with hr; subst hr
  obtain ⟨q1, q2⟩ := argsM_ok h ps ss l hl
  refine ⟨h.base, fun f hf => ?_, h.one, h.inp, h.out, by simp; omega⟩
  rcases List.mem_append.1 hf with hf | hf
  · exact h.calls f hf
  · simp at hf; subst hf
    exact ⟨q1, q2, Nat.zero_le _, hps⟩
theorem leaveM_ok {kd : Nat → Int} {m : Nat} {σ σ' : PSt} (h : σ.Ok kd m) (hr : leaveM σ = .ok σ') : σ'.Ok kd m := by
  unfold leaveM at hr
  split at hr
  · cases hr
  injection hr with hr; subst hr
  exact ⟨h.base, fun f hf => h.calls f ((List.dropLast_sublist _).subset hf), h.one, h.inp, h.out, by have := h.nc; simp; omega⟩
end Bk
namespace Bk
open Go Go.RowKit
def Sq.len : Sq → Nat
  | .nil => 0
  | .upd _ _ _ r | .swp _ _ r | .stk _ _ _ r | .tap _ _ r | .cal _ _ _ r | .ifs _ _ _ _ r | .frm _ _ _ _ r | .loc _ _ _ _ r | .lst _ _ r => r.len + 1
def Sq.tl : Sq → Sq
  | .nil => .nil
  | .upd _ _ _ r | .swp _ _ r | .stk _ _ _ r | .tap _ _ r | .cal _ _ _ r | .ifs _ _ _ _ r | .frm _ _ _ _ r | .loc _ _ _ _ r | .lst _ _ r => r
def Sq.drop : Nat → Sq → Sq
  | 0, s => s
  | n + 1, s => Sq.drop n s.tl
def Sq.put : Sq → Sq → Sq
  | .nil, _ => .nil
  | .upd a b c _, r => .upd a b c r
  | .swp a b _, r => .swp a b r
  | .stk a b c _, r => .stk a b c r
  | .tap a b _, r => .tap a b r
  | .cal a b c _, r => .cal a b c r
  | .ifs a b c d _, r => .ifs a b c d r
  | .frm a b c d _, r => .frm a b c d r
  | .loc a b c d _, r => .loc a b c d r
  | .lst a b _, r => .lst a b r
theorem Sq.len_tl (s : Sq) : s.len = 0 ∨ s.len = s.tl.len + 1 := by cases s <;> simp [Sq.len, Sq.tl]
theorem Sq.drop_tl : ∀ (n : Nat) (s : Sq), (Sq.drop n s).tl = Sq.drop (n + 1) s
  | 0, s => rfl
  | n + 1, s => Sq.drop_tl n s.tl
theorem Sq.len_drop : ∀ (n : Nat) (s : Sq), (Sq.drop n s).len = s.len - n
  | 0, s => rfl
  | n + 1, s => by
    show (Sq.drop n s.tl).len = _
    rw [Sq.len_drop n s.tl]
    rcases s.len_tl with h | h
    · have : s.tl.len = 0 := by cases s <;> simp_all [Sq.len, Sq.tl]
      omega
    · omega
theorem Sq.nil_of_len {s : Sq} (h : s.len = 0) : s = .nil := by cases s <;> simp_all [Sq.len]
def headM (procs : List Pr) (n : Nat) (inner : Bool → Sq → Mo) (back : Bool) : Sq → Mo
  | .nil => okM
  | .upd op p e _ => basicM (updM (if back then invK op else op) p e)
  | .swp p q _ => basicM (swpM p q)
  | .stk op s p _ => basicM (stkM (if back then invK op else op) s p)
  | .tap op p _ => basicM (tapM (if back then invK op else op) p)
  | .cal op s ss _ => callM procs inner (back != decide (op = 51)) s ss
  | .ifs e a b e' _ => holdsM (if back then e' else e) fun t => (inner back (if t then a else b)).seq (assertM (if back then e else e') t)
  | .frm e a b e' _ => (assertM (if back then e' else e) true).seq (loopM (inner back a) (inner back b) (if back then e' else e) (if back then e else e') n)
  | .loc x e b e' _ => stepM.seq ((valueM (if back then e' else e) fun v => liftM (openM ⟨x, 1, 0⟩ [v])).seq ((inner back b).seq (stepM.seq (valueM (if back then e else e') fun v => liftM (closeM x v)))))
  | .lst x b _ => stepM.seq ((liftM (openM ⟨x, 3, 0⟩ [])).seq ((inner back b).seq (stepM.seq (liftM (closeM x 0)))))
theorem execS_eq (procs : List Pr) (n : Nat) (inner : Bool → Sq → Mo) (back : Bool) (s : Sq) (h : 0 < s.len) : execS procs n inner back s = put back (headM procs n inner back s) (execS procs n inner back s.tl) := by
  cases s <;> first | rfl | exact absurd h (Nat.lt_irrefl 0)
theorem Mo.ok_seq (a : Mo) : okM.seq a = a := rfl
theorem Mo.seq_ok (a : Mo) : a.seq okM = a := by
  funext σ f
  unfold Mo.seq okM
  cases a σ f <;> rfl
def backM (procs : List Pr) (n : Nat) (inner : Bool → Sq → Mo) (s : Sq) : Nat → Mo
  | 0 => okM
  | j + 1 => (headM procs n inner true (s.drop j)).seq (backM procs n inner s j)
theorem backM_tl (procs : List Pr) (n : Nat) (inner : Bool → Sq → Mo) (s : Sq) : ∀ j, backM procs n inner s (j + 1) = (backM procs n inner s.tl j).seq (headM procs n inner true s)
  | 0 => by simp only [backM, Sq.drop]; rw [Mo.seq_ok, Mo.ok_seq]
  | j + 1 => by
    rw [backM, backM_tl procs n inner s j, backM, Mo.seq_assoc]
    rfl
theorem execS_back (procs : List Pr) (n : Nat) (inner : Bool → Sq → Mo) : ∀ (k : Nat) (s : Sq), s.len = k → execS procs n inner true s = backM procs n inner s k
  | 0, s, h => by rw [Sq.nil_of_len h]; rfl
  | k + 1, s, h => by
    have h1 : s.tl.len = k := by rcases s.len_tl with h2 | h2 <;> omega
    rw [execS_eq _ _ _ _ _ (by omega), execS_back procs n inner k s.tl h1, backM_tl]
    rfl
def Ex.isPl : Ex → Prop
  | .var _ | .item _ _ => True
  | _ => False
open Go.Proofs.YtakfdnnlhjhcfaaGreatDoor in
def StAt (w : World) (B : Nat) : Nat → Sq → Nd → Prop
  | 0, _, _ => False
  | d + 1, s, x =>
    let BL := fun (s : Sq) (x : Nd) => x.k = 57 ∧ x.n = s.len ∧ ∀ i, i < s.len → ∃ y, Kid w B x i y ∧ StAt w B d (s.drop i) y
    match s with
    | .nil => False
    | .upd op p e _ => x.k = op ∧ (op = 40 ∨ op = 41 ∨ op = 42 ∨ op = 56) ∧ plainB x = true ∧ x.n = 2 ∧ p.isPl ∧ ∃ y z, Kid w B x 0 y ∧ Kid w B x 1 z ∧ EV w B nameB p y ∧ EV w B nameB e z
    | .swp p q _ => x.k = 43 ∧ plainB x = true ∧ x.n = 2 ∧ p.isPl ∧ q.isPl ∧ ∃ y z, Kid w B x 0 y ∧ Kid w B x 1 z ∧ EV w B nameB p y ∧ EV w B nameB q z
    | .stk op s p _ => x.k = op ∧ (op = 44 ∨ op = 45) ∧ x.num = 0 ∧ x.nm = s ∧ nameB s = true ∧ x.n = 1 ∧ p.isPl ∧ ∃ y, Kid w B x 0 y ∧ EV w B nameB p y
    | .tap op p _ => x.k = op ∧ (op = 46 ∨ op = 47 ∨ op = 48 ∨ op = 49) ∧ plainB x = true ∧ x.n = 1 ∧ p.isPl ∧ ∃ y, Kid w B x 0 y ∧ EV w B nameB p y
    | .cal op s args _ => x.k = op ∧ (op = 50 ∨ op = 51) ∧ x.nm = s ∧ nameB s = true ∧ x.n = args.length ∧ x.n ≤ 8 ∧ ∀ i a, args[i]? = some a → ∃ y, Kid w B x i y ∧ EV w B nameB (.var a) y
    | .ifs e a b e' _ => x.k = 52 ∧ x.n = 4 ∧ ∃ y0 y1 y2 y3, Kid w B x 0 y0 ∧ Kid w B x 1 y1 ∧ Kid w B x 2 y2 ∧ Kid w B x 3 y3 ∧ EV w B nameB e y0 ∧ BL a y1 ∧ BL b y2 ∧ EV w B nameB e' y3
    | .frm e a b e' _ => x.k = 53 ∧ x.n = 4 ∧ ∃ y0 y1 y2 y3, Kid w B x 0 y0 ∧ Kid w B x 1 y1 ∧ Kid w B x 2 y2 ∧ Kid w B x 3 y3 ∧ EV w B nameB e y0 ∧ BL a y1 ∧ BL b y2 ∧ EV w B nameB e' y3
    | .loc v e b e' _ => x.k = 54 ∧ x.nm = v ∧ x.n = 3 ∧ ∃ y0 y1 y2, Kid w B x 0 y0 ∧ Kid w B x 1 y1 ∧ Kid w B x 2 y2 ∧ EV w B nameB e y0 ∧ BL b y1 ∧ EV w B nameB e' y2
    | .lst v b _ => x.k = 55 ∧ x.nm = v ∧ x.n = 1 ∧ ∃ y0, Kid w B x 0 y0 ∧ BL b y0
def SqAt (w : World) (B d : Nat) (s : Sq) (x : Nd) : Prop := x.k = 57 ∧ x.n = s.len ∧ ∀ i, i < s.len → ∃ y, Kid w B x i y ∧ StAt w B d (s.drop i) y
theorem StAt.up {w : World} {B : Nat} : ∀ (d : Nat) (s : Sq) (x : Nd), StAt w B d s x → StAt w B (d + 1) s x
  | 0, _, _, h => h.elim
  | d + 1, s, x, h => by
    have up := fun (s : Sq) (y : Nd) (h : SqAt w B d s y) => (⟨h.1, h.2.1, fun i hi => let ⟨z, a, b⟩ := h.2.2 i hi; ⟨z, a, StAt.up d _ _ b⟩⟩ : SqAt w B (d + 1) s y)
    cases s with
    | ifs e a b e' r => obtain ⟨h1, h2, y0, y1, y2, y3, k0, k1, k2, k3, v0, v1, v2, v3⟩ := h; exact ⟨h1, h2, y0, y1, y2, y3, k0, k1, k2, k3, v0, up _ _ v1, up _ _ v2, v3⟩
    | frm e a b e' r => obtain ⟨h1, h2, y0, y1, y2, y3, k0, k1, k2, k3, v0, v1, v2, v3⟩ := h; exact ⟨h1, h2, y0, y1, y2, y3, k0, k1, k2, k3, v0, up _ _ v1, up _ _ v2, v3⟩
    | loc v e b e' r => obtain ⟨h1, h2, h3, y0, y1, y2, k0, k1, k2, v0, v1, v2⟩ := h; exact ⟨h1, h2, h3, y0, y1, y2, k0, k1, k2, v0, up _ _ v1, v2⟩
    | lst v b r => obtain ⟨h1, h2, h3, y0, k0, v0⟩ := h; exact ⟨h1, h2, h3, y0, k0, up _ _ v0⟩
    | _ => exact h
theorem SqAt.up {w : World} {B d : Nat} {s : Sq} {x : Nd} (h : SqAt w B d s x) : SqAt w B (d + 1) s x := ⟨h.1, h.2.1, fun i hi => let ⟨z, a, b⟩ := h.2.2 i hi; ⟨z, a, StAt.up _ _ _ b⟩⟩
theorem StAt.put {w : World} {B d : Nat} {s : Sq} {x : Nd} (h : StAt w B d s x) (r : Sq) : StAt w B d (s.put r) x := by
  cases d with
  | zero => exact h
  | succ d => cases s <;> exact h
theorem StAt.pos {w : World} {B d : Nat} {s : Sq} {x : Nd} (h : StAt w B d s x) : 0 < s.len := by
  cases d with
  | zero => exact h.elim
  | succ d => cases s <;> first | exact h.elim | exact Nat.succ_pos _
theorem Sq.put_len {s : Sq} (h : 0 < s.len) (r : Sq) : (s.put r).len = r.len + 1 ∧ (s.put r).tl = r := by
  cases s <;> first | exact absurd h (Nat.lt_irrefl 0) | exact ⟨rfl, rfl⟩
def mkSq (f : Nat → Sq) : Nat → Nat → Sq
  | _, 0 => .nil
  | i, k + 1 => (f i).put (mkSq f (i + 1) k)
theorem mkSq_len {f : Nat → Sq} : ∀ (k i : Nat), (∀ j, i ≤ j → j < i + k → 0 < (f j).len) → (mkSq f i k).len = k
  | 0, _, _ => rfl
  | k + 1, i, h => by
    rw [mkSq, (Sq.put_len (h i (Nat.le_refl _) (by omega)) _).1, mkSq_len k (i + 1) fun j h1 h2 => h j (by omega) (by omega)]
theorem mkSq_drop {f : Nat → Sq} : ∀ (j k i : Nat), j < k → (∀ m, i ≤ m → m < i + k → 0 < (f m).len) → (mkSq f i k).drop j = (f (i + j)).put (mkSq f (i + j + 1) (k - j - 1))
  | 0, k, i, hj, h => by
    obtain ⟨k, rfl⟩ : ∃ k', k = k' + 1 := ⟨k - 1, by omega⟩
    rfl
  | j + 1, k, i, hj, h => by
    obtain ⟨k, rfl⟩ : ∃ k', k = k' + 1 := ⟨k - 1, by omega⟩
    show Sq.drop j (mkSq f i (k + 1)).tl = _
    rw [mkSq, (Sq.put_len (h i (Nat.le_refl _) (by omega)) _).2, mkSq_drop j k (i + 1) (by omega) fun m h1 h2 => h m (by omega) (by omega)]
    rw [show i + 1 + j = i + (j + 1) by omega, show k - j - 1 = k + 1 - (j + 1) - 1 by omega]
theorem sq_of {w : World} {B d : Nat} {x : Nd} (hk : x.k = 57) (h : ∀ i, i < x.n → ∃ y s, Kid w B x i y ∧ StAt w B d s y) : ∃ s, SqAt w B d s x := by
  have hc : ∀ i, ∃ s : Sq, i < x.n → ∃ y, Kid w B x i y ∧ StAt w B d s y := fun i => by
    by_cases hi : i < x.n
    · obtain ⟨y, s, h1, h2⟩ := h i hi; exact ⟨s, fun _ => ⟨y, h1, h2⟩⟩
    · exact ⟨.nil, fun h => absurd h hi⟩
  obtain ⟨f, hf⟩ : ∃ f : Nat → Sq, ∀ i, i < x.n → ∃ y, Kid w B x i y ∧ StAt w B d (f i) y := ⟨fun i => Classical.choose (hc i), fun i => Classical.choose_spec (hc i)⟩
  have hp : ∀ m, 0 ≤ m → m < 0 + x.n → 0 < (f m).len := fun m _ hm => by obtain ⟨y, _, h2⟩ := hf m (by omega); exact h2.pos
  refine ⟨mkSq f 0 x.n, hk, (mkSq_len x.n 0 hp).symm, fun i hi => ?_⟩
  rw [mkSq_len x.n 0 hp] at hi
  obtain ⟨y, h1, h2⟩ := hf i hi
  refine ⟨y, h1, ?_⟩
  rw [mkSq_drop i x.n 0 hi hp, Nat.zero_add]
  exact h2.put _
open Go.Proofs.YtakfdnnlhjhcfaaGreatDoor
theorem exB_ev {w : World} {B : Nat} {x : Nd} (h : exB w B x = true) : ∃ e, EV w B nameB e x := by simp [exB] at h; exact h
theorem plB_ev {w : World} {B : Nat} {x : Nd} (h : plB w B x = true) : ∃ e, EV w B nameB e x ∧ e.isPl := by
  unfold plB at h
  simp only [Bool.and_eq_true, Bool.or_eq_true, decide_eq_true_eq] at h
  obtain ⟨hk, h2⟩ := h
  obtain ⟨e, he⟩ := exB_ev h2
  refine ⟨e, he, ?_⟩
  cases e with
  | var s => trivial
  | item s a => trivial
  | num v => have := he.1; omega
  | top s => have := he.1; omega
  | size s => have := he.1; omega
  | un op a => have h3 := he.1; have h4 := he.2.1; omega
  | bin op a b => have h3 := he.1; have h4 := he.2.1; omega
theorem varB_ev {w : World} {B : Nat} {x : Nd} (h : varB w B x = true) : EV w B nameB (.var x.nm) x := by
  unfold varB at h
  simp only [Bool.and_eq_true, decide_eq_true_eq] at h
  obtain ⟨hk, h2⟩ := h
  obtain ⟨e, he⟩ := exB_ev h2
  cases e with
  | var s => obtain ⟨h3, h4, h5, h6, h7⟩ := he; exact ⟨h3, h4, rfl, by rw [h5]; exact h6, h7⟩
  | num v => have := he.1; omega
  | item s a => have := he.1; omega
  | top s => have := he.1; omega
  | size s => have := he.1; omega
  | un op a => have h3 := he.1; have h4 := he.2.1; omega
  | bin op a b => have h3 := he.1; have h4 := he.2.1; omega
theorem allTo_all {r : Nat → Bool} : ∀ {n : Nat}, allTo r n = true → ∀ i, i < n → r i = true
  | 0, _, i, hi => absurd hi (Nat.not_lt_zero _)
  | n + 1, h, i, hi => by
    simp only [allTo, Bool.and_eq_true] at h
    rcases Nat.lt_succ_iff_lt_or_eq.1 hi with h1 | rfl
    · exact allTo_all h.1 i h1
    · exact h.2
theorem allTo_of {r : Nat → Bool} : ∀ {n : Nat}, (∀ i, i < n → r i = true) → allTo r n = true
  | 0, _ => rfl
  | n + 1, h => by simp only [allTo, Bool.and_eq_true]; exact ⟨allTo_of fun i hi => h i (by omega), h n (by omega)⟩
mutual
theorem st_of {w : World} {B : Nat} : ∀ (d : Nat) (x : Nd), KV w B d x → stB w B d x = true → ∃ s, StAt w B d s x
  | 0, _, h, _ => h.elim
  | d + 1, x, hv, h => by
    unfold stB at h
    have K : ∀ i, i < x.n → Kid w B x i (kidN w B x i) ∧ KV w B d (kidN w B x i) := fun i hi => kidN_kid hv hi
    dsimp only at h
    split at h
    · rename_i hk
      simp only [Bool.and_eq_true, decide_eq_true_eq] at h
      obtain ⟨hp, hn, ha⟩ := h
      have a0 := allTo_all ha 0 (by omega); have a1 := allTo_all ha 1 (by omega)
      simp at a0 a1
      obtain ⟨p, h1, h2⟩ := plB_ev a0; obtain ⟨e, h3⟩ := exB_ev a1
      exact ⟨.upd x.k p e .nil, rfl, hk, hp, hn, h2, _, _, (K 0 (by omega)).1, (K 1 (by omega)).1, h1, h3⟩
    split at h
    · rename_i hk
      simp only [Bool.and_eq_true, decide_eq_true_eq] at h
      obtain ⟨hp, hn, ha⟩ := h
      obtain ⟨p, h1, h2⟩ := plB_ev (allTo_all ha 0 (by omega)); obtain ⟨q, h3, h4⟩ := plB_ev (allTo_all ha 1 (by omega))
      exact ⟨.swp p q .nil, hk, hp, hn, h2, h4, _, _, (K 0 (by omega)).1, (K 1 (by omega)).1, h1, h3⟩
    split at h
    · rename_i hk
      simp only [Bool.and_eq_true, decide_eq_true_eq, namedB] at h
      obtain ⟨⟨hp1, hp2⟩, hn, ha⟩ := h
      obtain ⟨p, h1, h2⟩ := plB_ev (allTo_all ha 0 (by omega))
      exact ⟨.stk x.k x.nm p .nil, rfl, hk, hp1, rfl, hp2, hn, h2, _, (K 0 (by omega)).1, h1⟩
    split at h
    · rename_i hk
      simp only [Bool.and_eq_true, decide_eq_true_eq] at h
      obtain ⟨hp, hn, ha⟩ := h
      obtain ⟨p, h1, h2⟩ := plB_ev (allTo_all ha 0 (by omega))
      exact ⟨.tap x.k p .nil, rfl, hk, hp, hn, h2, _, (K 0 (by omega)).1, h1⟩
    split at h
    · rename_i hk
      simp only [Bool.and_eq_true, decide_eq_true_eq, namedB] at h
      obtain ⟨⟨hp1, hp2⟩, hn, ha⟩ := h
      refine ⟨.cal x.k x.nm ((List.range x.n).map fun i => (kidN w B x i).nm) .nil, rfl, hk, rfl, hp2, by simp, hn, fun i a ha' => ?_⟩
      have hi : i < x.n := by have := (List.getElem?_eq_some_iff.1 ha').1; simpa using this
      simp [List.getElem?_range hi] at ha'
      subst ha'
      exact ⟨_, (K i hi).1, varB_ev (allTo_all ha i hi)⟩
    split at h
    · rename_i hk
      simp only [Bool.and_eq_true, decide_eq_true_eq] at h
      obtain ⟨hp, hn, ha⟩ := h
      have a0 := allTo_all ha 0 (by omega); have a1 := allTo_all ha 1 (by omega); have a2 := allTo_all ha 2 (by omega); have a3 := allTo_all ha 3 (by omega)
      simp at a0 a1 a2 a3
      obtain ⟨e, h1⟩ := exB_ev a0; obtain ⟨e', h2⟩ := exB_ev a3
      obtain ⟨s1, h3⟩ := bl_of d _ (K 1 (by omega)).2 a1; obtain ⟨s2, h4⟩ := bl_of d _ (K 2 (by omega)).2 a2
      rcases hk with hk | hk
      · exact ⟨.ifs e s1 s2 e' .nil, hk, hn, _, _, _, _, (K 0 (by omega)).1, (K 1 (by omega)).1, (K 2 (by omega)).1, (K 3 (by omega)).1, h1, h3, h4, h2⟩
      · exact ⟨.frm e s1 s2 e' .nil, hk, hn, _, _, _, _, (K 0 (by omega)).1, (K 1 (by omega)).1, (K 2 (by omega)).1, (K 3 (by omega)).1, h1, h3, h4, h2⟩
    split at h
    · rename_i hk
      simp only [Bool.and_eq_true, decide_eq_true_eq] at h
      obtain ⟨hp, hn, ha⟩ := h
      have a0 := allTo_all ha 0 (by omega); have a1 := allTo_all ha 1 (by omega); have a2 := allTo_all ha 2 (by omega)
      simp at a0 a1 a2
      obtain ⟨e, h1⟩ := exB_ev a0; obtain ⟨e', h2⟩ := exB_ev a2
      obtain ⟨s1, h3⟩ := bl_of d _ (K 1 (by omega)).2 a1
      exact ⟨.loc x.nm e s1 e' .nil, hk, rfl, hn, _, _, _, (K 0 (by omega)).1, (K 1 (by omega)).1, (K 2 (by omega)).1, h1, h3, h2⟩
    split at h
    · rename_i hk
      simp only [Bool.and_eq_true, decide_eq_true_eq] at h
      obtain ⟨hp, hn, ha⟩ := h
      obtain ⟨s1, h3⟩ := bl_of d _ (K 0 (by omega)).2 (allTo_all ha 0 (by omega))
      exact ⟨.lst x.nm s1 .nil, hk, rfl, hn, _, (K 0 (by omega)).1, h3⟩
    · cases h
theorem bl_of {w : World} {B : Nat} : ∀ (d : Nat) (x : Nd), KV w B d x → blB w B d x = true → ∃ s, SqAt w B d s x
  | 0, _, h, _ => h.elim
  | d + 1, x, hv, h => by
    unfold blB at h
    simp only [Bool.and_eq_true, decide_eq_true_eq] at h
    obtain ⟨hk, _, ha⟩ := h
    obtain ⟨s, h1, h2, h3⟩ := sq_of (d := d) hk fun i hi => by
      obtain ⟨h1, h2⟩ := kidN_kid hv hi
      obtain ⟨s, h3⟩ := st_of d _ h2 (allTo_all ha i hi)
      exact ⟨_, s, h1, h3⟩
    refine ⟨s, h1, h2, fun i hi => ?_⟩
    obtain ⟨y, h4, h5⟩ := h3 i hi
    exact ⟨y, h4, StAt.up _ _ _ h5⟩
end
end Bk
