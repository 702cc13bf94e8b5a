/- Several texts in one: BaseO Base Grow Lex. -/
import Derived.WalkKit
import Derived.WalkSpells
import Derived.WalkLawsBesides
import Derived.Lib.Hide
import Derived.Handy
import Derived.Deep.QuietTactic
import Derived.BigQuiet
import Derived.StillTailTactics
import Derived.Deep.DeepCutAuto
import Derived.Deep.RegionWith
import Derived.Deep.RegionHeld3
import Derived.Deep.OwnRows
import Derived.WalkSmall
import Derived.Laws.MakeOwn
import Derived.Deep.AppendLies
import Derived.Maps.AppendAt
set_option linter.unusedVariables false
set_option linter.unusedSimpArgs false
/- General lemmas on worlds, with the few imports that the instruction set's walks bear. -/
namespace Bk
open Go Go.RowKit

theorem bcell {W w1 : World} {B : Nat} (hb : Below B W w1) : (∀ b o, b < B → w1.cell? ⟨b, o, none⟩ = W.cell? ⟨b, o, none⟩) ∧ (∀ b o, b < B → w1.frozen? ⟨b, o, none⟩ = W.frozen? ⟨b, o, none⟩) :=
  ⟨fun b o h => hb.cell (p := ⟨b, o, none⟩) h, fun b o h => hb.frozen (p := ⟨b, o, none⟩) h⟩

theorem ret_int {k : IntKind} {a b : Int} (h : a = b) : Ending.returned (.int k a) = .returned (.int k b) := by rw [h]
theorem ret_bool {a b : Bool} (h : a = b) : Ending.returned (.bool a) = .returned (.bool b) := by rw [h]

end Bk

/- General lemmas on worlds: what a call leaves alone. -/
namespace Bk
open Go Go.RowKit

theorem run_make_rowN {P : Program} (t e : TypeId) (i : TypeInfo) (z : Value) (ht : P.underlying t = some (.slice e)) (hi : P.info? e = some i) (hz : i.zero = some z)
    (kl kc : IntKind) (n c : Nat) (hnc : n ≤ c) (hbytes : i.bytes * c ≤ 281474976710656) (h63 : c ≤ 9223372036854775807) (w : World) :
    (Instr.makeSlice t (.int kl (n : Int)) (.int kc (c : Int))).run P w = .ok (.slice (some ⟨w.heap.size, 0, none⟩) n c) (w.alloc (.cells (madeCells z.cells (c * i.size)) e)) := by
  have hb : (i.bytes : Int) * (c : Int) ≤ 281474976710656 := by
    have h : ((i.bytes * c : Nat) : Int) ≤ 281474976710656 := by omega
    rwa [Int.natCast_mul] at h
  have hr := run_make (P := P) w t e i z ht hi hz kl kc n c (by omega) (by omega) hb (by omega)
  simp only [Int.toNat_natCast] at hr
  exact hr

theorem rowIs_below {w w' : World} {B b : Nat} {t : TypeId} {n : Nat} {f : Nat → Value} (h : w.rowIs b t n f) (hb : Below B w w') (hB : b < B) : w'.rowIs b t n f := h.of_block (hb.block b hB)
theorem rowIs_drewN {w : World} {b : Nat} {t : TypeId} {n : Nat} {f : Nat → Value} (h : w.rowIs b t n f) (k : Nat) : (w.drewN k).rowIs b t n f := h
theorem rowIs_ne {w : World} {b b' : Nat} {t t' : TypeId} {n n' : Nat} {f f' : Nat → Value} (h : w.rowIs b t n f) (h' : w.rowIs b' t' n' f') (hne : t ≠ t') : b ≠ b' := by
  rintro rfl
  obtain ⟨c, hc, _⟩ := h
  obtain ⟨c', hc', _⟩ := h'
  rw [hc] at hc'; injection hc' with e; injection e with _ e2; exact hne e2
theorem rowIs_own {w : World} {b : Nat} {t : TypeId} {n : Nat} {f : Nat → Value} (h : w.rowIs b t n f) {base : Nat} {e : TypeId} {size m : Nat} {v : Value} {xs : List Value} (ho : w.ownsRow base e size v m xs) (hne : e ≠ t) : some b ≠ v.ownBlock := by
  obtain ⟨c, hc, _⟩ := h
  rcases ho.2 with ⟨rfl, _⟩ | ⟨g', cap, cur, rfl, _, hh, _⟩
  · simp [Value.ownBlock]
  · intro he
    have : b = g' := by simpa [Value.ownBlock] using he
    subst this
    rw [hc] at hh; injection hh with e; injection e with _ e2; exact hne e2.symm
theorem rowIs_grown {w w' : World} {b : Nat} {t : TypeId} {n : Nat} {f : Nat → Value} (h : w.rowIs b t n f) {row : Option Nat} (hg : w.grownBy w' row) (hne : some b ≠ row) : w'.rowIs b t n f :=
  h.of_block (hg.block b h.lt hne)

def sliceLen : Value → Nat | .slice _ n _ => n | _ => 0

/-- An owned row of at least one element: its form and its cells. -/
theorem own_some {w : World} {base : Nat} {e : TypeId} {size n : Nat} {v : Value} {xs : List Value} (h : w.ownsRow base e size v n xs) (hn : 0 < n) :
    ∃ g cap, v = .slice (some ⟨g, 0, none⟩) n cap ∧ base ≤ g ∧ g < w.heap.size ∧ n ≤ cap ∧ cap ≤ maxLen ∧ ∀ j u, xs[j]? = some u → w.cell? ⟨g, j, none⟩ = some u := by
  obtain ⟨hl, h2⟩ := h
  rcases h2 with ⟨rfl, h0⟩ | ⟨g, cap, cur, rfl, hg, hh, hnc, hcap, hsz, htake⟩
  · omega
  · refine ⟨g, cap, rfl, hg, ?_, hnc, hcap, fun j u hu => ?_⟩
    · rcases Nat.lt_or_ge g w.heap.size with hlt | hge
      · exact hlt
      · rw [Array.getElem?_eq_none hge] at hh; cases hh
    · rw [← htake, List.getElem?_take] at hu
      split at hu
      · simp only [World.cell?, hh]
        simpa using hu
      · cases hu

theorem own_of_block {w w' : World} {base : Nat} {e : TypeId} {size n : Nat} {v : Value} {xs : List Value} (h : w.ownsRow base e size v n xs)
    (hb : ∀ g, g < w.heap.size → v.ownBlock = some g → w'.heap[g]? = w.heap[g]?) : w'.ownsRow base e size v n xs := by
  refine ⟨h.1, ?_⟩
  rcases h.2 with h0 | ⟨g, cap, cur, rfl, hg, hh, r⟩
  · exact .inl h0
  · refine .inr ⟨g, cap, cur, rfl, hg, ?_, r⟩
    rw [hb g ?_ rfl]
    · exact hh
    · rcases Nat.lt_or_ge g w.heap.size with hlt | hge
      · exact hlt
      · rw [Array.getElem?_eq_none hge] at hh; cases hh
theorem own_below {w w' : World} {base B : Nat} {e : TypeId} {size n : Nat} {v : Value} {xs : List Value} (h : w.ownsRow base e size v n xs) (hb : Below B w w') (hB : w.heap.size ≤ B) : w'.ownsRow base e size v n xs :=
  own_of_block h fun g hg _ => hb.block g (by omega)
theorem own_setCell {w : World} {base b o : Nat} {u : Value} {e : TypeId} {size n : Nat} {v : Value} {xs : List Value} (h : w.ownsRow base e size v n xs) (hb : b < base) : (w.setCell ⟨b, o, none⟩ u).ownsRow base e size v n xs :=
  ownsRow_setCell_below h hb u

theorem own_block_ge {w : World} {base : Nat} {e : TypeId} {size n : Nat} {v : Value} {xs : List Value} (h : w.ownsRow base e size v n xs) {k : Nat} (hk : v.ownBlock = some k) : base ≤ k := by
  rcases h.2 with ⟨rfl, _⟩ | ⟨g, cap, cur, rfl, hg, _⟩
  · cases hk
  · injection hk with hk; subst hk; exact hg
theorem below_grown {w w' : World} {B : Nat} {row : Option Nat} (hg : w.grownBy w' row) (hB : B ≤ w.heap.size) (hr : ∀ k, row = some k → B ≤ k) : Below B w w' := (Below.refl B w).grown hg hB hr

theorem own_drewN {w : World} {base : Nat} {e : TypeId} {size n : Nat} {v : Value} {xs : List Value} (h : w.ownsRow base e size v n xs) (k : Nat) : (w.drewN k).ownsRow base e size v n xs := h
theorem own_drew {w : World} {base : Nat} {e : TypeId} {size n : Nat} {v : Value} {xs : List Value} (h : w.ownsRow base e size v n xs) : w.drew.ownsRow base e size v n xs := h
theorem cell_one {w : World} {g : Nat} {v : Value} (h : w.cell? ⟨g, 0, none⟩ = some v) : ∀ j u, [v][j]? = some u → w.cell? ((⟨g, 0, none⟩ : Addr).add j) = some u := by
  intro j u hj
  match j, hj with
  | 0, hj => simp at hj; subst hj; simpa [Addr.add] using h
  | j + 1, hj => simp at hj

/-- Block g is just the cells cs of element type t, none frozen. -/
def Blk (w : World) (g : Nat) (t : TypeId) (cs : Array Value) : Prop := w.heap[g]? = some (.cells cs t (0, 0))
section
variable {w w' : World} {g : Nat} {t : TypeId} {cs : Array Value}
theorem Blk.lt (h : Blk w g t cs) : g < w.heap.size := by
  rcases Nat.lt_or_ge g w.heap.size with hlt | hge
  · exact hlt
  · unfold Blk at h; rw [Array.getElem?_eq_none hge] at h; cases h
theorem Blk.cell (h : Blk w g t cs) (i : Nat) : w.cell? ⟨g, i, none⟩ = cs[i]? := cell_of_row w g i cs t (0, 0) h
theorem Blk.frozen (h : Blk w g t cs) (i : Nat) : w.frozen? ⟨g, i, none⟩ = false := by
  unfold Blk at h
  simp [World.frozen?, h]
theorem Blk.new (w : World) (t : TypeId) (cs : Array Value) : Blk (w.alloc (.cells cs t)) w.heap.size t cs := heap_alloc_new w _
theorem Blk.new' {w : World} {g : Nat} (hg : g = w.heap.size) (t : TypeId) (cs : Array Value) : Blk (w.alloc (.cells cs t)) g t cs := by subst hg; exact heap_alloc_new w _
theorem Blk.drew (h : Blk w g t cs) : Blk w.drew g t cs := h
theorem Blk.drewN (h : Blk w g t cs) (n : Nat) : Blk (w.drewN n) g t cs := h
theorem Blk.alloc (h : Blk w g t cs) (o : Obj) : Blk (w.alloc o) g t cs := (Below.heap_alloc w o g h.lt).trans h
theorem Blk.set_ (h : Blk w g t cs) (i : Nat) (u : Value) : Blk (w.setCell ⟨g, i, none⟩ u) g t (cs.setIfInBounds i u) := by
  unfold Blk at h ⊢
  simp [World.setCell, Array.getElem?_modify, h]
theorem Blk.far (h : Blk w g t cs) {p : Addr} (hp : g ≠ p.block) (u : Value) : Blk (w.setCell p u) g t cs := (Below.heap_setCell w p u g hp).trans h
theorem Blk.below {B : Nat} (h : Blk w g t cs) (hb : Below B w w') (hg : g < B) : Blk w' g t cs := (hb.block g hg).trans h
theorem Blk.next (h : Blk w g t cs) (hb : Below w.heap.size w w') : Blk w' g t cs := h.below hb h.lt
theorem Blk.grown {row : Option Nat} (h : Blk w g t cs) (hb : w.grownBy w' row) (hg : some g ≠ row) : Blk w' g t cs := (hb.block g h.lt hg).trans h
theorem Blk.open_ (h : Blk w g t cs) : g < w.heap.size ∧ (∀ i, w.cell? ⟨g, i, none⟩ = cs[i]?) ∧ (∀ i, w.frozen? ⟨g, i, none⟩ = false) := ⟨h.lt, h.cell, h.frozen⟩
theorem Blk.ne_ {g' : Nat} {t' : TypeId} {cs' : Array Value} (h : Blk w g t cs) (h' : Blk w g' t' cs') (hne : t ≠ t') : g ≠ g' := by
  rintro rfl
  unfold Blk at h h'
  rw [h] at h'
  injection h' with h'
  injection h' with _ ht
  exact hne ht
theorem own_blk_ne {base : Nat} {e : TypeId} {size n : Nat} {v : Value} {xs : List Value} (h : w.ownsRow base e size v n xs) (hg : Blk w g t cs) (hne : e ≠ t) : some g ≠ v.ownBlock := by
  rcases h.2 with ⟨rfl, _⟩ | ⟨g', cap, cur, rfl, _, hh, _⟩
  · simp [Value.ownBlock]
  · intro he
    have : g' = g := by simpa [Value.ownBlock] using he.symm
    subst this
    exact Blk.ne_ (t := e) hh hg hne rfl
theorem row_blk_ne {b : Nat} {t' : TypeId} {n : Nat} {f : Nat → Value} (h : w.rowIs b t' n f) (hg : Blk w g t cs) (hne : t' ≠ t) : b ≠ g := by
  rintro rfl
  obtain ⟨c, hc, _⟩ := h
  unfold Blk at hg
  rw [hc] at hg; injection hg with e; injection e with _ e2; exact hne e2
end

theorem own_form {w : World} {base : Nat} {e : TypeId} {size n : Nat} {v : Value} {xs : List Value} (h : w.ownsRow base e size v n xs) : ∃ A cap, v = .slice A n cap := by
  rcases h.2 with ⟨rfl, rfl⟩ | ⟨g, cap, cur, rfl, _⟩
  · exact ⟨_, _, rfl⟩
  · exact ⟨_, _, rfl⟩
theorem cells_new (w : World) (cs : Array Value) (t : TypeId) : ∀ j u, cs.toList[j]? = some u → (w.alloc (.cells cs t)).cell? ((⟨w.heap.size, 0, none⟩ : Addr).add j) = some u := by
  intro j u hj
  have h := (Blk.new w t cs).cell j
  have e : ((⟨w.heap.size, 0, none⟩ : Addr).add j) = ⟨w.heap.size, j, none⟩ := by
    unfold Addr.add; split
    · subst_vars; rfl
    · simp
  rw [e, h]
  simpa using hj

theorem cells_new' (w : World) (cs : Array Value) (t : TypeId) {g : Nat} (hg : g = w.heap.size) : ∀ j u, cs.toList[j]? = some u → (w.alloc (.cells cs t)).cell? ((⟨g, 0, none⟩ : Addr).add j) = some u := by
  subst hg; exact cells_new w cs t

theorem drewN_ {B : Nat} {a w : World} (h : Below B a w) (n : Nat) : Below B a (w.drewN n) := ⟨h.os, h.tape, h.output, h.size, h.block⟩
theorem PU {α : Type} : (∀ (l : List α) (i : Nat) (h : i < l.toArray.size), l.toArray[i]'h = l[i]'(by simpa using h)) ∧ (∀ (a : α) (l : List α) (h : 0 < (a :: l).length), (a :: l)[0]'h = a) ∧ (∀ (a : α) (l : List α) (i : Nat) (h : i + 1 < (a :: l).length), (a :: l)[i + 1]'h = l[i]'(Nat.lt_of_succ_lt_succ h)) ∧
    (∀ (l : List α) (i : Nat) (a : α), l.toArray.setIfInBounds i a = (l.set i a).toArray) ∧ (∀ (a b : α) (l : List α), (a :: l).set 0 b = b :: l) ∧ (∀ (a b : α) (l : List α) (i : Nat), (a :: l).set (i + 1) b = a :: l.set i b) :=
  ⟨fun _ _ _ => List.getElem_toArray _, fun _ _ _ => rfl, fun _ _ _ _ => rfl, fun _ _ _ => List.setIfInBounds_toArray .., fun _ _ _ => rfl, fun _ _ _ _ => rfl⟩

theorem _root_.Go.RowKit.Below.next {w0 w1 w2 : World} (h : Below w0.heap.size w0 w1) (h' : Below w1.heap.size w1 w2) : Below w0.heap.size w0 w2 :=
  h.trans (h'.mono h.size)

/-- A slice value '.slice A n _' reads as the cells xs (size cells an element); its block, if it has one, is in D. -/
def Rd (w : World) (D : Nat → Prop) (size : Nat) (A : Option Addr) (n : Nat) (xs : List Value) : Prop :=
  xs.length = n * size ∧ (0 < n → ∃ b off, A = some ⟨b, off, none⟩ ∧ D b ∧ ∀ j u, xs[j]? = some u → w.cell? ⟨b, off + j, none⟩ = some u)

section
variable {w w' : World} {D D' : Nat → Prop} {size n : Nat} {A : Option Addr} {xs : List Value}
theorem Rd.none_ (A : Option Addr) : Rd w D size A 0 [] := ⟨by simp, fun h => absurd h (by omega)⟩
theorem Rd.mono (h : Rd w D size A n xs) (hD : ∀ k, D k → D' k) : Rd w D' size A n xs :=
  ⟨h.1, fun hn => by obtain ⟨b, off, e, hb, hc⟩ := h.2 hn; exact ⟨b, off, e, hD _ hb, hc⟩⟩
theorem Rd.keep (h : Rd w D size A n xs) (hk : ∀ b o, D b → w'.cell? ⟨b, o, none⟩ = w.cell? ⟨b, o, none⟩) : Rd w' D size A n xs :=
  ⟨h.1, fun hn => by obtain ⟨b, off, e, hb, hc⟩ := h.2 hn; exact ⟨b, off, e, hb, fun j u hu => (hk _ _ hb).trans (hc j u hu)⟩⟩
theorem Rd.next (h : Rd w (· < w.heap.size) size A n xs) (hb : Below w.heap.size w w') : Rd w' (· < w'.heap.size) size A n xs :=
  (h.keep fun b o hd => hb.cell (p := ⟨b, o, none⟩) hd).mono fun _ hk => Nat.lt_of_lt_of_le hk hb.size
theorem Rd.at1 {b off k : Nat} (h : Rd w D 1 (some ⟨b, off, none⟩) n xs) {u : Value} (hk : xs[k]? = some u) : w.cell? ⟨b, off + k, none⟩ = some u := by
  have hl : k < xs.length := by
    rcases Nat.lt_or_ge k xs.length with hlt | hge
    · exact hlt
    · rw [List.getElem?_eq_none hge] at hk; cases hk
  obtain ⟨b', off', e, _, hc⟩ := h.2 (by have := h.1; omega)
  injection e with e; injection e with e1 e2; subst e1; subst e2
  exact hc k u hk
theorem Rd.blk {b off : Nat} (h : Rd w D size (some ⟨b, off, none⟩) n xs) (hn : 0 < n) : D b := by
  obtain ⟨b', off', e, hd, _⟩ := h.2 hn
  injection e with e; injection e with e1 e2; subst e1; exact hd
theorem Rd.below {B : Nat} (h : Rd w D size A n xs) (hb : Below B w w') (hD : ∀ k, D k → k < B) : Rd w' D size A n xs :=
  h.keep fun b o hd => hb.cell (p := ⟨b, o, none⟩) (hD _ hd)
end

theorem Rd.of_own {w : World} {base : Nat} {e : TypeId} {size n c : Nat} {A : Option Addr} {xs : List Value} (h : w.ownsRow base e size (.slice A n c) n xs) : Rd w (fun b => base ≤ b ∧ b < w.heap.size) size A n xs := by
  refine ⟨h.1, fun hn => ?_⟩
  obtain ⟨g, cap, hv, hg, hlt, _, _, hc⟩ := own_some h hn
  injection hv with hA
  exact ⟨g, 0, hA, ⟨hg, hlt⟩, fun j u hu => by rw [Nat.zero_add]; exact hc j u hu⟩

end Bk

/- A region that draws its order, whose operations read what was there and whose callees only add memory: one walk of the text's order serves. -/
set_option linter.unusedVariables false
namespace Bk
open Go Go.RowKit

/-- A world that has grown out of w: whatever w held is as it was. -/
structure Grw (w : World) where
  out : World
  below : Below w.heap.size w out
def grow (w : World) (z : Grw w) : World := z.out
theorem grow_below (w : World) (z : Grw w) : Below w.heap.size w (grow w z) := z.below
theorem cell_grow {W w : World} (hW : W = w) {b o : Nat} {v : Value} (hb : b < w.heap.size) (hc : w.cell? ⟨b, o, none⟩ = some v) : ∀ z, (grow W z).cell? ⟨b, o, none⟩ = some v :=
  fun z => by subst hW; exact (z.below.cell (p := ⟨b, o, none⟩) hb).trans hc

section
variable {P : Program} {f : FuncId} {args : Array Value} {w : World} {z : Grw w} {v : Value}
theorem quiet_grow (h : Calls P f args (grow w z) fun e w' => e = .returned v ∧ Below (grow w z).heap.size (grow w z) w') : Calls P f args (grow w z) fun e w'' => e = .returned v ∧ ∃ z' : Grw w, w'' = grow w z' :=
  h.mono fun _ w' ⟨he, hb⟩ => ⟨he, ⟨w', z.below.next hb⟩, rfl⟩
theorem quiet_grow_same (h : Calls P f args (grow w z) fun e w' => e = .returned v ∧ grow w z = w') : Calls P f args (grow w z) fun e w'' => e = .returned v ∧ ∃ z' : Grw w, w'' = grow w z' :=
  h.mono fun _ w' ⟨he, hb⟩ => ⟨he, z, hb.symm⟩
end

theorem wp_region_grow {P : Program} {id : Nat} {Q : Exit → Act → World → Prop} {a : Act} {w : World} {l : List Oper} (hm : P.follows .mixedOrders = true) (hB : Region.lexB .any l.toArray = true)
    (h : ∀ W, W = w → wpQuiet P l.toArray (fun w' => ∃ z : Grw W, w' = grow W z) (fun a' => ∀ w', (∃ z : Grw W, w' = grow W z) → Q .normal a' w') l a) : (Code.region id l.toArray true).wp P Q a w :=
  wp_region_quiet (C := fun w' => ∃ z : Grw w, w' = grow w z) hm hB ⟨⟨{ w with drawn := w.drawn + 1 }, (Below.refl _ _).drew⟩, rfl⟩ (by simpa using h w rfl)
end Bk

/- A quick check, by numbers, that a region's text order serves every order. -/
set_option linter.unusedVariables false
namespace Bk
open Go Go.RowKit
def dmask (o : Oper) : Nat := match o.dst with | some d => 2 ^ d | none => 0
def lmask (ops : Array Oper) (o : Oper) : Nat := (o.looksAt ops).foldr (fun t m => 2 ^ t ||| m) 0
def wmask (o : Oper) : Nat := o.after.toList.foldr (fun e m => if Region.binds .any e then 2 ^ e.on ||| m else m) 0
def fineAt (k dx lx : Nat) (ops : Array Oper) : List Oper → Bool
  | [] => true
  | y :: l => ((wmask y).testBit k || ((dx &&& (lmask ops y ||| dmask y)) == 0 && (dmask y &&& lx) == 0)) && fineAt k dx lx ops l
def fine (ops : Array Oper) : Nat → List Oper → Bool
  | _, [] => true
  | k, o :: l => Nat.blt (wmask o) (2 ^ k) && fineAt k (dmask o) (lmask ops o) ops l && fine ops (k + 1) l

theorem lmask_mem {ops : Array Oper} {o : Oper} {t : Nat} (h : t ∈ o.looksAt ops) : (lmask ops o).testBit t = true := by
  unfold lmask
  revert h
  generalize o.looksAt ops = l
  induction l with
  | nil => intro h; cases h
  | cons a l ih =>
    intro h
    rw [List.foldr_cons, Nat.testBit_or]
    rcases List.mem_cons.1 h with rfl | h
    · simp [Nat.testBit_two_pow_self]
    · rw [ih h, Bool.or_true]
theorem wmask_mem {o : Oper} {t : Nat} : (wmask o).testBit t = true ↔ ∃ e ∈ o.after, Region.binds .any e = true ∧ e.on = t := by
  unfold wmask
  simp only [← Array.mem_toList_iff]
  generalize o.after.toList = l
  induction l with
  | nil => simp
  | cons a l ih =>
    rw [List.foldr_cons]
    by_cases hb : Region.binds .any a = true
    · rw [if_pos hb, Nat.testBit_or, Bool.or_eq_true, ih, Nat.testBit_two_pow]
      simp [hb]
    · rw [if_neg hb, ih]
      simp [hb]
theorem dmask_some {o : Oper} {d : Nat} (h : o.dst = some d) : (dmask o).testBit d = true := by unfold dmask; rw [h]; exact Nat.testBit_two_pow_self
theorem and_zero {a b t : Nat} (h : a &&& b = 0) (ha : a.testBit t = true) : b.testBit t = false := by
  have := congrArg (fun x => Nat.testBit x t) h
  simpa [ha] using this
theorem apart_of {ops : Array Oper} {x y : Oper} (h1 : dmask x &&& (lmask ops y ||| dmask y) = 0) (h2 : dmask y &&& lmask ops x = 0) : x.apart ops y = true := by
  unfold Oper.apart
  rw [Bool.and_eq_true]
  constructor
  · cases hx : x.dst with
    | none => rfl
    | some d =>
      have := and_zero h1 (dmask_some hx)
      rw [Nat.testBit_or, Bool.or_eq_false_iff] at this
      simp only [Bool.and_eq_true, Bool.not_eq_true', bne_iff_ne, ne_eq]
      refine ⟨?_, fun hy => ?_⟩
      · rw [← Bool.not_eq_true, List.contains_iff_mem]
        intro hm
        rw [lmask_mem hm] at this
        exact absurd this.1 (by decide)
      · rw [dmask_some hy] at this
        exact absurd this.2 (by decide)
  · cases hy : y.dst with
    | none => rfl
    | some d =>
      have := and_zero h2 (dmask_some hy)
      simp only [Bool.not_eq_true']
      rw [← Bool.not_eq_true, List.contains_iff_mem]
      intro hm
      rw [lmask_mem hm] at this
      exact absurd this (by decide)
theorem fineAt_get {k dx lx : Nat} {ops : Array Oper} : ∀ {l : List Oper}, fineAt k dx lx ops l = true → ∀ {j : Nat} {y : Oper}, l[j]? = some y →
    (wmask y).testBit k = true ∨ (dx &&& (lmask ops y ||| dmask y) = 0 ∧ dmask y &&& lx = 0)
  | [], _, j, y, hj => by simp at hj
  | z :: l, h, j, y, hj => by
    simp only [fineAt, Bool.and_eq_true, Bool.or_eq_true, beq_iff_eq] at h
    rcases j with _ | j
    · obtain rfl : z = y := by simpa using hj
      exact h.1
    · exact fineAt_get h.2 (by simpa using hj)
theorem lexFrom_of {ops : Array Oper} : ∀ (l : List Oper) (k : Nat) (listed : Array Bool), (∀ j, l[j]? = ops[k + j]?) → k ≤ ops.size → listed.size = ops.size →
    (∀ j, j < ops.size → listed[j]? = some (decide (j < k))) → fine ops k l = true → Region.lexFrom .any ops l.length k listed = true
  | [], k, listed, hl, hk, hs, hL, _ => by
    have hk' : ops.size = k := by
      have := (hl 0).symm
      rw [List.getElem?_nil, Nat.add_zero, Array.getElem?_eq_none_iff] at this
      omega
    rw [List.length_nil, Region.lexFrom, List.isEmpty_iff, Region.ready, List.filter_eq_nil_iff]
    intro j hj
    have := hL j (List.mem_range.1 hj)
    have hj' := List.mem_range.1 hj
    simp [Array.getD_eq_getD_getElem?, this, show j < k by omega]
  | o :: l, k, listed, hl, hk, hs, hL, hf => by
    simp only [fine, Bool.and_eq_true, Nat.blt_eq] at hf
    obtain ⟨⟨hw, hA⟩, hF⟩ := hf
    have h0 : ops[k]? = some o := by simpa using (hl 0).symm
    have hlt : k < ops.size := (Array.getElem?_eq_some_iff.1 h0).1
    rw [List.length_cons, Region.lexFrom, Bool.and_eq_true, Bool.and_eq_true]
    refine ⟨⟨?_, ?_⟩, ?_⟩
    · rw [List.contains_iff_mem, Region.ready, List.mem_filter]
      refine ⟨List.mem_range.2 hlt, ?_⟩
      have hk0 := hL k hlt
      rw [Bool.and_eq_true]
      refine ⟨by simp [Array.getD_eq_getD_getElem?, hk0], ?_⟩
      rw [h0, Option.map_some, Option.getD_some, Array.all_eq_true_iff_forall_mem]
      intro e he
      cases hb : Region.binds .any e with
      | false => rfl
      | true =>
        have ht := wmask_mem.2 ⟨e, he, hb, rfl⟩
        have hlt' : e.on < k := by
          rcases Nat.lt_or_ge e.on k with h | h
          · exact h
          · have := Nat.testBit_lt_two_pow (Nat.lt_of_lt_of_le hw (Nat.pow_le_pow_right (by decide) h))
            rw [this] at ht
            cases ht
        simp [Array.getD_eq_getD_getElem?, hL e.on (by omega), hlt']
    · rw [Region.free, h0]
      simp only [List.all_eq_true, List.mem_range]
      intro j hj
      rcases Nat.lt_trichotomy j k with h | h | h
      · simp [Array.getD_eq_getD_getElem?, hL j hj, h]
      · simp [h]
      · obtain ⟨i, rfl⟩ : ∃ i, j = k + (i + 1) := ⟨j - k - 1, by omega⟩
        have hi := (hl (i + 1)).symm
        rw [List.getElem?_cons_succ] at hi
        cases hy : l[i]? with
        | none => rw [hy] at hi; rw [hi]; simp
        | some y =>
          rw [hy] at hi
          rw [hi]
          rcases fineAt_get hA hy with h1 | ⟨h1, h2⟩
          · obtain ⟨e, he, hb, heq⟩ := wmask_mem.1 h1
            have : (y.after.any fun e => Region.binds .any e && e.on == k) = true := Array.any_eq_true'.2 ⟨e, he, by simp [hb, heq]⟩
            simp [this]
          · simp [apart_of h1 h2]
    · refine lexFrom_of l (k + 1) _ (fun j => by have := hl (j + 1); rw [List.getElem?_cons_succ] at this; rw [this]; congr 1; omega) hlt (by simpa using hs) (fun j hj => ?_) hF
      rw [Array.getElem?_setIfInBounds]
      by_cases h : k = j
      · subst h; simp [hs, hj]
      · rw [if_neg h, hL j hj]
        congr 1
        simp only [decide_eq_decide]
        omega
theorem lexB_of {l : List Oper} (h : (Region.noSelect l.toArray && fine l.toArray 0 l) = true) : Region.lexB .any l.toArray = true := by
  rw [Bool.and_eq_true] at h
  rw [Region.lexB, Bool.and_eq_true]
  refine ⟨h.1, ?_⟩
  have := lexFrom_of (ops := l.toArray) l 0 (Array.replicate l.toArray.size false) (by simp) (by simp) (by simp) (fun j hj => by rw [Array.getElem?_replicate, if_pos hj]; simp) h.2
  simpa using this
theorem wp_region_growF {P : Program} {id : Nat} {Q : Exit → Act → World → Prop} {a : Act} {w : World} {l : List Oper} (hm : P.follows .mixedOrders = true) (hB : (Region.noSelect l.toArray && fine l.toArray 0 l) = true)
    (h : ∀ W, W = w → wpQuiet P l.toArray (fun w' => ∃ z : Grw W, w' = grow W z) (fun a' => ∀ w', (∃ z : Grw W, w' = grow W z) → Q .normal a' w') l a) : (Code.region id l.toArray true).wp P Q a w :=
  wp_region_grow hm (lexB_of hB) h
end Bk
