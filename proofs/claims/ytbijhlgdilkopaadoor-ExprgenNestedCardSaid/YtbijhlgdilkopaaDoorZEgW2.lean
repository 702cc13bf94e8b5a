/- What the law ExprgenWith wants beside the laws Compute and Back: its registers, and its use. -/
import Derived.Test.YtbijhlgdilkopaaDoorZEgC7
import Derived.Test.YtbijhlgdilkopaaDoorEwX
import Derived.Test.YtbijhlgdilkopaaDoorEvX
import Derived.Test.YtbijhlgdilkopaaDoorEaX
set_option linter.unusedVariables false
set_option linter.unusedSimpArgs false
namespace Bk
open Go Go.RowKit
theorem wpList_appS {P : Program} {w : World} {ops : Array Oper} {rest : List Oper} {o : Oper} {a : Act} {Q : Exit → Act → World → Prop} (hgd : o.guard = none) (s x : Operand) (t : TypeId) (ho : o.op = .call { callee := .builtin .append, args := #[s, x], argTypes := #[t, t] })
    (base : Nat) (e : TypeId) (i : TypeInfo) (z : Value) (size bytes : Nat) (ht : P.underlying t = some (.slice e)) (hi : P.info? e = some i) (hz : i.zero = some z) (hsize : i.size = size) (hby : i.bytes = bytes) (hzs : z.cells.size = size) (hsz : 0 < size)
    (v : Value) (n : Nat) (xs : List Value) (hs : a.eval s = v) (hown : w.ownsRow base e size v n xs) {D : Nat → Prop} {u : Value} {m : Nat} {ys : List Value} (hx : a.eval x = u) (hu : Sl w D size u m ys) (h1 : ∀ u ∈ ys, u.oneCell' = true) (h63 : n + m ≤ maxLen) (hbytes : (n + m) * bytes ≤ 140737488355328) (hbase : base ≤ w.heap.size)
    (h : ∀ v' w', w'.ownsRow base e size v' (n + m) (xs ++ ys) → w.grownBy w' v.ownBlock → (v'.ownBlock = v.ownBlock ∨ v'.ownBlock = some w.heap.size) → wpList P ops Q rest (a.put o.dst v') w') : wpList P ops Q (o :: rest) a w := by
  refine wpList_plain hgd fun K hK => ?_
  exact wp_appS s x t ho base e i z size bytes ht hi hz hsize hby hzs hsz v n xs hs hown hx hu h1 h63 hbytes hbase fun v' w' a1 a2 a3 => hK _ _ (h v' w' a1 a2 a3)
theorem ints_own_set {w : World} {base : Nat} {t : TypeId} {n g cp : Nat} {l : List Int} (h : w.ownsRow base t 1 (.slice (some ⟨g, 0, none⟩) n cp) n (intCells l)) (hn : l.length = n) (k : Nat) (hk : k < n) (v : Int) (w' : World) (hw : w' = w.setCell ⟨g, k, none⟩ (.int .i64 v)) :
    IntsAt w' w'.heap.size (some ⟨g, 0, none⟩) (l.set k v) ∧ base ≤ g ∧ g < w.heap.size := by
  obtain ⟨g', cap', ev, q1, q2, q3, q4, q5⟩ := own_some h (by omega)
  injection ev with ev _ _
  injection ev with ev
  injection ev with ev _ _
  subst ev
  refine ⟨fun i hi => ⟨g, 0, rfl, by rw [hw]; simpa [World.setCell] using q2, ?_⟩, q1, q2⟩
  rw [List.length_set] at hi
  rcases h.2 with ⟨e1, _⟩ | ⟨g', cap', cur, e1, hg, hh, _⟩
  · simp at e1
  · injection e1 with e1 _ _
    injection e1 with e1
    injection e1 with e1 _ _
    subst e1
    have hb : Blk w g t cur := hh
    have hb' := hb.set_ k (.int .i64 v)
    have hc := q5 i (.int .i64 l[i]) (by rw [intCells_get _ _ hi, List.getD_eq_getElem?_getD, List.getElem?_eq_getElem hi]; rfl)
    rw [hb.cell i] at hc
    rw [hw, Nat.zero_add, hb'.cell i, Array.getElem?_setIfInBounds]
    by_cases hik : k = i
    · subst hik
      have : k < cur.size := by rcases Nat.lt_or_ge k cur.size with h | h; exact h; rw [Array.getElem?_eq_none h] at hc; cases hc
      rw [if_pos rfl, if_pos this, List.getElem_set_self]
    · rw [if_neg hik, hc, List.getElem_set_ne hik]
theorem own_frozen {w : World} {base : Nat} {t : TypeId} {n g cp : Nat} {xs : List Value} (h : w.ownsRow base t 1 (.slice (some ⟨g, 0, none⟩) n cp) n xs) (k : Nat) : w.frozen? ⟨g, k, none⟩ = false := by
  rcases h.2 with ⟨e1, _⟩ | ⟨g', cap', cur, e1, hg, hh, _⟩
  · simp at e1
  · injection e1 with e1 _ _
    injection e1 with e1
    injection e1 with e1 _ _
    subst e1
    exact (show Blk w g t cur from hh).frozen k
theorem CaseAt.regs {w w' : World} {d : Nat} {x : Nd} {V : Option Addr} {nv : Nat} {vs : List Vr} {C : Option Addr} {nc : Nat} {cs : List (List Int)} {G : Option Addr} {ng : Nat} {regs : List Int} {E : Option Addr} {ne ce : Nat} {scr : List Int} (h : CaseAt w w.heap.size d x V nv vs C nc cs G ng regs E ne ce scr) (hb : Below w.heap.size w w') {G' : Option Addr} {ng' : Nat} {regs' : List Int} (hg : IntsAt w' w'.heap.size G' regs') (hn : regs'.length = ng') (hi : ∀ y ∈ regs', I64 y) :
    CaseAt w' w'.heap.size d x V nv vs C nc cs G' ng' regs' E ne ce scr :=
  ⟨KV.up hb.size d x (h.kv.next hb), (h.v.next hb).up hb.size, h.vn, (h.c.next hb).up hb.size, h.cn, h.ci, hg, hn, hi, h.e.keep (fun b o hd => hb.cell (p := ⟨b, o, none⟩) hd) (fun k hk => Nat.lt_of_lt_of_le hk hb.size), h.en, h.ei⟩
theorem Usable.up {w w' : World} {nb : ByteArray → Bool} {x : Nd} {e : Ex} {vs : List Vr} {cs : List (List Int)} {fp sb : Int} {ne : Nat} (h : Usable w w.heap.size nb x e vs cs fp sb ne) (hb : Below w.heap.size w w') : Usable w' w'.heap.size nb x e vs cs fp sb ne :=
  ⟨EV.up hb.size _ _ (h.ev.next hb), h.sz, h.dp, h.kn, h.v6, h.fp, h.sb, h.n50, h.dist, h.fits⟩
theorem MBd.un {N : Mach} {p d : Int} (h : MBd (N.at_ p d)) : MBd N := ⟨h.f0, h.f1, h.s0, h.s1, h.ml, h.sl, h.cl, h.il, h.ol, h.st⟩
/-- The length of a slice that lies in memory. -/
def slLen (w : World) (p : Addr) : Nat := match w.cell? p with | some (.slice _ n _) => n | _ => 0
theorem slLen_of {w : World} {p : Addr} {A : Option Addr} {n c : Nat} (h : w.cell? p = some (.slice A n c)) : slLen w p = n := by simp [slLen, h]
theorem regs4 {n : Nat} (hn : 4 < n) : ∀ {l : List Int}, l.length = n → (regsL (l.set 4 0)).getD 4 0 = 0 := by
  intro l hl
  simp only [regsL, List.getD_eq_getElem?_getD]
  rw [List.getElem?_map, List.getElem?_range (by omega)]
  simp [hl, hn]
theorem pad_i64 {l : List Int} (h : ∀ y ∈ l, I64 y) (k : Nat) : ∀ y ∈ (l ++ List.replicate k 0).set 4 0, I64 y := by
  intro y hy
  rcases List.mem_or_eq_of_mem_set hy with hy | rfl
  · rcases List.mem_append.1 hy with hy | hy
    · exact h y hy
    · rw [(List.mem_replicate.1 hy).2]; exact i64_zero
  · exact i64_zero
theorem pad_succ (l : List Int) {n n2 : Nat} (h : n ≤ n2) : intCells (l ++ List.replicate (n2 - n) 0) ++ [.int .i64 0] = intCells (l ++ List.replicate (n2 + 1 - n) 0) := by
  rw [show n2 + 1 - n = n2 - n + 1 by omega, List.replicate_succ', ← List.append_assoc]
  simp [intCells]
theorem case_sbW {vs : List Vr} {cs : List (List Int)} (hf : FitS vs cs) (fp sb : Nat) (regs scr : List Int) (hs50 : scr.length ≤ 50) : SB 1000 (caseM vs cs fp sb regs scr) := by
  have hin : ∀ {vs : List Vr} {cs : List (List Int)}, ∀ l ∈ stkL vs cs, l ∈ cs := by
    intro vs
    induction vs with
    | nil => intro cs x hx; cases cs <;> simp [stkL] at hx
    | cons v vs ih =>
      intro cs x hx
      cases cs with
      | nil => simp [stkL] at hx
      | cons c cs =>
        simp only [stkL, List.mem_append] at hx
        rcases hx with hx | hx
        · split at hx
          · simp at hx; subst hx; exact List.mem_cons_self
          · cases hx
        · exact List.mem_cons_of_mem _ (ih x hx)
  intro l hl
  simp only [caseM, List.mem_cons, List.mem_append, List.mem_map, List.mem_range] at hl
  rcases hl with rfl | ⟨i, _, rfl⟩ | hl
  · omega
  · simp
  · exact hf.len1 _ (hin l hl)
end Bk
namespace Go.Proofs.YtbijhlgdilkopaaDoor
open Go.RowKit Bk
theorem rd_blkW {w : World} {g m : Nat} {t : TypeId} {ins : Prg} (h : Blk w g t (codeCells ins).toArray) (hm : ins.length = m) : Rd w (· < w.heap.size) 5 (some ⟨g, 0, none⟩) m (codeCells ins) :=
  ⟨by rw [codeCells_length, hm], fun _ => ⟨g, 0, rfl, h.lt, fun j u hu => by rw [Nat.zero_add]; exact (h.cell j).trans (by rw [List.getElem?_toArray]; exact hu)⟩⟩
theorem own_blk5 {w : World} {g base : Nat} {i : Ins} (h : Blk w g 42 (codeCells [i]).toArray) (hb : base ≤ g) : w.ownsRow base 42 5 (.slice (some ⟨g, 0, none⟩) 1 1) 1 (codeCells [i]) :=
  ⟨by rw [codeCells_length]; rfl, .inr ⟨g, 1, _, rfl, hb, h, Nat.le_refl _, by decide, by simp [codeCells_length], by simp only [Nat.one_mul]; exact List.take_of_length_le (by rw [codeCells_length]; simp)⟩⟩
theorem Fr.ofGrownW {w w' : World} {row : Option Nat} (hg : w.grownBy w' row) : Fr (fun k => some k = row) w w' := ⟨hg.os, hg.tape, hg.output, hg.size, fun k hk ho => hg.block k hk ho⟩
theorem SlotsAt.upW {w : World} {B B' : Nat} {A : Option Addr} {l : List St4} (h : SlotsAt w B A l) (hB : B ≤ B') : SlotsAt w B' A l := fun i v hv => let ⟨g, o, h1, h2, h3⟩ := h i v hv; ⟨g, o, h1, by omega, h3⟩
theorem sl_blk5 {w : World} {g : Nat} {i : Ins} (h : Blk w g 42 (codeCells [i]).toArray) : Sl w (fun _ => True) 5 (.slice (some ⟨g, 0, none⟩) 1 1) 1 (codeCells [i]) :=
  ⟨_, 1, rfl, Nat.le_refl _, (fun e => by cases e), by rw [codeCells_length]; rfl, fun _ => ⟨g, 0, rfl, trivial, fun j u hu => by rw [Nat.zero_add]; exact (h.cell j).trans (by rw [List.getElem?_toArray]; exact hu)⟩⟩
end Go.Proofs.YtbijhlgdilkopaaDoor
