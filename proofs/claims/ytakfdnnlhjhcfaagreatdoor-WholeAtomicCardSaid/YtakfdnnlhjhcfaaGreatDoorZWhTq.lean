/- The tape: Read, Unread, Write, Unwrite. -/
import Derived.Test.YtakfdnnlhjhcfaaGreatDoorM16
set_option linter.unusedVariables false
set_option linter.unusedSimpArgs false
set_option maxRecDepth 100000
set_option maxHeartbeats 4000000
namespace Go.Proofs.YtakfdnnlhjhcfaaGreatDoor
open Go.RowKit Bk
theorem r_insert {w : World} {B tb o n : Nat} {v : Value} {l l' : List Int} (hc : w.cell? ⟨tb, o, none⟩ = some v) (hf : w.frozen? ⟨tb, o, none⟩ = false) (ho : w.ownsRow B 3 1 v l.length (intCells l)) (htb : v.ownBlock ≠ some tb) (hl : l.length < 4096) (x : Int)
    (hI : ∀ w1, Below w.heap.size w w1 → w1.heap.size = w.heap.size + 1 → Blk w1 w.heap.size 3 #[.int .i64 x] → Calls Tryz.prog 207 #[v, .int .i64 n, .slice (some ⟨w.heap.size, 0, none⟩) 1 1] w1 fun e w' => InsP w1 B v l' e w') :
    Calls Tryz.prog 192 #[.pointer (some ⟨tb, o, none⟩), .int .i64 n, .int .i64 x] w fun e w' => e = .returned (.int .i64 0) ∧ ∃ w2 v', w' = w2.setCell ⟨tb, o, none⟩ v' ∧ w2.ownsRow B 3 1 v' l'.length (intCells l') ∧ Fr (fun k => v.ownBlock = some k) w w2 ∧ ∀ k, v'.ownBlock = some k → v.ownBlock = some k ∨ w.heap.size ≤ k := by
  have htl : tb < w.heap.size := block_lt_of_cell hc
  obtain ⟨A, c, rfl⟩ := own_form ho
  have HI := Lib.hid hI; have HL := Lib.hid ho
  have hge : decide (4096 ≤ (l.length : Int)) = false := by simp; omega
  generalize l.length = ln at *
  have HTB := Lib.hid htb
  have HC := Lib.hid hc; have HF := Lib.hid hf
  clear hI ho htb hl
  go_enter Tryz.func192, Tryz.ntmps192
  go_wp2_with fail
  refine (HI.out _ ((Below.refl _ _).alloc (Nat.le_refl _) _) (by simp) (Blk.new _ _ _)).mono ?_
  rintro e w2 ⟨v', rfl, ho2, hf2, hv2⟩
  have HO2 := Lib.hid ho2; have HV2 := Lib.hid hv2
  have HF2 : Hid (Fr (fun k => (Value.slice A ln c).ownBlock = some k) w w2) := Lib.hid ((Fr.of ((Below.refl _ _).alloc (Nat.le_refl _) _)).trans hf2)
  obtain ⟨A2, c2, rfl⟩ := own_form ho2
  have d0 := (HF2.out.cell (b := tb) htl (fun h => HTB.out h) o).trans HC.out
  have g0 : w2.frozen? ⟨tb, o, none⟩ = false := (World.frozen?_of_block (a := ⟨tb, o, none⟩) (HF2.out.block tb htl (fun h => HTB.out h))).trans HF.out
  clear hc hf ho2 hf2 hv2
  go_wp2_with fail
  go_ret
  refine ⟨rfl, w2, _, rfl, HO2.out, HF2.out, fun k hk => (HV2.out k hk).imp id fun h => ?_⟩
  simp at h; omega
theorem r_insertF {w : World} {tb o n c : Nat} {A : Option Addr} {ln : Nat} (hc : w.cell? ⟨tb, o, none⟩ = some (.slice A ln c)) (hl : 4096 ≤ ln) (x : Int) :
    Calls Tryz.prog 192 #[.pointer (some ⟨tb, o, none⟩), .int .i64 n, .int .i64 x] w fun e w' => e = .returned (.int .i64 5) ∧ Below w.heap.size w w' := by
  have hge : decide (4096 ≤ (ln : Int)) = true := by simp; omega
  go_enter Tryz.func192, Tryz.ntmps192
  go_wp2_with fail
  go_ret
  exact ⟨rfl, by go_grown⟩
theorem r_remove {w : World} {B tb o i : Nat} {v : Value} {l : List Int} (hc : w.cell? ⟨tb, o, none⟩ = some v) (hf : w.frozen? ⟨tb, o, none⟩ = false) (ho : w.ownsRow B 3 1 v l.length (intCells l)) (htb : v.ownBlock ≠ some tb) (hi : i < l.length) (hl : l.length ≤ 4096) :
    Calls Tryz.prog 191 #[.pointer (some ⟨tb, o, none⟩), .int .i64 i] w fun e w' => e = .returned (.tuple #[.int .i64 (l.getD i 0), .int .i64 0]) ∧ ∃ w2 v', w' = w2.setCell ⟨tb, o, none⟩ v' ∧ w2.ownsRow B 3 1 v' (l.length - 1) (intCells (l.take i ++ l.drop (i + 1))) ∧ Fr (fun k => v.ownBlock = some k) w w2 ∧ v'.ownBlock = v.ownBlock := by
  have htl : tb < w.heap.size := block_lt_of_cell hc
  obtain ⟨g, c, rfl, _, hgl, _, _, hcl⟩ := own_some ho (by omega)
  have HD := Lib.hid (c_Del ho rfl hi)
  have d1 := hcl i _ (intCells_get _ _ hi)
  have hz : ((l.length : Int) == 0) = false := beq_eq_false_iff_ne.2 (by omega)
  have j0 : (0 : Int) ≤ (i : Int) := by omega
  have j1 : (i : Int) < (l.length : Int) := by omega
  have j2 : wrap64 ((i : Int) + 1) = (i : Int) + 1 := by unfold wrap64; omega
  generalize l.getD i 0 = y at *
  generalize l.length = ln at *
  have HTB := Lib.hid htb
  have HC := Lib.hid hc; have HF := Lib.hid hf
  clear ho htb hcl
  go_enter Tryz.func191, Tryz.ntmps191
  go_wp2_with fail
  refine HD.out.mono ?_
  rintro e w2 ⟨rfl, ho2, hf2⟩
  have HO2 := Lib.hid ho2
  have HF2 : Hid (Fr (fun k => (Value.slice (some ⟨g, 0, none⟩) ln c).ownBlock = some k) w w2) := Lib.hid (hf2.mono fun k hk => by rw [hk]; rfl)
  have d0 := (HF2.out.cell (b := tb) htl (fun h => HTB.out h) o).trans HC.out
  have g0 : w2.frozen? ⟨tb, o, none⟩ = false := (World.frozen?_of_block (a := ⟨tb, o, none⟩) (HF2.out.block tb htl (fun h => HTB.out h))).trans HF.out
  clear hc hf ho2 hf2 d1
  go_wp2_with fail
  refine bodyPost_ret_by (results_tmp2 rfl _ _ _) rfl ?_
  exact ⟨rfl, w2, _, rfl, HO2.out, HF2.out, rfl⟩
theorem r_remove0 {w : World} {tb o c : Nat} {A : Option Addr} {i : Int} (hc : w.cell? ⟨tb, o, none⟩ = some (.slice A 0 c)) :
    Calls Tryz.prog 191 #[.pointer (some ⟨tb, o, none⟩), .int .i64 i] w fun e w' => e = .returned (.tuple #[.int .i64 0, .int .i64 17]) ∧ Below w.heap.size w w' := by
  go_enter Tryz.func191, Tryz.ntmps191
  go_wp2_with fail
  refine bodyPost_ret_by (results_tmp2 rfl _ _ _) rfl ?_
  exact ⟨rfl, by go_grown⟩
structure TpAt (w : World) (B tb : Nat) (vi vo : Value) (a b : List Int) : Prop where
  blk : Blk w tb 156 #[vi, vo]
  inp : w.ownsRow B 3 1 vi a.length (intCells a)
  out : w.ownsRow B 3 1 vo b.length (intCells b)
  ni : vi.ownBlock ≠ some tb
  no : vo.ownBlock ≠ some tb
  ne : ∀ k, vi.ownBlock = some k → vo.ownBlock = some k → False
structure TpP (w : World) (B tb : Nat) (vi vo : Value) (a b : List Int) (w' : World) (vi' vo' : Value) : Prop where
  at_ : TpAt w' B tb vi' vo' a b
  fr : Fr (fun k => k = tb ∨ vi.ownBlock = some k ∨ vo.ownBlock = some k) w w'
  hi : ∀ k, vi'.ownBlock = some k → vi.ownBlock = some k ∨ w.heap.size ≤ k
  ho : ∀ k, vo'.ownBlock = some k → vo.ownBlock = some k ∨ w.heap.size ≤ k
section
variable {w : World} {B tb : Nat} {vi vo : Value} {a b : List Int}
theorem TpAt.next {w' : World} (h : TpAt w B tb vi vo a b) (hb : Below w.heap.size w w') : TpAt w' B tb vi vo a b := ⟨h.blk.next hb, own_below h.inp hb (Nat.le_refl _), own_below h.out hb (Nat.le_refl _), h.ni, h.no, h.ne⟩
theorem TpAt.inTo (h : TpAt w B tb vi vo a b) {w2 : World} {v' : Value} {a' : List Int} (ho : w2.ownsRow B 3 1 v' a'.length (intCells a')) (hf : Fr (fun k => vi.ownBlock = some k) w w2) (hv : ∀ k, v'.ownBlock = some k → vi.ownBlock = some k ∨ w.heap.size ≤ k) : TpP w B tb vi vo a' b (w2.setCell ⟨tb, 0, none⟩ v') v' vo := by
  have hb2 := hf.blk h.blk fun e => h.ni e
  have hF1 : Fr (fun k => k = tb) w2 (w2.setCell ⟨tb, 0, none⟩ v') := (Fr.refl (fun k => k = tb) w2).set (p := ⟨tb, 0, none⟩) rfl _
  have hlt := h.blk.lt
  have hn : ∀ k, v'.ownBlock = some k → k ≠ tb := fun k hk e => by subst e; rcases hv k hk with h1 | h1; exact h.ni h1; omega
  have hol : ∀ k, vo.ownBlock = some k → k < w.heap.size := fun k hk => own_lt' h.out hk
  refine ⟨⟨by simpa using hb2.set_ 0 v', own_fr ho hF1 fun k hk => hn k hk, own_fr (own_fr h.out hf fun k hk e => h.ne k e hk) hF1 fun k hk e => h.no (by rw [hk, e]), fun e => hn _ e rfl, h.no, fun k h1 h2 => ?_⟩, ⟨hF1.os.trans hf.os, hF1.tape.trans hf.tape, hF1.output.trans hf.output, Nat.le_trans hf.size hF1.size, fun k hk ho => (hF1.block k (Nat.lt_of_lt_of_le hk hf.size) fun e => ho (.inl e)).trans (hf.block k hk fun e => ho (.inr (.inl e)))⟩, hv, fun k hk => .inl hk⟩
  rcases hv k h1 with h3 | h3
  · exact h.ne k h3 h2
  · have := hol k h2; omega
theorem TpAt.outTo (h : TpAt w B tb vi vo a b) {w2 : World} {v' : Value} {b' : List Int} (ho : w2.ownsRow B 3 1 v' b'.length (intCells b')) (hf : Fr (fun k => vo.ownBlock = some k) w w2) (hv : ∀ k, v'.ownBlock = some k → vo.ownBlock = some k ∨ w.heap.size ≤ k) : TpP w B tb vi vo a b' (w2.setCell ⟨tb, 1, none⟩ v') vi v' := by
  have hb2 := hf.blk h.blk fun e => h.no e
  have hF1 : Fr (fun k => k = tb) w2 (w2.setCell ⟨tb, 1, none⟩ v') := (Fr.refl (fun k => k = tb) w2).set (p := ⟨tb, 1, none⟩) rfl _
  have hlt := h.blk.lt
  have hn : ∀ k, v'.ownBlock = some k → k ≠ tb := fun k hk e => by subst e; rcases hv k hk with h1 | h1; exact h.no h1; omega
  have hil : ∀ k, vi.ownBlock = some k → k < w.heap.size := fun k hk => own_lt' h.inp hk
  refine ⟨⟨by simpa using hb2.set_ 1 v', own_fr (own_fr h.inp hf fun k hk e => h.ne k hk e) hF1 fun k hk e => h.ni (by rw [hk, e]), own_fr ho hF1 fun k hk => hn k hk, h.ni, fun e => hn _ e rfl, fun k h1 h2 => ?_⟩, ⟨hF1.os.trans hf.os, hF1.tape.trans hf.tape, hF1.output.trans hf.output, Nat.le_trans hf.size hF1.size, fun k hk ho => (hF1.block k (Nat.lt_of_lt_of_le hk hf.size) fun e => ho (.inl e)).trans (hf.block k hk fun e => ho (.inr (.inr e)))⟩, fun k hk => .inl hk, hv⟩
  rcases hv k h2 with h3 | h3
  · exact h.ne k h1 h3
  · have := hil k h1; omega
theorem TpP.pre {w1 w' : World} {vi' vo' : Value} {a' b' : List Int} (hb : Below w.heap.size w w1) (h : TpP w1 B tb vi vo a' b' w' vi' vo') : TpP w B tb vi vo a' b' w' vi' vo' :=
  ⟨h.at_, (Fr.of hb).trans h.fr, fun k hk => (h.hi k hk).imp id fun e => Nat.le_trans hb.size e, fun k hk => (h.ho k hk).imp id fun e => Nat.le_trans hb.size e⟩
theorem c_Unread (h : TpAt w B tb vi vo a b) (hB : B ≤ w.heap.size) (hl : a.length < 4096) (x : Int) : Calls Tryz.prog 176 #[.pointer (some ⟨tb, 0, none⟩), .int .i64 x] w fun e w' => e = .returned (.int .i64 0) ∧ ∃ vi' vo', TpP w B tb vi vo (x :: a) b w' vi' vo' := by
  have HC := Lib.hid (r_insert (n := 0) (h.blk.cell 0) (h.blk.frozen 0) h.inp h.ni hl x (l' := x :: a) fun w1 hb hs K => c_InsHead (own_below h.inp hb (Nat.le_refl _)) (by omega) (by omega) x K (fun e => by have := own_lt' h.inp e; omega))
  have H := Lib.hid h
  clear h
  go_enter Tryz.func176, Tryz.ntmps176
  go_wp2_with fail
  refine HC.out.mono ?_
  rintro e w' ⟨rfl, w2, v', rfl, h1, h2, h3⟩
  have HP := Lib.hid (H.out.inTo h1 h2 h3)
  clear h1 h2 h3
  generalize w2.setCell ⟨tb, 0, none⟩ v' = w3 at *
  go_wp2_with fail
  go_ret
  exact ⟨rfl, _, _, HP.out⟩
theorem c_UnreadF (h : TpAt w B tb vi vo a b) (hl : 4096 ≤ a.length) (x : Int) : Calls Tryz.prog 176 #[.pointer (some ⟨tb, 0, none⟩), .int .i64 x] w fun e w' => e = .returned (.int .i64 5) ∧ Below w.heap.size w w' := by
  obtain ⟨A, c, rfl⟩ := own_form h.inp
  have HC := Lib.hid (r_insertF (n := 0) (h.blk.cell 0) hl x)
  clear h
  go_enter Tryz.func176, Tryz.ntmps176
  go_wp2_with fail
  refine HC.out.mono ?_
  rintro e w' ⟨rfl, hb⟩
  have HB := Lib.hid hb
  clear hb
  go_wp2_with fail
  go_ret
  exact ⟨rfl, HB.out⟩
theorem c_Read (h : TpAt w B tb vi vo a b) (hl : 0 < a.length) (hm : a.length ≤ 4096) : Calls Tryz.prog 175 #[.pointer (some ⟨tb, 0, none⟩)] w fun e w' => e = .returned (.tuple #[.int .i64 (a.headD 0), .int .i64 0]) ∧ ∃ vi' vo', TpP w B tb vi vo a.tail b w' vi' vo' := by
  have HC := Lib.hid (r_remove (v := vi) (h.blk.cell 0) (h.blk.frozen 0) h.inp h.ni hl hm)
  have H := Lib.hid h
  have HE : Hid (a.getD 0 0 = a.headD 0 ∧ a.take 0 ++ a.drop (0 + 1) = a.tail ∧ a.length - 1 = a.tail.length) := Lib.hid (by cases a <;> simp)
  rw [HE.out.1, HE.out.2.1, HE.out.2.2] at HC
  generalize a.headD 0 = y at *
  clear h
  go_enter Tryz.func175, Tryz.ntmps175
  go_wp2_with fail
  refine HC.out.mono ?_
  rintro e w' ⟨rfl, w2, v', rfl, h1, h2, h3⟩
  have HP := Lib.hid (H.out.inTo h1 h2 fun k hk => .inl (by rw [← h3]; exact hk))
  clear h1 h2 h3
  generalize w2.setCell ⟨tb, 0, none⟩ v' = w3 at *
  go_wp2_with fail
  refine bodyPost_ret_by (results_tmp2 rfl _ _ _) rfl ?_
  exact ⟨rfl, _, _, HP.out⟩
theorem c_ReadF (h : TpAt w B tb vi vo a b) (hl : a = []) : Calls Tryz.prog 175 #[.pointer (some ⟨tb, 0, none⟩)] w fun e w' => e = .returned (.tuple #[.int .i64 0, .int .i64 17]) ∧ Below w.heap.size w w' := by
  subst hl
  obtain ⟨A, c, rfl⟩ := own_form h.inp
  have HC := Lib.hid (r_remove0 (i := 0) (h.blk.cell 0))
  clear h
  go_enter Tryz.func175, Tryz.ntmps175
  go_wp2_with fail
  refine HC.out.mono ?_
  rintro e w' ⟨rfl, hb⟩
  have HB := Lib.hid hb
  clear hb
  go_wp2_with fail
  refine bodyPost_ret_by (results_tmp2 rfl _ _ _) rfl ?_
  exact ⟨rfl, HB.out⟩
theorem c_Write (h : TpAt w B tb vi vo a b) (hB : B ≤ w.heap.size) (hl : b.length < 4096) (x : Int) : Calls Tryz.prog 178 #[.pointer (some ⟨tb, 0, none⟩), .int .i64 x] w fun e w' => e = .returned (.int .i64 0) ∧ ∃ vi' vo', TpP w B tb vi vo a (b ++ [x]) w' vi' vo' := by
  have HC := Lib.hid (fun W (hW : Below w.heap.size w W) => have hn := h.next hW; r_insert (v := vo) (n := b.length) (hn.blk.cell 1) (hn.blk.frozen 1) hn.out hn.no hl x (l' := b ++ [x]) fun w1 hb hs K => c_InsEnd (own_below hn.out hb (Nat.le_refl _)) (by have := hW.size; omega) (by omega) x K)
  have H := Lib.hid h
  obtain ⟨A, c, rfl⟩ := own_form h.out
  obtain ⟨z_, T_, F_⟩ := h.blk.open_
  generalize b.length = n at *
  clear h
  go_enter Tryz.func178, Tryz.ntmps178
  go_wp2_with fail
  go_still_tail 9, (by kernel_rfl)
  change wpList _ _ _ _ _ w.drew
  go_wp2_with fail
  refine (HC.out _ (by go_grown)).mono ?_
  rintro e w' ⟨rfl, w2, v', rfl, h1, h2, h3⟩
  have HP := Lib.hid (TpP.pre (w := w) (by go_grown) ((H.out.next (w' := w.drew) (by go_grown)).outTo h1 h2 h3))
  clear h1 h2 h3 T_ z_ F_
  generalize w2.setCell ⟨tb, 1, none⟩ v' = w3 at *
  go_wp2_with fail
  go_ret
  exact ⟨rfl, _, _, HP.out⟩
theorem c_WriteF (h : TpAt w B tb vi vo a b) (hl : 4096 ≤ b.length) (x : Int) : Calls Tryz.prog 178 #[.pointer (some ⟨tb, 0, none⟩), .int .i64 x] w fun e w' => e = .returned (.int .i64 5) ∧ Below w.heap.size w w' := by
  obtain ⟨A, c, rfl⟩ := own_form h.out
  have HC := Lib.hid (fun W (hW : Below w.heap.size w W) => r_insertF (n := b.length) ((h.next hW).blk.cell 1) hl x)
  obtain ⟨z_, T_, F_⟩ := h.blk.open_
  generalize b.length = n at *
  clear h
  go_enter Tryz.func178, Tryz.ntmps178
  go_wp2_with fail
  go_still_tail 9, (by kernel_rfl)
  change wpList _ _ _ _ _ w.drew
  go_wp2_with fail
  refine (HC.out _ (by go_grown)).mono ?_
  rintro e w' ⟨rfl, hb⟩
  have HB : Hid (Below w.heap.size w w') := Lib.hid (Below.next (by go_grown) hb)
  clear hb T_ z_ F_
  go_wp2_with fail
  go_ret
  exact ⟨rfl, HB.out⟩
theorem c_Unwrite (h : TpAt w B tb vi vo a b) (hl : 0 < b.length) (hm : b.length ≤ 4096) : Calls Tryz.prog 177 #[.pointer (some ⟨tb, 0, none⟩)] w fun e w' => e = .returned (.tuple #[.int .i64 (b.getLastD 0), .int .i64 0]) ∧ ∃ vi' vo', TpP w B tb vi vo a b.dropLast w' vi' vo' := by
  have HC := Lib.hid (fun W (hW : Below w.heap.size w W) => r_remove (v := vo) (i := b.length - 1) ((h.next hW).blk.cell 1) ((h.next hW).blk.frozen 1) (h.next hW).out (h.next hW).no (by omega) hm)
  have H := Lib.hid h
  have HE : Hid (b.getD (b.length - 1) 0 = b.getLastD 0 ∧ b.take (b.length - 1) ++ b.drop (b.length - 1 + 1) = b.dropLast ∧ b.length - 1 = b.dropLast.length) := Lib.hid ⟨by rw [List.getLastD_eq_getLast?, List.getLast?_eq_getElem?, List.getD_eq_getElem?_getD], by rw [List.drop_eq_nil_of_le (by omega), List.append_nil, List.dropLast_eq_take], by simp⟩
  rw [HE.out.1, HE.out.2.1] at HC
  have HL : Hid (b.length - 1 = b.dropLast.length) := Lib.hid HE.out.2.2
  obtain ⟨A, c, rfl⟩ := own_form h.out
  obtain ⟨z_, T_, F_⟩ := h.blk.open_
  generalize b.getLastD 0 = y at *
  clear h HE
  obtain ⟨n, hn⟩ : ∃ n, b.length = n + 1 := ⟨b.length - 1, by omega⟩
  rw [hn] at HC H T_ HL hm ⊢
  rw [Nat.add_sub_cancel] at HC HL
  have hw : IntKind.i64.wrap (n : Int) = (n : Int) := wrap_small _ (by omega) (by omega)
  clear hn hl
  go_enter Tryz.func177, Tryz.ntmps177
  go_wp2_with fail
  refine wp_region_held_drew (S := fun W => True) (by kernel_rfl) (trivial) (fun hH => ?_)
  change wpAnyH _ _ _ _ _ _ _ _ w.drew
  refine tkQ 0 (v := ?_) rfl hH ?_
  (try simp only [PU, Act.put])
  refine tkQ 1 (v := ?_) rfl hH ?_
  (try simp only [PU, Act.put])
  refine tkQ 2 (v := ?_) rfl hH ?_
  (try simp only [PU, Act.put])
  refine tkQ 3 (v := ?_) rfl hH ?_
  (try simp only [PU, Act.put])
  refine tkQ 4 (v := ?_) rfl hH ?_
  (try simp only [PU, Act.put])
  refine tkQ 5 (v := ?_) rfl hH ?_
  (try simp only [PU, Act.put])
  refine nxH 6 (by kernel_rfl) rfl (fun K hK => ?_)
  go_simp
  refine hK.out _ _ trivial (fun _ => ?_)
  clear hK
  (try simp only [PU, Act.put])
  refine tkQ 7 (v := ?_) rfl hH ?_
  (try simp only [PU, Act.put])
  refine tkQ 8 (v := ?_) rfl hH ?_
  (try simp only [PU, Act.put])
  refine nxH 9 (by kernel_rfl) rfl (fun K hK => ?_)
  go_simp
  (try rw [hw])
  refine (HC.out _ (by go_grown)).mono ?_
  rintro e w' ⟨rfl, w2, v', rfl, h1, h2, h3⟩; rw [HL.out] at h1; have HP := Lib.hid (TpP.pre (w := w) (by go_grown) ((H.out.next (w' := w.drew) (by go_grown)).outTo h1 h2 fun k hk => .inl (by rw [← h3]; exact hk))); clear h1 h2 h3 T_ z_ F_; generalize w2.setCell ⟨tb, 1, none⟩ v' = w3 at *
  refine hK.out _ _ trivial (fun _ => ?_)
  clear hK
  (try simp only [PU, Act.put])
  refine tkQ 10 (v := ?_) rfl hH ?_
  (try simp only [PU, Act.put])
  refine tkQ 11 (v := ?_) rfl hH ?_
  (try simp only [PU, Act.put])
  refine tkQ 12 (v := ?_) rfl hH ?_
  (try simp only [PU, Act.put])
  refine tkQ 13 (v := ?_) rfl hH ?_
  (try simp only [PU, Act.put])
  refine wpAnyH_done (by kernel_rfl) ?_ _
  go_wp2_with fail
  refine bodyPost_ret_by (results_tmp2 rfl _ _ _) rfl ?_
  exact ⟨rfl, _, _, HP.out⟩
theorem c_UnwriteF (h : TpAt w B tb vi vo a b) (hl : b = []) : Calls Tryz.prog 177 #[.pointer (some ⟨tb, 0, none⟩)] w fun e w' => e = .returned (.tuple #[.int .i64 0, .int .i64 17]) ∧ Below w.heap.size w w' := by
  subst hl
  obtain ⟨A, c, rfl⟩ := own_form h.out
  have HC := Lib.hid (fun W (hW : Below w.heap.size w W) (i : Int) => r_remove0 (i := i) ((h.next hW).blk.cell 1))
  obtain ⟨z_, T_, F_⟩ := h.blk.open_
  clear h
  go_enter Tryz.func177, Tryz.ntmps177
  go_wp2_with fail
  refine wp_region_held_drew (S := fun W => True) (by kernel_rfl) (trivial) (fun hH => ?_)
  change wpAnyH _ _ _ _ _ _ _ _ w.drew
  refine tkQ 0 (v := ?_) rfl hH ?_
  (try simp only [PU, Act.put])
  refine tkQ 1 (v := ?_) rfl hH ?_
  (try simp only [PU, Act.put])
  refine tkQ 2 (v := ?_) rfl hH ?_
  (try simp only [PU, Act.put])
  refine tkQ 3 (v := ?_) rfl hH ?_
  (try simp only [PU, Act.put])
  refine tkQ 4 (v := ?_) rfl hH ?_
  (try simp only [PU, Act.put])
  refine tkQ 5 (v := ?_) rfl hH ?_
  (try simp only [PU, Act.put])
  refine nxH 6 (by kernel_rfl) rfl (fun K hK => ?_)
  go_simp
  refine hK.out _ _ trivial (fun _ => ?_)
  clear hK
  (try simp only [PU, Act.put])
  refine tkQ 7 (v := ?_) rfl hH ?_
  (try simp only [PU, Act.put])
  refine tkQ 8 (v := ?_) rfl hH ?_
  (try simp only [PU, Act.put])
  refine nxH 9 (by kernel_rfl) rfl (fun K hK => ?_)
  go_simp
  (try rw [hw])
  refine (HC.out _ (by go_grown) _).mono ?_
  rintro e w' ⟨rfl, hb⟩; have HB : Hid (Below w.heap.size w w') := Lib.hid (Below.next (by go_grown) hb); clear hb T_ z_ F_
  refine hK.out _ _ trivial (fun _ => ?_)
  clear hK
  (try simp only [PU, Act.put])
  refine tkQ 10 (v := ?_) rfl hH ?_
  (try simp only [PU, Act.put])
  refine tkQ 11 (v := ?_) rfl hH ?_
  (try simp only [PU, Act.put])
  refine tkQ 12 (v := ?_) rfl hH ?_
  (try simp only [PU, Act.put])
  refine tkQ 13 (v := ?_) rfl hH ?_
  (try simp only [PU, Act.put])
  refine wpAnyH_done (by kernel_rfl) ?_ _
  go_wp2_with fail
  refine bodyPost_ret_by (results_tmp2 rfl _ _ _) rfl ?_
  exact ⟨rfl, HB.out⟩
end
end Go.Proofs.YtakfdnnlhjhcfaaGreatDoor
