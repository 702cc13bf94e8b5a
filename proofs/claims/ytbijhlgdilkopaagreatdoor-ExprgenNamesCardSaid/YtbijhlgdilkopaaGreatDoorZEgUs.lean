/- The law's usable: what a case that is within the limits has. -/
import Derived.Test.YtbijhlgdilkopaaGreatDoorEcX
import Derived.Test.YtbijhlgdilkopaaGreatDoorEsX
import Derived.BigRegion
set_option linter.unusedVariables false
set_option linter.unusedSimpArgs false
set_option maxRecDepth 100000
set_option maxHeartbeats 4000000
namespace Bk
open Go Go.RowKit
/-- A case: a node, variables, their contents, registers, a stack, all of it read in blocks below B. -/
structure CaseAt (w : World) (B d : Nat) (x : Nd) (V : Option Addr) (nv : Nat) (vs : List Vr) (C : Option Addr) (nc : Nat) (cs : List (List Int)) (G : Option Addr) (ng : Nat) (regs : List Int) (E : Option Addr) (ne ce : Nat) (scr : List Int) : Prop where
  kv : KV w B d x
  v : VsAt w B V vs
  vn : vs.length = nv
  c : CsAt w B C cs
  cn : cs.length = nc
  ci : ∀ c ∈ cs, ∀ y ∈ c, I64 y
  g : IntsAt w B G regs
  gn : regs.length = ng
  gi : ∀ y ∈ regs, I64 y
  e : Sl w (· < B) 1 (.slice E ne ce) ne (intCells scr)
  en : scr.length = ne
  ei : ∀ y ∈ scr, I64 y
/-- A case within the limits. -/
structure Usable (w : World) (B : Nat) (nb : ByteArray → Bool) (x : Nd) (e : Ex) (vs : List Vr) (cs : List (List Int)) (fp sb : Int) (ne : Nat) : Prop where
  ev : EV w B nb e x
  sz : e.sz ≤ 200
  dp : e.dp ≤ 20
  kn : e.known vs
  v6 : vs.length ≤ 6
  fp : 0 ≤ fp ∧ fp ≤ 20
  sb : 0 ≤ sb ∧ sb ≤ 5
  n50 : ne ≤ 50
  dist : Dist vs
  fits : FitS vs cs
end Bk
namespace Go.Proofs.YtbijhlgdilkopaaGreatDoor
open Go.RowKit Bk
end Go.Proofs.YtbijhlgdilkopaaGreatDoor
