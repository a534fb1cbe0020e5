-- PRINTED by print.py (a twelfth state) out of the translation. Not trusted: Lean checks it.
import Derived.Test.YtgohgmjfanmbeaaDoorProg
import Derived.Below
import Derived.Deep.Draws
import Derived.Deep.AppendLies
import Derived.Maps.AppendAt
import Derived.OwnWalk
import Derived.Laws.BytesArg
import Derived.Laws.MakeOwn
import Derived.Laws.OwnMore
import Derived.Deep.OwnRows
import Derived.Tactics
import Derived.Lib.ConvBytes
import Derived.Laws.Slices
import Derived.WalkKit
import Derived.KernelRfl
import Derived.RowKit3
import Derived.Deep.LoopGhost
import Derived.Deep.QuietTactic
import Derived.BigQuiet
import Derived.WideLaws
import Derived.Deep.DeepCutAuto
import Derived.Deep.CutBlock
import Derived.Deep.RegionHeld3
import Derived.Laws.Rows
import Derived.Lib.AppendStr
import Derived.ArgAppend
import Derived.Laws.IdiomCopy
import Derived.OrdersHeld
import Derived.Laws.BitsLemmas
import Derived.RowKit
import Derived.Lib.TrailingZeros
import Derived.Lib.Hide
import Derived.Test.YtgohgmjfanmbeaaDoorWWords
import Derived.Test.YtgohgmjfanmbeaaDoorWLast
import Derived.Test.YtgohgmjfanmbeaaDoorWTab
import Derived.Test.YtgohgmjfanmbeaaDoorWFour
import Derived.Test.YtgohgmjfanmbeaaDoorWQPut
import Derived.Test.YtgohgmjfanmbeaaDoorWApart
import Derived.Test.YtgohgmjfanmbeaaDoorWArr
import Derived.Test.YtgohgmjfanmbeaaDoorWZeros
import Derived.Test.YtgohgmjfanmbeaaDoorWFoot
import Derived.Test.YtgohgmjfanmbeaaDoorWKept
import Derived.Test.YtgohgmjfanmbeaaDoorWShare
import Derived.Test.YtgohgmjfanmbeaaDoorWN
import Derived.Test.YtgohgmjfanmbeaaDoorWFootNe
import Derived.Test.YtgohgmjfanmbeaaDoorWAt
import Derived.Test.YtgohgmjfanmbeaaDoorWEqStruct
import Derived.Test.YtgohgmjfanmbeaaDoorWRepsOne
import Derived.Test.YtgohgmjfanmbeaaDoorWInv
import Derived.Test.YtgohgmjfanmbeaaDoorWInvWords
import Derived.Test.YtgohgmjfanmbeaaDoorWGuard
import Derived.Test.YtgohgmjfanmbeaaDoorWNEv
import Derived.Test.YtgohgmjfanmbeaaDoorWMore
namespace Go.Proofs.YtgohgmjfanmbeaaDoor.Q
open Go.RowKit Go.Proofs.YtgohgmjfanmbeaaDoorW.PrintWords Go.Proofs.YtgohgmjfanmbeaaDoorW.PrintLast Go.Proofs.YtgohgmjfanmbeaaDoorW.PrintMore
attribute [local go_sem] max2_int min2_int max_two min_two max_three min_three max_four min_four   -- for this text's walks alone
set_option linter.unusedVariables false
set_option linter.unusedSimpArgs false



def errW : Option Int → Value
  | none => .nilIface
  | some c => .iface 0 (.int .i64 c)
theorem errW_none : errW none = .nilIface := rfl
theorem errW_some (c : Int) : errW (some c) = .iface 0 (.int .i64 c) := rfl

theorem info3 : (Tryd.prog.info? 3).map (fun i => (i.zero, i.size, i.bytes)) = some (some (.int .i64 0), 1, 8) := by kernel_rfl
-- the values' own types
def rd_L1 (xs : List (List Int)) (i : Int) : (List Int) := xs.getD i.toNat ([] : List Int)
theorem at_L1 {w : World} {A : Option Addr} {n : Nat} {xs : List (List Int)} (h : Kd.C (Kd.slice 3 (Kd.int .i64)) w A n xs) (i : Int) (h0 : 0 ≤ i) (h1 : i < n) : ∃ ad A0 c0, A = some ad ∧ w.cell? (ad.add i.toNat) = some (.slice A0 (rd_L1 xs i).length c0) ∧ (rd_L1 xs i).length ≤ c0 ∧ (Kd.int .i64).C w A0 (rd_L1 xs i).length (rd_L1 xs i) := by
  obtain ⟨ad, c, e, _, hK, hc0⟩ := Kd.C_get h ([] : List Int) i h0 h1
  have hc : ∀ j u, c[j]? = some u → w.cell? (ad.add (i.toNat * 1 + j)) = some u := hc0
  obtain ⟨A0, c0, rfl, l0, g0⟩ := hK
  exact ⟨ad, A0, c0, e, by have hq := hc 0 _ rfl; rwa [Nat.mul_one, Nat.add_zero] at hq, l0, g0⟩

/-- The table of math/bits in memory. -/
structure TabOK (w : World) : Prop where mk ::
  (out : ∀ j, j < Lib.deBruijn64tab.length → w.cell? ⟨1, j, none⟩ = some (.int .u8 (Lib.deBruijn64tab.getD j 0 : Nat)))
theorem TabOK.drewN {w : World} (h : TabOK w) (n : Nat) : TabOK (w.drewN n) := ⟨h.out⟩
theorem TabOK.drew {w : World} (h : TabOK w) : TabOK w.drew := ⟨h.out⟩
theorem TabOK.below {w W : World} (h : TabOK w) (hb : Below w.heap.size w W) : TabOK W := ⟨fun j hj => pw_cell_below hb (h.out j hj)⟩
theorem TabOK.alloc {w : World} (h : TabOK w) (o : Obj) : TabOK (w.alloc o) := h.below (below_alloc (Below.refl _ _) o)

end Go.Proofs.YtgohgmjfanmbeaaDoor.Q
