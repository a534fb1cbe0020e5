-- PRINTED by print.py (a twelfth state) out of the translation. Not trusted: Lean checks it.
import Derived.Test.YtdmgigicbppjkaaDoorQx0
import Derived.Test.YtdmgigicbppjkaaDoorQx1
import Derived.Test.YtdmgigicbppjkaaDoorQx5
import Derived.Test.YtdmgigicbppjkaaDoorQx6
import Derived.Test.YtdmgigicbppjkaaDoorQx7
import Derived.Test.YtdmgigicbppjkaaDoorQx9
import Derived.Test.YtdmgigicbppjkaaDoorQx10
namespace Go.Proofs.YtdmgigicbppjkaaDoor.Q
open Go.RowKit Go.Proofs.YtdmgigicbppjkaaDoorW.PrintWords Go.Proofs.YtdmgigicbppjkaaDoorW.PrintLast Go.Proofs.YtdmgigicbppjkaaDoorW.PrintMore
attribute [local go_sem] max2_int min2_int max_two min_two max_three min_three max_four min_four   -- for this text's walks alone
set_option linter.unusedVariables false
set_option linter.unusedSimpArgs false

/-! ### trefoillaw12_DequeTells: function 4 -/
mutual
def trefoillaw12_DequeTells.j0 : Nat → Int → Bool → List Int → Int → Int → List Int → Int → Int → Option (Bool)
  | 0, _, _, _, _, _, _, _, _ => none
  | k + 1, x2, x28, x254000, x254001, x254002, x255000, x255001, x255002 => if x28 = true then ((trefoillaw12_awake.f k).bind fun t256 => (some t256)) else ((trefoillaw12_Own.f x254000 x254001 x254002).bind fun bt257 => ((deque_Push.f k bt257.1 bt257.2.1 bt257.2.2 x2).bind fun bt262 => ((trefoilref12_Push.f k x254000 x254001 x254002 x2).bind fun bt269 => ((deque_New.f x2).bind fun bt276 => ((trefoillaw12_Own.f x254000 x254001 x254002).bind fun bt283 => ((deque_Items.f k bt283.1 bt283.2.1 bt283.2.2).bind fun t288 => ((trefoilref12_Check.f k x254000 x254001 x254002).bind fun t291 => (if t291 = true then ((trefoilref12_Items.f k x254000 x254001 x254002).bind fun t292 => ((trefoilref02_Ints.f k t288 t292).bind fun t295 => (if t295 = true then ((trefoilref12_Size.f k x2).bind fun t296 => (trefoillaw12_DequeTells.j1 k x2 bt262.2.2.2 bt269.2.2.2 bt276.2.2.2 t291 ((bt276.2.2.2 == 0) != t296) x254000 x254001 x254002 x255000 x255001 x255002 bt262.1 bt262.2.1 bt262.2.2.1 bt269.1 bt269.2.1 bt269.2.2.1 bt276.1 bt276.2.1 bt276.2.2.1)) else (trefoillaw12_DequeTells.j1 k x2 bt262.2.2.2 bt269.2.2.2 bt276.2.2.2 t291 true x254000 x254001 x254002 x255000 x255001 x255002 bt262.1 bt262.2.1 bt262.2.2.1 bt269.1 bt269.2.1 bt269.2.2.1 bt276.1 bt276.2.1 bt276.2.2.1)))) else (if (t288.length : Int) > 0 then (trefoillaw12_DequeTells.j1 k x2 bt262.2.2.2 bt269.2.2.2 bt276.2.2.2 t291 true x254000 x254001 x254002 x255000 x255001 x255002 bt262.1 bt262.2.1 bt262.2.2.1 bt269.1 bt269.2.1 bt269.2.2.1 bt276.1 bt276.2.1 bt276.2.2.1) else ((trefoilref12_Size.f k x2).bind fun t297 => (trefoillaw12_DequeTells.j1 k x2 bt262.2.2.2 bt269.2.2.2 bt276.2.2.2 t291 ((bt276.2.2.2 == 0) != t297) x254000 x254001 x254002 x255000 x255001 x255002 bt262.1 bt262.2.1 bt262.2.2.1 bt269.1 bt269.2.1 bt269.2.2.1 bt276.1 bt276.2.1 bt276.2.2.1)))))))))))
def trefoillaw12_DequeTells.j1 : Nat → Int → Int → Int → Int → Bool → Bool → List Int → Int → Int → List Int → Int → Int → List Int → Int → Int → List Int → Int → Int → List Int → Int → Int → Option (Bool)
  | 0, _, _, _, _, _, _, _, _, _, _, _, _, _, _, _, _, _, _, _, _, _ => none
  | k + 1, x2, x8, x10, x12, x14, x76, x254000, x254001, x254002, x255000, x255001, x255002, x269000, x269001, x269002, x276000, x276001, x276002, x283000, x283001, x283002 => if x76 = true then (some false) else (if x12 = 0 then (if (x283000.length : Int) = x2 then (if x283001 = 0 then (if x283002 = 0 then (trefoillaw12_DequeTells.j2 k x8 x10 x14 false x254000 x254001 x254002 x255000 x255001 x255002 x269000 x269001 x269002 x276000 x276001 x276002) else (trefoillaw12_DequeTells.j2 k x8 x10 x14 true x254000 x254001 x254002 x255000 x255001 x255002 x269000 x269001 x269002 x276000 x276001 x276002)) else (trefoillaw12_DequeTells.j2 k x8 x10 x14 true x254000 x254001 x254002 x255000 x255001 x255002 x269000 x269001 x269002 x276000 x276001 x276002)) else (trefoillaw12_DequeTells.j2 k x8 x10 x14 true x254000 x254001 x254002 x255000 x255001 x255002 x269000 x269001 x269002 x276000 x276001 x276002)) else (if x12 = 120 then (trefoillaw12_DequeTells.j2 k x8 x10 x14 (decide ((x283000.length : Int) > 0)) x254000 x254001 x254002 x255000 x255001 x255002 x269000 x269001 x269002 x276000 x276001 x276002) else (trefoillaw12_DequeTells.j2 k x8 x10 x14 true x254000 x254001 x254002 x255000 x255001 x255002 x269000 x269001 x269002 x276000 x276001 x276002)))
def trefoillaw12_DequeTells.j2 : Nat → Int → Int → Bool → Bool → List Int → Int → Int → List Int → Int → Int → List Int → Int → Int → List Int → Int → Int → Option (Bool)
  | 0, _, _, _, _, _, _, _, _, _, _, _, _, _, _, _, _ => none
  | k + 1, x8, x10, x14, x109, x254000, x254001, x254002, x255000, x255001, x255002, x269000, x269001, x269002, x276000, x276001, x276002 => if x109 = true then (some false) else ((trefoilref12_Same.f k x269000 x269001 x269002 x276000 x276001 x276002).bind fun t298 => (if t298 = true then (if x8 = x10 then ((trefoillaw12_Own.f x254000 x254001 x254002).bind fun bt299 => ((deque_Check.f bt299.1 bt299.2.1 bt299.2.2).bind fun t304 => (if ((t304 == 0) == x14) = true then ((trefoillaw12_Own.f x254000 x254001 x254002).bind fun bt305 => ((trefoillaw12_Own.f x255000 x255001 x255002).bind fun bt310 => ((deque_Same.f k bt305.1 bt305.2.1 bt305.2.2 bt310.1 bt310.2.1 bt310.2.2).bind fun t315 => ((trefoilref12_Same.f k x254000 x254001 x254002 x255000 x255001 x255002).bind fun t316 => (some (t315 == t316)))))) else (none)))) else (none)) else (none)))
end
def trefoillaw12_DequeTells.f (k : Nat) (l0_0 : List Int) (a0_1 : Int) (a0_2 : Int) (l1_0 : List Int) (a1_1 : Int) (a1_2 : Int) (a2 : Int) : Option (Bool) := (trefoillaw12_awake.f k).bind fun t255 => (if t255 = true then (if (l0_0.length : Int) > 130 then (trefoillaw12_DequeTells.j0 k a2 true l0_0 a0_1 a0_2 l1_0 a1_1 a1_2) else (trefoillaw12_DequeTells.j0 k a2 (decide ((l1_0.length : Int) > 130)) l0_0 a0_1 a0_2 l1_0 a1_1 a1_2)) else (trefoillaw12_DequeTells.j0 k a2 true l0_0 a0_1 a0_2 l1_0 a1_1 a1_2))
theorem trefoillaw12_DequeTells.mono_l : ∀ k, (∀ y0 y1 y2 y3 y4 y5 y6 y7, LeO (trefoillaw12_DequeTells.j0 k y0 y1 y2 y3 y4 y5 y6 y7) (trefoillaw12_DequeTells.j0 (k + 1) y0 y1 y2 y3 y4 y5 y6 y7)) ∧ (∀ y0 y1 y2 y3 y4 y5 y6 y7 y8 y9 y10 y11 y12 y13 y14 y15 y16 y17 y18 y19 y20, LeO (trefoillaw12_DequeTells.j1 k y0 y1 y2 y3 y4 y5 y6 y7 y8 y9 y10 y11 y12 y13 y14 y15 y16 y17 y18 y19 y20) (trefoillaw12_DequeTells.j1 (k + 1) y0 y1 y2 y3 y4 y5 y6 y7 y8 y9 y10 y11 y12 y13 y14 y15 y16 y17 y18 y19 y20)) ∧ (∀ y0 y1 y2 y3 y4 y5 y6 y7 y8 y9 y10 y11 y12 y13 y14 y15, LeO (trefoillaw12_DequeTells.j2 k y0 y1 y2 y3 y4 y5 y6 y7 y8 y9 y10 y11 y12 y13 y14 y15) (trefoillaw12_DequeTells.j2 (k + 1) y0 y1 y2 y3 y4 y5 y6 y7 y8 y9 y10 y11 y12 y13 y14 y15))
  | 0 => ⟨fun _ _ _ _ _ _ _ _ r h => by simp [trefoillaw12_DequeTells.j0] at h, fun _ _ _ _ _ _ _ _ _ _ _ _ _ _ _ _ _ _ _ _ _ r h => by simp [trefoillaw12_DequeTells.j1] at h, fun _ _ _ _ _ _ _ _ _ _ _ _ _ _ _ _ r h => by simp [trefoillaw12_DequeTells.j2] at h⟩
  | k + 1 => by
    obtain ⟨ih0, ih1, ih2⟩ := trefoillaw12_DequeTells.mono_l k
    refine ⟨?_, ?_, ?_⟩
    · intro y0 y1 y2 y3 y4 y5 y6 y7
      unfold trefoillaw12_DequeTells.j0
      repeat' first
      | (with_reducible exact ih0 _ _ _ _ _ _ _ _)
      | (with_reducible exact ih1 _ _ _ _ _ _ _ _ _ _ _ _ _ _ _ _ _ _ _ _ _)
      | (with_reducible exact ih2 _ _ _ _ _ _ _ _ _ _ _ _ _ _ _ _)
      | (with_reducible exact deque_Items.mono _ _ _ _)
      | (with_reducible exact deque_Push.mono _ _ _ _ _)
      | (with_reducible exact deque_Same.mono _ _ _ _ _ _ _)
      | (with_reducible exact trefoillaw12_awake.mono _)
      | (with_reducible exact trefoilref02_Ints.mono _ _ _)
      | (with_reducible exact trefoilref12_Check.mono _ _ _ _)
      | (with_reducible exact trefoilref12_Items.mono _ _ _ _)
      | (with_reducible exact trefoilref12_Push.mono _ _ _ _ _)
      | (with_reducible exact trefoilref12_Same.mono _ _ _ _ _ _ _)
      | (with_reducible exact trefoilref12_Size.mono _ _)
      | (with_reducible exact LeO.refl _)
      | (with_reducible exact LeO.none _)
      | (with_reducible refine LeO.ite ?_ ?_)
      | (with_reducible refine LeO.bind ?_ (fun _ => ?_))
      | exact ih0 _ _ _ _ _ _ _ _
      | exact ih1 _ _ _ _ _ _ _ _ _ _ _ _ _ _ _ _ _ _ _ _ _
      | exact ih2 _ _ _ _ _ _ _ _ _ _ _ _ _ _ _ _
      | exact deque_Items.mono _ _ _ _
      | exact deque_Push.mono _ _ _ _ _
      | exact deque_Same.mono _ _ _ _ _ _ _
      | exact trefoillaw12_awake.mono _
      | exact trefoilref02_Ints.mono _ _ _
      | exact trefoilref12_Check.mono _ _ _ _
      | exact trefoilref12_Items.mono _ _ _ _
      | exact trefoilref12_Push.mono _ _ _ _ _
      | exact trefoilref12_Same.mono _ _ _ _ _ _ _
      | exact trefoilref12_Size.mono _ _
      | exact LeO.none _
      | refine LeO.ite ?_ ?_
      | refine LeO.bind ?_ (fun _ => ?_)
    · intro y0 y1 y2 y3 y4 y5 y6 y7 y8 y9 y10 y11 y12 y13 y14 y15 y16 y17 y18 y19 y20
      unfold trefoillaw12_DequeTells.j1
      repeat' first
      | (with_reducible exact ih0 _ _ _ _ _ _ _ _)
      | (with_reducible exact ih1 _ _ _ _ _ _ _ _ _ _ _ _ _ _ _ _ _ _ _ _ _)
      | (with_reducible exact ih2 _ _ _ _ _ _ _ _ _ _ _ _ _ _ _ _)
      | (with_reducible exact deque_Items.mono _ _ _ _)
      | (with_reducible exact deque_Push.mono _ _ _ _ _)
      | (with_reducible exact deque_Same.mono _ _ _ _ _ _ _)
      | (with_reducible exact trefoillaw12_awake.mono _)
      | (with_reducible exact trefoilref02_Ints.mono _ _ _)
      | (with_reducible exact trefoilref12_Check.mono _ _ _ _)
      | (with_reducible exact trefoilref12_Items.mono _ _ _ _)
      | (with_reducible exact trefoilref12_Push.mono _ _ _ _ _)
      | (with_reducible exact trefoilref12_Same.mono _ _ _ _ _ _ _)
      | (with_reducible exact trefoilref12_Size.mono _ _)
      | (with_reducible exact LeO.refl _)
      | (with_reducible exact LeO.none _)
      | (with_reducible refine LeO.ite ?_ ?_)
      | (with_reducible refine LeO.bind ?_ (fun _ => ?_))
      | exact ih0 _ _ _ _ _ _ _ _
      | exact ih1 _ _ _ _ _ _ _ _ _ _ _ _ _ _ _ _ _ _ _ _ _
      | exact ih2 _ _ _ _ _ _ _ _ _ _ _ _ _ _ _ _
      | exact deque_Items.mono _ _ _ _
      | exact deque_Push.mono _ _ _ _ _
      | exact deque_Same.mono _ _ _ _ _ _ _
      | exact trefoillaw12_awake.mono _
      | exact trefoilref02_Ints.mono _ _ _
      | exact trefoilref12_Check.mono _ _ _ _
      | exact trefoilref12_Items.mono _ _ _ _
      | exact trefoilref12_Push.mono _ _ _ _ _
      | exact trefoilref12_Same.mono _ _ _ _ _ _ _
      | exact trefoilref12_Size.mono _ _
      | exact LeO.none _
      | refine LeO.ite ?_ ?_
      | refine LeO.bind ?_ (fun _ => ?_)
    · intro y0 y1 y2 y3 y4 y5 y6 y7 y8 y9 y10 y11 y12 y13 y14 y15
      unfold trefoillaw12_DequeTells.j2
      repeat' first
      | (with_reducible exact ih0 _ _ _ _ _ _ _ _)
      | (with_reducible exact ih1 _ _ _ _ _ _ _ _ _ _ _ _ _ _ _ _ _ _ _ _ _)
      | (with_reducible exact ih2 _ _ _ _ _ _ _ _ _ _ _ _ _ _ _ _)
      | (with_reducible exact deque_Items.mono _ _ _ _)
      | (with_reducible exact deque_Push.mono _ _ _ _ _)
      | (with_reducible exact deque_Same.mono _ _ _ _ _ _ _)
      | (with_reducible exact trefoillaw12_awake.mono _)
      | (with_reducible exact trefoilref02_Ints.mono _ _ _)
      | (with_reducible exact trefoilref12_Check.mono _ _ _ _)
      | (with_reducible exact trefoilref12_Items.mono _ _ _ _)
      | (with_reducible exact trefoilref12_Push.mono _ _ _ _ _)
      | (with_reducible exact trefoilref12_Same.mono _ _ _ _ _ _ _)
      | (with_reducible exact trefoilref12_Size.mono _ _)
      | (with_reducible exact LeO.refl _)
      | (with_reducible exact LeO.none _)
      | (with_reducible refine LeO.ite ?_ ?_)
      | (with_reducible refine LeO.bind ?_ (fun _ => ?_))
      | exact ih0 _ _ _ _ _ _ _ _
      | exact ih1 _ _ _ _ _ _ _ _ _ _ _ _ _ _ _ _ _ _ _ _ _
      | exact ih2 _ _ _ _ _ _ _ _ _ _ _ _ _ _ _ _
      | exact deque_Items.mono _ _ _ _
      | exact deque_Push.mono _ _ _ _ _
      | exact deque_Same.mono _ _ _ _ _ _ _
      | exact trefoillaw12_awake.mono _
      | exact trefoilref02_Ints.mono _ _ _
      | exact trefoilref12_Check.mono _ _ _ _
      | exact trefoilref12_Items.mono _ _ _ _
      | exact trefoilref12_Push.mono _ _ _ _ _
      | exact trefoilref12_Same.mono _ _ _ _ _ _ _
      | exact trefoilref12_Size.mono _ _
      | exact LeO.none _
      | refine LeO.ite ?_ ?_
      | refine LeO.bind ?_ (fun _ => ?_)
theorem trefoillaw12_DequeTells.mono : ∀ a0 a1 a2 a3 a4 a5 a6 k, LeO (trefoillaw12_DequeTells.f k a0 a1 a2 a3 a4 a5 a6) (trefoillaw12_DequeTells.f (k + 1) a0 a1 a2 a3 a4 a5 a6) := by
  intro a0 a1 a2 a3 a4 a5 a6 k
  obtain ⟨ih0, ih1, ih2⟩ := trefoillaw12_DequeTells.mono_l k
  unfold trefoillaw12_DequeTells.f
  repeat' first
      | (with_reducible exact ih0 _ _ _ _ _ _ _ _)
      | (with_reducible exact ih1 _ _ _ _ _ _ _ _ _ _ _ _ _ _ _ _ _ _ _ _ _)
      | (with_reducible exact ih2 _ _ _ _ _ _ _ _ _ _ _ _ _ _ _ _)
      | (with_reducible exact deque_Items.mono _ _ _ _)
      | (with_reducible exact deque_Push.mono _ _ _ _ _)
      | (with_reducible exact deque_Same.mono _ _ _ _ _ _ _)
      | (with_reducible exact trefoillaw12_awake.mono _)
      | (with_reducible exact trefoilref02_Ints.mono _ _ _)
      | (with_reducible exact trefoilref12_Check.mono _ _ _ _)
      | (with_reducible exact trefoilref12_Items.mono _ _ _ _)
      | (with_reducible exact trefoilref12_Push.mono _ _ _ _ _)
      | (with_reducible exact trefoilref12_Same.mono _ _ _ _ _ _ _)
      | (with_reducible exact trefoilref12_Size.mono _ _)
      | (with_reducible exact LeO.refl _)
      | (with_reducible exact LeO.none _)
      | (with_reducible refine LeO.ite ?_ ?_)
      | (with_reducible refine LeO.bind ?_ (fun _ => ?_))
      | exact ih0 _ _ _ _ _ _ _ _
      | exact ih1 _ _ _ _ _ _ _ _ _ _ _ _ _ _ _ _ _ _ _ _ _
      | exact ih2 _ _ _ _ _ _ _ _ _ _ _ _ _ _ _ _
      | exact deque_Items.mono _ _ _ _
      | exact deque_Push.mono _ _ _ _ _
      | exact deque_Same.mono _ _ _ _ _ _ _
      | exact trefoillaw12_awake.mono _
      | exact trefoilref02_Ints.mono _ _ _
      | exact trefoilref12_Check.mono _ _ _ _
      | exact trefoilref12_Items.mono _ _ _ _
      | exact trefoilref12_Push.mono _ _ _ _ _
      | exact trefoilref12_Same.mono _ _ _ _ _ _ _
      | exact trefoilref12_Size.mono _ _
      | exact LeO.none _
      | refine LeO.ite ?_ ?_
      | refine LeO.bind ?_ (fun _ => ?_)
def trefoillaw12_DequeTells.T12 : Bool × List (List Nat × List Nat) := (true, [([], []), ([], []), ([0, 1], [0, 1]), ([2, 2], [2]), ([3], [3]), ([3], [3]), ([4, 5, 3], [3, 4, 5]), ([3, 6], [3, 6]), ([7, 3], [7]), ([8], [8]), ([9, 8, 8], [8, 9]), ([10, 10, 8], [8, 10]), ([11, 8], [8, 11]), ([8], [8]), ([12, 13, 8], [8, 12, 13]), ([8, 14], [8, 14]), ([15, 11], [15]), ([16], [16]), ([17, 16, 16], [16, 17]), ([16], [16]), ([19, 18, 16], [16, 19]), ([18, 20, 20, 16], [16, 18, 20]), ([16], [16]), ([16], [16]), ([22, 23, 21, 16], [16, 22, 23]), ([21, 24, 16], [16, 21, 24]), ([16, 25], [16, 25]), ([26, 24, 0, 1, 2, 3, 4, 5, 6, 7, 8, 9, 10, 11, 12, 13, 14, 15, 16, 17, 18, 19, 20, 21, 22, 23, 24, 25, 26], [26])])
def trefoillaw12_DequeTells.B12 : List Nat := [0, 0, 3, 7, 15, 15, 63, 127, 255, 511, 1023, 2047, 4095, 511, 16383, 32767, 65535, 131071, 262143, 131071, 1048575, 2097151, 131071, 131071, 16777215, 33554431, 67108863, 134217727]
theorem trefoillaw12_DequeTells.tab12 : rtab .any (opsOf Tryd.f4 12) = trefoillaw12_DequeTells.T12 := by kernel_rfl
theorem trefoillaw12_DequeTells.bits12 : waitsOk trefoillaw12_DequeTells.T12.2 trefoillaw12_DequeTells.B12 = true := by kernel_rfl
set_option maxHeartbeats 8000000 in
set_option maxRecDepth 100000 in
theorem trefoillaw12_DequeTells.calls (k : Nat) (A0_0 : Option Addr) (c0_0 : Nat) (l0_0 : List Int) (a0_1 : Int) (a0_2 : Int) (A1_0 : Option Addr) (c1_0 : Nat) (l1_0 : List Int) (a1_1 : Int) (a1_2 : Int) (a2 : Int) (r : Bool) (w : World) (hr0_0 : Kd.C (Kd.int .i64) w A0_0 l0_0.length l0_0) (hc0_0 : l0_0.length ≤ c0_0) (hr1_0 : Kd.C (Kd.int .i64) w A1_0 l1_0.length l1_0) (hc1_0 : l1_0.length ≤ c1_0) (h : trefoillaw12_DequeTells.f k l0_0 a0_1 a0_2 l1_0 a1_1 a1_2 a2 = some r) (hTab : TabOK w := by first | exact hTab | exact TabOK.below hTab HB.out | exact TabOK.drewN hTab _ | exact TabOK.below hTab (by repeat (first | (with_reducible first | exact HB.out | apply below_alloc | apply pw_below_drewN | apply below_drew1 | refine below_set ?_ (Aside0.out (by assumption))) | exact HB.out)) | (repeat (first | exact hTab | apply TabOK.drewN | apply TabOK.drew | apply TabOK.alloc); done)) :
    Calls Tryd.prog 4 #[.agg #[.slice A0_0 l0_0.length c0_0, .int .i64 a0_1, .int .i64 a0_2], .agg #[.slice A1_0 l1_0.length c1_0, .int .i64 a1_1, .int .i64 a1_2], .int .i64 a2] w fun e w' => e = .returned (.bool r) ∧ Below w.heap.size w w' := by
  have hu24 := Tryd.underlying24
  have HR0_0 := Aside0.mk hr0_0
  have HC0_0 := Aside0.mk hc0_0
  clear hr0_0 hc0_0
  have HR1_0 := Aside0.mk hr1_0
  have HC1_0 := Aside0.mk hc1_0
  clear hr1_0 hc1_0
  have HB := Aside0.mk (Below.refl w.heap.size w)
  have H : ((trefoillaw12_awake.f k).bind fun t255 => (if t255 = true then (if (l0_0.length : Int) > 130 then (trefoillaw12_DequeTells.j0 k a2 true l0_0 a0_1 a0_2 l1_0 a1_1 a1_2) else (trefoillaw12_DequeTells.j0 k a2 (decide ((l1_0.length : Int) > 130)) l0_0 a0_1 a0_2 l1_0 a1_1 a1_2)) else (trefoillaw12_DequeTells.j0 k a2 true l0_0 a0_1 a0_2 l1_0 a1_1 a1_2))) = some r := h
  clear h
  have HC4 := Aside0.mk H
  clear H
  go_enter Tryd.func4, Tryd.ntmps4
  go_upto_region 1 with (first | ((with_reducible refine gate_dst (N := 3) rfl ?_); (try (refine gate_guard (by rfl) ?_; dsimp only)); refine box_event ?hg (N := 3) ?hd (cs := #[.slice A0_0 l0_0.length c0_0, .int .i64 a0_1, .int .i64 a0_2]) (t := 24) ?hr ?_; (case hd => rfl); (case hg => rfl); (case hr => first | (go_simp; done) | (go_simp; rfl)); intro gb253 hg w5 hbox hb; have n0_ := Aside0.mk (below_step (by repeat (first | (with_reducible first | exact HB.out | apply below_alloc | apply pw_below_drewN | apply below_drew1) | exact HB.out)) hb); have n1_ := Aside0.mk (hbox); have n2_ := Aside0.mk ((by rw [hg]; exact (below_size (by repeat (first | (with_reducible first | exact HB.out | apply below_alloc | apply pw_below_drewN | apply below_drew1) | exact HB.out))) : w.heap.size ≤ gb253)); have n3_ := Aside0.mk ((by rw [hg]; exact (below_size (by repeat (first | (with_reducible first | exact HB.out | apply below_alloc | apply pw_below_drewN | apply below_drew1) | exact HB.out))) : w.heap.size ≤ gb253)); clear HB; have HB := n0_; have BK253 := n1_; have GW253 := n2_; have GE253 := n3_; clear n0_ n1_ n2_ n3_; clear hb hbox hg) | ((with_reducible refine gate_dst (N := 4) rfl ?_); (try (refine gate_guard (by rfl) ?_; dsimp only)); refine box_event ?hg (N := 4) ?hd (cs := #[.slice A1_0 l1_0.length c1_0, .int .i64 a1_1, .int .i64 a1_2]) (t := 24) ?hr ?_; (case hd => rfl); (case hg => rfl); (case hr => first | (go_simp; done) | (go_simp; rfl)); intro gb254 hg w6 hbox hb; have n0_ := Aside0.mk (blk_below (g := gb253) (o := .cells #[.slice A0_0 l0_0.length c0_0, .int .i64 a0_1, .int .i64 a0_2] 24 (0, 0)) (by (with_reducible repeat (first | refine blk_drewN ?_ _ | refine blk_drew ?_ | refine blk_alloc ?_ _)); exact BK253.out) hb); have n1_ := Aside0.mk (below_step (by repeat (first | (with_reducible first | exact HB.out | apply below_alloc | apply pw_below_drewN | apply below_drew1 | refine below_set ?_ GE253.out) | exact HB.out)) hb); have n2_ := Aside0.mk (hbox); have n3_ := Aside0.mk ((by rw [hg]; exact (below_size (by repeat (first | (with_reducible first | exact HB.out | apply below_alloc | apply pw_below_drewN | apply below_drew1 | refine below_set ?_ GE253.out) | exact HB.out))) : w.heap.size ≤ gb254)); have n4_ := Aside0.mk ((by rw [hg]; exact (below_size (by repeat (first | (with_reducible first | exact HB.out | apply below_alloc | apply pw_below_drewN | apply below_drew1 | refine below_set ?_ GE253.out) | exact HB.out))) : w.heap.size ≤ gb254)); have n5_ := Aside0.mk ((by rw [hg]; exact Nat.ne_of_lt (blk_lt (g := gb253) (o := .cells #[.slice A0_0 l0_0.length c0_0, .int .i64 a0_1, .int .i64 a0_2] 24 (0, 0)) (by (with_reducible repeat (first | refine blk_drewN ?_ _ | refine blk_drew ?_ | refine blk_alloc ?_ _)); exact BK253.out)) : gb253 ≠ gb254)); have n6_ := Aside0.mk ((by rw [hg]; exact Nat.ne_of_gt (blk_lt (g := gb253) (o := .cells #[.slice A0_0 l0_0.length c0_0, .int .i64 a0_1, .int .i64 a0_2] 24 (0, 0)) (by (with_reducible repeat (first | refine blk_drewN ?_ _ | refine blk_drew ?_ | refine blk_alloc ?_ _)); exact BK253.out)) : gb254 ≠ gb253)); clear BK253; clear HB; have BK253 := n0_; have HB := n1_; have BK254 := n2_; have GW254 := n3_; have GE254 := n4_; have NB253_254 := n5_; have NB254_253 := n6_; clear n0_ n1_ n2_ n3_ n4_ n5_ n6_; clear hb hbox hg))
  (try simp only [Act.put, List.setIfInBounds_toArray, List.set_cons_zero, List.set_cons_succ])
  go_cut [28] (fun v28 wc => ∃ (kq : Nat) (x28_3 : Bool), v28 = .bool x28_3 ∧ Aside0 (trefoillaw12_DequeTells.j0 kq a2 x28_3 l0_0 a0_1 a0_2 l1_0 a1_1 a1_2 = some r) ∧ Aside0 (kq ≤ k) ∧ Aside0 (wc.heap[gb253]? = some (.cells #[(.slice A0_0 l0_0.length c0_0), .int .i64 a0_1, .int .i64 a0_2] 24 (0, 0))) ∧ Aside0 (wc.heap[gb254]? = some (.cells #[(.slice A1_0 l1_0.length c1_0), .int .i64 a1_1, .int .i64 a1_2] 24 (0, 0))) ∧ Aside0 (Below w.heap.size w wc))
  case first =>
    have H := HC4.out
    clear HC4
    replace H := Option.bind_eq_some_iff.mp H
    obtain ⟨t255, A70, H⟩ := H
    replace H : (if t255 = true then (if (l0_0.length : Int) > 130 then (trefoillaw12_DequeTells.j0 k a2 true l0_0 a0_1 a0_2 l1_0 a1_1 a1_2) else (trefoillaw12_DequeTells.j0 k a2 (decide ((l1_0.length : Int) > 130)) l0_0 a0_1 a0_2 l1_0 a1_1 a1_2)) else (trefoillaw12_DequeTells.j0 k a2 true l0_0 a0_1 a0_2 l1_0 a1_1 a1_2)) = some r := H
    have A7 := Aside0.mk A70
    clear A70
    by_cases c8 : t255 = true
    · subst c8
      have H1 : (if (l0_0.length : Int) > 130 then (trefoillaw12_DequeTells.j0 k a2 true l0_0 a0_1 a0_2 l1_0 a1_1 a1_2) else (trefoillaw12_DequeTells.j0 k a2 (decide ((l1_0.length : Int) > 130)) l0_0 a0_1 a0_2 l1_0 a1_1 a1_2)) = some r := by rw [if_pos rfl] at H; exact H
      clear H
      have H := H1
      clear H1
      by_cases c9 : (l0_0.length : Int) > 130
      · rw [if_pos c9] at H
        have c9b0 : decide (130 < (l0_0.length : Int)) = true := decide_eq_true c9
        have c9b1 : decide (130 < l0_0.length) = true := decide_eq_true (by omega)
        clear c9
        (first | rw [c9b0] | (simp only [i64_w, i32_w]; rw [c9b0]) | skip)
        have H' := Aside0.mk H
        clear H
        go_wp2_with (first | ((with_reducible refine gate_callee (f := 8) rfl ?_); refine goesL_ (some 15) rfl rfl Tryd.func8 (by kernel_rfl) rfl #[] rfl (by (try simp only [List.map_toArray, List.map_cons, List.map_nil]); first | done | rfl | (simp only [List.length_drop, List.length_take]; rfl)) ?_; (with_reducible refine (trefoillaw12_awake.calls k  true _ A7.out).mono ?_); rintro e w10 ⟨rfl, hb⟩; refine ⟨_, rfl, ?_⟩; have n0_ := Aside0.mk (blk_below (g := gb253) (o := .cells #[.slice A0_0 l0_0.length c0_0, .int .i64 a0_1, .int .i64 a0_2] 24 (0, 0)) (by (with_reducible repeat (first | refine blk_drewN ?_ _ | refine blk_drew ?_ | refine blk_alloc ?_ _)); exact BK253.out) hb); have n1_ := Aside0.mk (blk_below (g := gb254) (o := .cells #[.slice A1_0 l1_0.length c1_0, .int .i64 a1_1, .int .i64 a1_2] 24 (0, 0)) (by (with_reducible repeat (first | refine blk_drewN ?_ _ | refine blk_drew ?_ | refine blk_alloc ?_ _)); exact BK254.out) hb); have n2_ := Aside0.mk (below_step (by repeat (first | (with_reducible first | exact HB.out | apply below_alloc | apply pw_below_drewN | apply below_drew1 | refine below_set ?_ GE253.out | refine below_set ?_ GE254.out) | exact HB.out)) hb); clear BK253; clear BK254; clear HB; have BK253 := n0_; have BK254 := n1_; have HB := n2_; clear n0_ n1_ n2_; (try clear hb); (try clear hb2); (try clear hk); (try clear hi); have hnb11 := NB253_254.out; have hnc11 := NB254_253.out; have hcz12_0 : w10.cell? ⟨gb253, 0, none⟩ = some (.slice A0_0 l0_0.length c0_0) := (blk_cell BK253.out 0).trans rfl; have hcz12_1 : w10.cell? ⟨gb253, 1, none⟩ = some (.int .i64 a0_1) := (blk_cell BK253.out 1).trans rfl; have hcz12_2 : w10.cell? ⟨gb253, 2, none⟩ = some (.int .i64 a0_2) := (blk_cell BK253.out 2).trans rfl; have hfz12_0 := blk_frozen BK253.out 0; have hfz12_1 := blk_frozen BK253.out 1; have hfz12_2 := blk_frozen BK253.out 2))
        go_meet
        case rel => exact ⟨_, (true), (by first | rfl | (simp; done) | (simp [*]; done)), H', ⟨by first | omega | exact Nat.le_refl _⟩, ⟨by (with_reducible repeat (first | refine blk_drewN ?_ _ | refine blk_drew ?_ | refine blk_alloc ?_ _)); exact BK253.out⟩, ⟨by (with_reducible repeat (first | refine blk_drewN ?_ _ | refine blk_drew ?_ | refine blk_alloc ?_ _)); exact BK254.out⟩, ⟨by repeat (first | (with_reducible first | exact HB.out | apply below_alloc | apply pw_below_drewN | apply below_drew1 | refine below_set ?_ GE253.out | refine below_set ?_ GE254.out) | exact HB.out)⟩⟩
      · rw [if_neg c9] at H
        have c9b0 : decide (130 < (l0_0.length : Int)) = false := decide_eq_false c9
        have c9b1 : decide (130 < l0_0.length) = false := decide_eq_false (by omega)
        clear c9
        (first | rw [c9b0] | (simp only [i64_w, i32_w]; rw [c9b0]) | skip)
        have H' := Aside0.mk H
        clear H
        go_wp2_with (first | ((with_reducible refine gate_callee (f := 8) rfl ?_); refine goesL_ (some 15) rfl rfl Tryd.func8 (by kernel_rfl) rfl #[] rfl (by (try simp only [List.map_toArray, List.map_cons, List.map_nil]); first | done | rfl | (simp only [List.length_drop, List.length_take]; rfl)) ?_; (with_reducible refine (trefoillaw12_awake.calls k  true _ A7.out).mono ?_); rintro e w13 ⟨rfl, hb⟩; refine ⟨_, rfl, ?_⟩; have n0_ := Aside0.mk (blk_below (g := gb253) (o := .cells #[.slice A0_0 l0_0.length c0_0, .int .i64 a0_1, .int .i64 a0_2] 24 (0, 0)) (by (with_reducible repeat (first | refine blk_drewN ?_ _ | refine blk_drew ?_ | refine blk_alloc ?_ _)); exact BK253.out) hb); have n1_ := Aside0.mk (blk_below (g := gb254) (o := .cells #[.slice A1_0 l1_0.length c1_0, .int .i64 a1_1, .int .i64 a1_2] 24 (0, 0)) (by (with_reducible repeat (first | refine blk_drewN ?_ _ | refine blk_drew ?_ | refine blk_alloc ?_ _)); exact BK254.out) hb); have n2_ := Aside0.mk (below_step (by repeat (first | (with_reducible first | exact HB.out | apply below_alloc | apply pw_below_drewN | apply below_drew1 | refine below_set ?_ GE253.out | refine below_set ?_ GE254.out) | exact HB.out)) hb); clear BK253; clear BK254; clear HB; have BK253 := n0_; have BK254 := n1_; have HB := n2_; clear n0_ n1_ n2_; (try clear hb); (try clear hb2); (try clear hk); (try clear hi); have hnb14 := NB253_254.out; have hnc14 := NB254_253.out; have hcz15_0 : w13.cell? ⟨gb253, 0, none⟩ = some (.slice A0_0 l0_0.length c0_0) := (blk_cell BK253.out 0).trans rfl; have hcz15_1 : w13.cell? ⟨gb253, 1, none⟩ = some (.int .i64 a0_1) := (blk_cell BK253.out 1).trans rfl; have hcz15_2 : w13.cell? ⟨gb253, 2, none⟩ = some (.int .i64 a0_2) := (blk_cell BK253.out 2).trans rfl; have hfz15_0 := blk_frozen BK253.out 0; have hfz15_1 := blk_frozen BK253.out 1; have hfz15_2 := blk_frozen BK253.out 2; have hcz16_0 : w13.cell? ⟨gb254, 0, none⟩ = some (.slice A1_0 l1_0.length c1_0) := (blk_cell BK254.out 0).trans rfl; have hcz16_1 : w13.cell? ⟨gb254, 1, none⟩ = some (.int .i64 a1_1) := (blk_cell BK254.out 1).trans rfl; have hcz16_2 : w13.cell? ⟨gb254, 2, none⟩ = some (.int .i64 a1_2) := (blk_cell BK254.out 2).trans rfl; have hfz16_0 := blk_frozen BK254.out 0; have hfz16_1 := blk_frozen BK254.out 1; have hfz16_2 := blk_frozen BK254.out 2))
        go_meet
        case rel => exact ⟨_, (decide ((l1_0.length : Int) > 130)), (by first | rfl | (simp; done) | (simp [*]; done)), H', ⟨by first | omega | exact Nat.le_refl _⟩, ⟨by (with_reducible repeat (first | refine blk_drewN ?_ _ | refine blk_drew ?_ | refine blk_alloc ?_ _)); exact BK253.out⟩, ⟨by (with_reducible repeat (first | refine blk_drewN ?_ _ | refine blk_drew ?_ | refine blk_alloc ?_ _)); exact BK254.out⟩, ⟨by repeat (first | (with_reducible first | exact HB.out | apply below_alloc | apply pw_below_drewN | apply below_drew1 | refine below_set ?_ GE253.out | refine below_set ?_ GE254.out) | exact HB.out)⟩⟩
    · replace c8 := Bool.eq_false_iff.mpr c8
      subst c8
      have H1 : (trefoillaw12_DequeTells.j0 k a2 true l0_0 a0_1 a0_2 l1_0 a1_1 a1_2) = some r := by rw [if_neg (show ¬ (false = true) by decide)] at H; exact H
      clear H
      have H := H1
      clear H1
      have H' := Aside0.mk H
      clear H
      go_wp2_with (first | ((with_reducible refine gate_callee (f := 8) rfl ?_); refine goesL_ (some 15) rfl rfl Tryd.func8 (by kernel_rfl) rfl #[] rfl (by (try simp only [List.map_toArray, List.map_cons, List.map_nil]); first | done | rfl | (simp only [List.length_drop, List.length_take]; rfl)) ?_; (with_reducible refine (trefoillaw12_awake.calls k  false _ A7.out).mono ?_); rintro e w17 ⟨rfl, hb⟩; refine ⟨_, rfl, ?_⟩; have n0_ := Aside0.mk (blk_below (g := gb253) (o := .cells #[.slice A0_0 l0_0.length c0_0, .int .i64 a0_1, .int .i64 a0_2] 24 (0, 0)) (by (with_reducible repeat (first | refine blk_drewN ?_ _ | refine blk_drew ?_ | refine blk_alloc ?_ _)); exact BK253.out) hb); have n1_ := Aside0.mk (blk_below (g := gb254) (o := .cells #[.slice A1_0 l1_0.length c1_0, .int .i64 a1_1, .int .i64 a1_2] 24 (0, 0)) (by (with_reducible repeat (first | refine blk_drewN ?_ _ | refine blk_drew ?_ | refine blk_alloc ?_ _)); exact BK254.out) hb); have n2_ := Aside0.mk (below_step (by repeat (first | (with_reducible first | exact HB.out | apply below_alloc | apply pw_below_drewN | apply below_drew1 | refine below_set ?_ GE253.out | refine below_set ?_ GE254.out) | exact HB.out)) hb); clear BK253; clear BK254; clear HB; have BK253 := n0_; have BK254 := n1_; have HB := n2_; clear n0_ n1_ n2_; (try clear hb); (try clear hb2); (try clear hk); (try clear hi)))
      go_meet
      case rel => exact ⟨_, (true), (by first | rfl | (simp; done) | (simp [*]; done)), H', ⟨by first | omega | exact Nat.le_refl _⟩, ⟨by (with_reducible repeat (first | refine blk_drewN ?_ _ | refine blk_drew ?_ | refine blk_alloc ?_ _)); exact BK253.out⟩, ⟨by (with_reducible repeat (first | refine blk_drewN ?_ _ | refine blk_drew ?_ | refine blk_alloc ?_ _)); exact BK254.out⟩, ⟨by repeat (first | (with_reducible first | exact HB.out | apply below_alloc | apply pw_below_drewN | apply below_drew1 | refine below_set ?_ GE253.out | refine below_set ?_ GE254.out) | exact HB.out)⟩⟩
  case rest =>
    clear HC4
    try clear c1
    try clear p2
    try clear c4
    try clear c8
    try clear c9
    try clear c9b0
    try clear c9b1
    try clear c11
    try clear c14
    try clear hcz12_0
    try clear hcz12_1
    try clear hcz12_2
    try clear hcz15_0
    try clear hcz15_1
    try clear hcz15_2
    try clear hcz16_0
    try clear hcz16_1
    try clear hcz16_2
    try clear hfz12_0
    try clear hfz12_1
    try clear hfz12_2
    try clear hfz15_0
    try clear hfz15_1
    try clear hfz15_2
    try clear hfz16_0
    try clear hfz16_1
    try clear hfz16_2
    obtain ⟨kq, x28_3, rfl, HA, HJ3, BK253, BK254, HB⟩ := hcut
    cases kq with
    | zero => exact absurd HA.out (by simp [trefoillaw12_DequeTells.j0])
    | succ kj3 =>
      have H := HA.out
      clear HA
      simp only [trefoillaw12_DequeTells.j0] at H
      by_cases c18 : x28_3 = true
      · subst c18
        have H1 : ((trefoillaw12_awake.f kj3).bind fun t256 => (some t256)) = some r := by rw [if_pos rfl] at H; exact H
        clear H
        have H := H1
        clear H1
        replace H := Option.bind_eq_some_iff.mp H
        obtain ⟨t256, A190, H⟩ := H
        replace H : (some t256) = some r := H
        have A19 := Aside0.mk A190
        clear A190
        obtain rfl := Option.some.inj H
        go_wp2_with (first | ((with_reducible refine gate_callee (f := 8) rfl ?_); refine goesL_ (some 29) rfl rfl Tryd.func8 (by kernel_rfl) rfl #[] rfl (by (try simp only [List.map_toArray, List.map_cons, List.map_nil]); first | done | rfl | (simp only [List.length_drop, List.length_take]; rfl)) ?_; (with_reducible refine (trefoillaw12_awake.calls kj3  t256 _ A19.out).mono ?_); rintro e w20 ⟨rfl, hb⟩; refine ⟨_, rfl, ?_⟩; have n0_ := Aside0.mk (blk_below (g := gb253) (o := .cells #[.slice A0_0 l0_0.length c0_0, .int .i64 a0_1, .int .i64 a0_2] 24 (0, 0)) (by (with_reducible repeat (first | refine blk_drewN ?_ _ | refine blk_drew ?_ | refine blk_alloc ?_ _)); exact BK253.out) hb); have n1_ := Aside0.mk (blk_below (g := gb254) (o := .cells #[.slice A1_0 l1_0.length c1_0, .int .i64 a1_1, .int .i64 a1_2] 24 (0, 0)) (by (with_reducible repeat (first | refine blk_drewN ?_ _ | refine blk_drew ?_ | refine blk_alloc ?_ _)); exact BK254.out) hb); have n2_ := Aside0.mk (below_step (by repeat (first | (with_reducible first | exact HB.out | apply below_alloc | apply pw_below_drewN | apply below_drew1 | refine below_set ?_ GE253.out | refine below_set ?_ GE254.out) | exact HB.out)) hb); clear BK253; clear BK254; clear HB; have BK253 := n0_; have BK254 := n1_; have HB := n2_; clear n0_ n1_ n2_; (try clear hb); (try clear hb2); (try clear hk); (try clear hi)))
        go_ret
        exact ⟨by first | rfl | (simp [errW_none, errW_some] <;> rfl) | (simp [*, errW_none, errW_some] <;> rfl), by repeat (first | (with_reducible first | exact HB.out | apply below_alloc | apply pw_below_drewN | apply below_drew1 | refine below_set ?_ GE253.out | refine below_set ?_ GE254.out) | exact HB.out)⟩
      · replace c18 := Bool.eq_false_iff.mpr c18
        subst c18
        have H1 : ((trefoillaw12_Own.f l0_0 a0_1 a0_2).bind fun bt257 => ((deque_Push.f kj3 bt257.1 bt257.2.1 bt257.2.2 a2).bind fun bt262 => ((trefoilref12_Push.f kj3 l0_0 a0_1 a0_2 a2).bind fun bt269 => ((deque_New.f a2).bind fun bt276 => ((trefoillaw12_Own.f l0_0 a0_1 a0_2).bind fun bt283 => ((deque_Items.f kj3 bt283.1 bt283.2.1 bt283.2.2).bind fun t288 => ((trefoilref12_Check.f kj3 l0_0 a0_1 a0_2).bind fun t291 => (if t291 = true then ((trefoilref12_Items.f kj3 l0_0 a0_1 a0_2).bind fun t292 => ((trefoilref02_Ints.f kj3 t288 t292).bind fun t295 => (if t295 = true then ((trefoilref12_Size.f kj3 a2).bind fun t296 => (trefoillaw12_DequeTells.j1 kj3 a2 bt262.2.2.2 bt269.2.2.2 bt276.2.2.2 t291 ((bt276.2.2.2 == 0) != t296) l0_0 a0_1 a0_2 l1_0 a1_1 a1_2 bt262.1 bt262.2.1 bt262.2.2.1 bt269.1 bt269.2.1 bt269.2.2.1 bt276.1 bt276.2.1 bt276.2.2.1)) else (trefoillaw12_DequeTells.j1 kj3 a2 bt262.2.2.2 bt269.2.2.2 bt276.2.2.2 t291 true l0_0 a0_1 a0_2 l1_0 a1_1 a1_2 bt262.1 bt262.2.1 bt262.2.2.1 bt269.1 bt269.2.1 bt269.2.2.1 bt276.1 bt276.2.1 bt276.2.2.1)))) else (if (t288.length : Int) > 0 then (trefoillaw12_DequeTells.j1 kj3 a2 bt262.2.2.2 bt269.2.2.2 bt276.2.2.2 t291 true l0_0 a0_1 a0_2 l1_0 a1_1 a1_2 bt262.1 bt262.2.1 bt262.2.2.1 bt269.1 bt269.2.1 bt269.2.2.1 bt276.1 bt276.2.1 bt276.2.2.1) else ((trefoilref12_Size.f kj3 a2).bind fun t297 => (trefoillaw12_DequeTells.j1 kj3 a2 bt262.2.2.2 bt269.2.2.2 bt276.2.2.2 t291 ((bt276.2.2.2 == 0) != t297) l0_0 a0_1 a0_2 l1_0 a1_1 a1_2 bt262.1 bt262.2.1 bt262.2.2.1 bt269.1 bt269.2.1 bt269.2.2.1 bt276.1 bt276.2.1 bt276.2.2.1))))))))))) = some r := by rw [if_neg (show ¬ (false = true) by decide)] at H; exact H
        clear H
        have H := H1
        clear H1
        replace H := Option.bind_eq_some_iff.mp H
        obtain ⟨⟨t257, t260, t261⟩, A210, H⟩ := H
        replace H : ((deque_Push.f kj3 t257 t260 t261 a2).bind fun bt262 => ((trefoilref12_Push.f kj3 l0_0 a0_1 a0_2 a2).bind fun bt269 => ((deque_New.f a2).bind fun bt276 => ((trefoillaw12_Own.f l0_0 a0_1 a0_2).bind fun bt283 => ((deque_Items.f kj3 bt283.1 bt283.2.1 bt283.2.2).bind fun t288 => ((trefoilref12_Check.f kj3 l0_0 a0_1 a0_2).bind fun t291 => (if t291 = true then ((trefoilref12_Items.f kj3 l0_0 a0_1 a0_2).bind fun t292 => ((trefoilref02_Ints.f kj3 t288 t292).bind fun t295 => (if t295 = true then ((trefoilref12_Size.f kj3 a2).bind fun t296 => (trefoillaw12_DequeTells.j1 kj3 a2 bt262.2.2.2 bt269.2.2.2 bt276.2.2.2 t291 ((bt276.2.2.2 == 0) != t296) l0_0 a0_1 a0_2 l1_0 a1_1 a1_2 bt262.1 bt262.2.1 bt262.2.2.1 bt269.1 bt269.2.1 bt269.2.2.1 bt276.1 bt276.2.1 bt276.2.2.1)) else (trefoillaw12_DequeTells.j1 kj3 a2 bt262.2.2.2 bt269.2.2.2 bt276.2.2.2 t291 true l0_0 a0_1 a0_2 l1_0 a1_1 a1_2 bt262.1 bt262.2.1 bt262.2.2.1 bt269.1 bt269.2.1 bt269.2.2.1 bt276.1 bt276.2.1 bt276.2.2.1)))) else (if (t288.length : Int) > 0 then (trefoillaw12_DequeTells.j1 kj3 a2 bt262.2.2.2 bt269.2.2.2 bt276.2.2.2 t291 true l0_0 a0_1 a0_2 l1_0 a1_1 a1_2 bt262.1 bt262.2.1 bt262.2.2.1 bt269.1 bt269.2.1 bt269.2.2.1 bt276.1 bt276.2.1 bt276.2.2.1) else ((trefoilref12_Size.f kj3 a2).bind fun t297 => (trefoillaw12_DequeTells.j1 kj3 a2 bt262.2.2.2 bt269.2.2.2 bt276.2.2.2 t291 ((bt276.2.2.2 == 0) != t297) l0_0 a0_1 a0_2 l1_0 a1_1 a1_2 bt262.1 bt262.2.1 bt262.2.2.1 bt269.1 bt269.2.1 bt269.2.2.1 bt276.1 bt276.2.1 bt276.2.2.1)))))))))) = some r := H
        have A21 := Aside0.mk A210
        clear A210
        replace H := Option.bind_eq_some_iff.mp H
        obtain ⟨⟨t262, t265, t266, t267⟩, A220, H⟩ := H
        replace H : ((trefoilref12_Push.f kj3 l0_0 a0_1 a0_2 a2).bind fun bt269 => ((deque_New.f a2).bind fun bt276 => ((trefoillaw12_Own.f l0_0 a0_1 a0_2).bind fun bt283 => ((deque_Items.f kj3 bt283.1 bt283.2.1 bt283.2.2).bind fun t288 => ((trefoilref12_Check.f kj3 l0_0 a0_1 a0_2).bind fun t291 => (if t291 = true then ((trefoilref12_Items.f kj3 l0_0 a0_1 a0_2).bind fun t292 => ((trefoilref02_Ints.f kj3 t288 t292).bind fun t295 => (if t295 = true then ((trefoilref12_Size.f kj3 a2).bind fun t296 => (trefoillaw12_DequeTells.j1 kj3 a2 t267 bt269.2.2.2 bt276.2.2.2 t291 ((bt276.2.2.2 == 0) != t296) l0_0 a0_1 a0_2 l1_0 a1_1 a1_2 t262 t265 t266 bt269.1 bt269.2.1 bt269.2.2.1 bt276.1 bt276.2.1 bt276.2.2.1)) else (trefoillaw12_DequeTells.j1 kj3 a2 t267 bt269.2.2.2 bt276.2.2.2 t291 true l0_0 a0_1 a0_2 l1_0 a1_1 a1_2 t262 t265 t266 bt269.1 bt269.2.1 bt269.2.2.1 bt276.1 bt276.2.1 bt276.2.2.1)))) else (if (t288.length : Int) > 0 then (trefoillaw12_DequeTells.j1 kj3 a2 t267 bt269.2.2.2 bt276.2.2.2 t291 true l0_0 a0_1 a0_2 l1_0 a1_1 a1_2 t262 t265 t266 bt269.1 bt269.2.1 bt269.2.2.1 bt276.1 bt276.2.1 bt276.2.2.1) else ((trefoilref12_Size.f kj3 a2).bind fun t297 => (trefoillaw12_DequeTells.j1 kj3 a2 t267 bt269.2.2.2 bt276.2.2.2 t291 ((bt276.2.2.2 == 0) != t297) l0_0 a0_1 a0_2 l1_0 a1_1 a1_2 t262 t265 t266 bt269.1 bt269.2.1 bt269.2.2.1 bt276.1 bt276.2.1 bt276.2.2.1))))))))) = some r := H
        have A22 := Aside0.mk A220
        clear A220
        replace H := Option.bind_eq_some_iff.mp H
        obtain ⟨⟨t269, t272, t273, t274⟩, A230, H⟩ := H
        replace H : ((deque_New.f a2).bind fun bt276 => ((trefoillaw12_Own.f l0_0 a0_1 a0_2).bind fun bt283 => ((deque_Items.f kj3 bt283.1 bt283.2.1 bt283.2.2).bind fun t288 => ((trefoilref12_Check.f kj3 l0_0 a0_1 a0_2).bind fun t291 => (if t291 = true then ((trefoilref12_Items.f kj3 l0_0 a0_1 a0_2).bind fun t292 => ((trefoilref02_Ints.f kj3 t288 t292).bind fun t295 => (if t295 = true then ((trefoilref12_Size.f kj3 a2).bind fun t296 => (trefoillaw12_DequeTells.j1 kj3 a2 t267 t274 bt276.2.2.2 t291 ((bt276.2.2.2 == 0) != t296) l0_0 a0_1 a0_2 l1_0 a1_1 a1_2 t262 t265 t266 t269 t272 t273 bt276.1 bt276.2.1 bt276.2.2.1)) else (trefoillaw12_DequeTells.j1 kj3 a2 t267 t274 bt276.2.2.2 t291 true l0_0 a0_1 a0_2 l1_0 a1_1 a1_2 t262 t265 t266 t269 t272 t273 bt276.1 bt276.2.1 bt276.2.2.1)))) else (if (t288.length : Int) > 0 then (trefoillaw12_DequeTells.j1 kj3 a2 t267 t274 bt276.2.2.2 t291 true l0_0 a0_1 a0_2 l1_0 a1_1 a1_2 t262 t265 t266 t269 t272 t273 bt276.1 bt276.2.1 bt276.2.2.1) else ((trefoilref12_Size.f kj3 a2).bind fun t297 => (trefoillaw12_DequeTells.j1 kj3 a2 t267 t274 bt276.2.2.2 t291 ((bt276.2.2.2 == 0) != t297) l0_0 a0_1 a0_2 l1_0 a1_1 a1_2 t262 t265 t266 t269 t272 t273 bt276.1 bt276.2.1 bt276.2.2.1)))))))) = some r := H
        have A23 := Aside0.mk A230
        clear A230
        replace H := Option.bind_eq_some_iff.mp H
        obtain ⟨⟨t276, t279, t280, t281⟩, A240, H⟩ := H
        replace H : ((trefoillaw12_Own.f l0_0 a0_1 a0_2).bind fun bt283 => ((deque_Items.f kj3 bt283.1 bt283.2.1 bt283.2.2).bind fun t288 => ((trefoilref12_Check.f kj3 l0_0 a0_1 a0_2).bind fun t291 => (if t291 = true then ((trefoilref12_Items.f kj3 l0_0 a0_1 a0_2).bind fun t292 => ((trefoilref02_Ints.f kj3 t288 t292).bind fun t295 => (if t295 = true then ((trefoilref12_Size.f kj3 a2).bind fun t296 => (trefoillaw12_DequeTells.j1 kj3 a2 t267 t274 t281 t291 ((t281 == 0) != t296) l0_0 a0_1 a0_2 l1_0 a1_1 a1_2 t262 t265 t266 t269 t272 t273 t276 t279 t280)) else (trefoillaw12_DequeTells.j1 kj3 a2 t267 t274 t281 t291 true l0_0 a0_1 a0_2 l1_0 a1_1 a1_2 t262 t265 t266 t269 t272 t273 t276 t279 t280)))) else (if (t288.length : Int) > 0 then (trefoillaw12_DequeTells.j1 kj3 a2 t267 t274 t281 t291 true l0_0 a0_1 a0_2 l1_0 a1_1 a1_2 t262 t265 t266 t269 t272 t273 t276 t279 t280) else ((trefoilref12_Size.f kj3 a2).bind fun t297 => (trefoillaw12_DequeTells.j1 kj3 a2 t267 t274 t281 t291 ((t281 == 0) != t297) l0_0 a0_1 a0_2 l1_0 a1_1 a1_2 t262 t265 t266 t269 t272 t273 t276 t279 t280))))))) = some r := H
        have A24 := Aside0.mk A240
        clear A240
        replace H := Option.bind_eq_some_iff.mp H
        obtain ⟨⟨t283, t286, t287⟩, A250, H⟩ := H
        replace H : ((deque_Items.f kj3 t283 t286 t287).bind fun t288 => ((trefoilref12_Check.f kj3 l0_0 a0_1 a0_2).bind fun t291 => (if t291 = true then ((trefoilref12_Items.f kj3 l0_0 a0_1 a0_2).bind fun t292 => ((trefoilref02_Ints.f kj3 t288 t292).bind fun t295 => (if t295 = true then ((trefoilref12_Size.f kj3 a2).bind fun t296 => (trefoillaw12_DequeTells.j1 kj3 a2 t267 t274 t281 t291 ((t281 == 0) != t296) l0_0 a0_1 a0_2 l1_0 a1_1 a1_2 t262 t265 t266 t269 t272 t273 t276 t279 t280)) else (trefoillaw12_DequeTells.j1 kj3 a2 t267 t274 t281 t291 true l0_0 a0_1 a0_2 l1_0 a1_1 a1_2 t262 t265 t266 t269 t272 t273 t276 t279 t280)))) else (if (t288.length : Int) > 0 then (trefoillaw12_DequeTells.j1 kj3 a2 t267 t274 t281 t291 true l0_0 a0_1 a0_2 l1_0 a1_1 a1_2 t262 t265 t266 t269 t272 t273 t276 t279 t280) else ((trefoilref12_Size.f kj3 a2).bind fun t297 => (trefoillaw12_DequeTells.j1 kj3 a2 t267 t274 t281 t291 ((t281 == 0) != t297) l0_0 a0_1 a0_2 l1_0 a1_1 a1_2 t262 t265 t266 t269 t272 t273 t276 t279 t280)))))) = some r := H
        have A25 := Aside0.mk A250
        clear A250
        replace H := Option.bind_eq_some_iff.mp H
        obtain ⟨t288, A260, H⟩ := H
        replace H : ((trefoilref12_Check.f kj3 l0_0 a0_1 a0_2).bind fun t291 => (if t291 = true then ((trefoilref12_Items.f kj3 l0_0 a0_1 a0_2).bind fun t292 => ((trefoilref02_Ints.f kj3 t288 t292).bind fun t295 => (if t295 = true then ((trefoilref12_Size.f kj3 a2).bind fun t296 => (trefoillaw12_DequeTells.j1 kj3 a2 t267 t274 t281 t291 ((t281 == 0) != t296) l0_0 a0_1 a0_2 l1_0 a1_1 a1_2 t262 t265 t266 t269 t272 t273 t276 t279 t280)) else (trefoillaw12_DequeTells.j1 kj3 a2 t267 t274 t281 t291 true l0_0 a0_1 a0_2 l1_0 a1_1 a1_2 t262 t265 t266 t269 t272 t273 t276 t279 t280)))) else (if (t288.length : Int) > 0 then (trefoillaw12_DequeTells.j1 kj3 a2 t267 t274 t281 t291 true l0_0 a0_1 a0_2 l1_0 a1_1 a1_2 t262 t265 t266 t269 t272 t273 t276 t279 t280) else ((trefoilref12_Size.f kj3 a2).bind fun t297 => (trefoillaw12_DequeTells.j1 kj3 a2 t267 t274 t281 t291 ((t281 == 0) != t297) l0_0 a0_1 a0_2 l1_0 a1_1 a1_2 t262 t265 t266 t269 t272 t273 t276 t279 t280))))) = some r := H
        have A26 := Aside0.mk A260
        clear A260
        replace H := Option.bind_eq_some_iff.mp H
        obtain ⟨t291, A270, H⟩ := H
        replace H : (if t291 = true then ((trefoilref12_Items.f kj3 l0_0 a0_1 a0_2).bind fun t292 => ((trefoilref02_Ints.f kj3 t288 t292).bind fun t295 => (if t295 = true then ((trefoilref12_Size.f kj3 a2).bind fun t296 => (trefoillaw12_DequeTells.j1 kj3 a2 t267 t274 t281 t291 ((t281 == 0) != t296) l0_0 a0_1 a0_2 l1_0 a1_1 a1_2 t262 t265 t266 t269 t272 t273 t276 t279 t280)) else (trefoillaw12_DequeTells.j1 kj3 a2 t267 t274 t281 t291 true l0_0 a0_1 a0_2 l1_0 a1_1 a1_2 t262 t265 t266 t269 t272 t273 t276 t279 t280)))) else (if (t288.length : Int) > 0 then (trefoillaw12_DequeTells.j1 kj3 a2 t267 t274 t281 t291 true l0_0 a0_1 a0_2 l1_0 a1_1 a1_2 t262 t265 t266 t269 t272 t273 t276 t279 t280) else ((trefoilref12_Size.f kj3 a2).bind fun t297 => (trefoillaw12_DequeTells.j1 kj3 a2 t267 t274 t281 t291 ((t281 == 0) != t297) l0_0 a0_1 a0_2 l1_0 a1_1 a1_2 t262 t265 t266 t269 t272 t273 t276 t279 t280)))) = some r := H
        have A27 := Aside0.mk A270
        clear A270
        have HC28 := Aside0.mk H
        clear H
        have hnb29 := NB253_254.out
        have hnc29 := NB254_253.out
        have hcz30_0 : wc.cell? ⟨gb253, 0, none⟩ = some (.slice A0_0 l0_0.length c0_0) := (blk_cell BK253.out 0).trans rfl
        have hcz30_1 : wc.cell? ⟨gb253, 1, none⟩ = some (.int .i64 a0_1) := (blk_cell BK253.out 1).trans rfl
        have hcz30_2 : wc.cell? ⟨gb253, 2, none⟩ = some (.int .i64 a0_2) := (blk_cell BK253.out 2).trans rfl
        have hfz30_0 := blk_frozen BK253.out 0
        have hfz30_1 := blk_frozen BK253.out 1
        have hfz30_2 := blk_frozen BK253.out 2
        go_upto_region 8 with (first | ((with_reducible refine gate_callee (f := 10) rfl ?_); refine goesL_ (some 32) rfl rfl Tryd.func10 (by kernel_rfl) rfl #[.agg #[.slice A0_0 l0_0.length c0_0, .int .i64 a0_1, .int .i64 a0_2]] rfl (by (try simp only [List.map_toArray, List.map_cons, List.map_nil]); first | done | rfl | (simp only [List.length_drop, List.length_take]; rfl)) ?_; (with_reducible refine (trefoillaw12_Own.calls _ _ l0_0 a0_1 a0_2 t257 t260 t261 _ ?side1 ?side2 A21.out).mono ?_); (case side1 => repeat (first | exact (Kd.C_below HR0_0.out HB.out) | (with_reducible refine Kd.C_alloc ?_ _) | (with_reducible refine Kd.C_drewN ?_ _) | (with_reducible refine Kd.C_drew ?_))); (case side2 => exact HC0_0.out); rintro e w31 ⟨v258, rfl, ho0, hb⟩; refine ⟨_, rfl, ?_⟩; have n0_ := Aside0.mk (Kd.R_lower ho0 (below_size (by repeat (first | (with_reducible first | exact HB.out | apply below_alloc | apply pw_below_drewN | apply below_drew1 | refine below_set ?_ GE253.out | refine below_set ?_ GE254.out) | exact HB.out)))); have n1_ := Aside0.mk (blk_below (g := gb253) (o := .cells #[.slice A0_0 l0_0.length c0_0, .int .i64 a0_1, .int .i64 a0_2] 24 (0, 0)) (by (with_reducible repeat (first | refine blk_drewN ?_ _ | refine blk_drew ?_ | refine blk_alloc ?_ _)); exact BK253.out) hb); have n2_ := Aside0.mk (blk_below (g := gb254) (o := .cells #[.slice A1_0 l1_0.length c1_0, .int .i64 a1_1, .int .i64 a1_2] 24 (0, 0)) (by (with_reducible repeat (first | refine blk_drewN ?_ _ | refine blk_drew ?_ | refine blk_alloc ?_ _)); exact BK254.out) hb); have n3_ := Aside0.mk (below_step (by repeat (first | (with_reducible first | exact HB.out | apply below_alloc | apply pw_below_drewN | apply below_drew1 | refine below_set ?_ GE253.out | refine below_set ?_ GE254.out) | exact HB.out)) hb); clear BK253; clear BK254; clear HB; have HO259 := n0_; have BK253 := n1_; have BK254 := n2_; have HB := n3_; clear n0_ n1_ n2_ n3_; (try clear hb); (try clear hb2); (try clear hk); (try clear hi); (try clear ho0); obtain ⟨Ao32, co32, eo32⟩ := Kd.R_slice HO259.out; subst eo32) | ((with_reducible refine gate_callee (f := 15) rfl ?_); refine goesL_ (some 34) rfl rfl Tryd.func15 (by kernel_rfl) rfl #[.agg #[.slice Ao32 t257.length co32, .int .i64 t260, .int .i64 t261], .int .i64 a2] rfl (by (try simp only [List.map_toArray, List.map_cons, List.map_nil]); first | done | rfl | (simp only [List.length_drop, List.length_take]; rfl)) ?_; (with_reducible refine (deque_Push.calls kj3 _ _ t257 t260 t261 a2 t262 t265 t266 t267 _ ?side1 ?side2 A22.out).mono ?_); (case side1 => repeat (first | exact (Kd.R_reads' HO259.out).2.2 | (with_reducible refine Kd.C_alloc ?_ _) | (with_reducible refine Kd.C_drewN ?_ _) | (with_reducible refine Kd.C_drew ?_))); (case side2 => exact (Kd.R_reads' HO259.out).2.1); rintro e w33 ⟨v263, rfl, ho0, hb⟩; refine ⟨_, rfl, ?_⟩; have n0_ := Aside0.mk (Kd.R_elder' (by (with_reducible repeat (first | apply Kd.R_alloc | apply Kd.R_drewN | apply Kd.R_drew)); exact HO259.out) (Kd.R_base ho0) hb); have n1_ := Aside0.mk (Kd.R_lower (Kd.R_new' ho0 (Kd.R_lt (by (with_reducible repeat (first | apply Kd.R_alloc | apply Kd.R_drewN | apply Kd.R_drew)); exact HO259.out))) (below_size (by repeat (first | (with_reducible first | exact HB.out | apply below_alloc | apply pw_below_drewN | apply below_drew1 | refine below_set ?_ GE253.out | refine below_set ?_ GE254.out) | exact HB.out)))); have n2_ := Aside0.mk (blk_below (g := gb253) (o := .cells #[.slice A0_0 l0_0.length c0_0, .int .i64 a0_1, .int .i64 a0_2] 24 (0, 0)) (by (with_reducible repeat (first | refine blk_drewN ?_ _ | refine blk_drew ?_ | refine blk_alloc ?_ _)); exact BK253.out) hb); have n3_ := Aside0.mk (blk_below (g := gb254) (o := .cells #[.slice A1_0 l1_0.length c1_0, .int .i64 a1_1, .int .i64 a1_2] 24 (0, 0)) (by (with_reducible repeat (first | refine blk_drewN ?_ _ | refine blk_drew ?_ | refine blk_alloc ?_ _)); exact BK254.out) hb); have n4_ := Aside0.mk (below_step (by repeat (first | (with_reducible first | exact HB.out | apply below_alloc | apply pw_below_drewN | apply below_drew1 | refine below_set ?_ GE253.out | refine below_set ?_ GE254.out) | exact HB.out)) hb); clear HO259; clear BK253; clear BK254; clear HB; have HO259 := n0_; have HO264 := n1_; have BK253 := n2_; have BK254 := n3_; have HB := n4_; clear n0_ n1_ n2_ n3_ n4_; (try clear hb); (try clear hb2); (try clear hk); (try clear hi); (try clear ho0)) | ((with_reducible refine gate_dst (N := 7) rfl ?_); (try (refine gate_guard (by rfl) ?_; dsimp only)); refine box_event ?hg (N := 7) ?hd (cs := #[.slice none 0 0, .int .i64 0, .int .i64 0]) (t := 24) ?hr ?_; (case hd => rfl); (case hg => rfl); (case hr => first | (go_simp; done) | (go_simp; rfl)); intro gb268 hg w34 hbox hb; have n0_ := Aside0.mk (Kd.R_below (by (with_reducible repeat (first | apply Kd.R_alloc | apply Kd.R_drewN | apply Kd.R_drew)); exact HO259.out) hb); have n1_ := Aside0.mk (Kd.R_below (by (with_reducible repeat (first | apply Kd.R_alloc | apply Kd.R_drewN | apply Kd.R_drew)); exact HO264.out) hb); have n2_ := Aside0.mk (blk_below (g := gb253) (o := .cells #[.slice A0_0 l0_0.length c0_0, .int .i64 a0_1, .int .i64 a0_2] 24 (0, 0)) (by (with_reducible repeat (first | refine blk_drewN ?_ _ | refine blk_drew ?_ | refine blk_alloc ?_ _)); exact BK253.out) hb); have n3_ := Aside0.mk (blk_below (g := gb254) (o := .cells #[.slice A1_0 l1_0.length c1_0, .int .i64 a1_1, .int .i64 a1_2] 24 (0, 0)) (by (with_reducible repeat (first | refine blk_drewN ?_ _ | refine blk_drew ?_ | refine blk_alloc ?_ _)); exact BK254.out) hb); have n4_ := Aside0.mk (below_step (by repeat (first | (with_reducible first | exact HB.out | apply below_alloc | apply pw_below_drewN | apply below_drew1 | refine below_set ?_ GE253.out | refine below_set ?_ GE254.out) | exact HB.out)) hb); have n5_ := Aside0.mk (hbox); have n6_ := Aside0.mk ((by rw [hg]; exact (below_size (by repeat (first | (with_reducible first | exact HB.out | apply below_alloc | apply pw_below_drewN | apply below_drew1 | refine below_set ?_ GE253.out | refine below_set ?_ GE254.out) | exact HB.out))) : w.heap.size ≤ gb268)); have n7_ := Aside0.mk ((by rw [hg]; exact (below_size (by repeat (first | (with_reducible first | exact HB.out | apply below_alloc | apply pw_below_drewN | apply below_drew1 | refine below_set ?_ GE253.out | refine below_set ?_ GE254.out) | exact HB.out))) : w.heap.size ≤ gb268)); have n8_ := Aside0.mk ((by rw [hg]; exact Nat.ne_of_lt (blk_lt (g := gb253) (o := .cells #[.slice A0_0 l0_0.length c0_0, .int .i64 a0_1, .int .i64 a0_2] 24 (0, 0)) (by (with_reducible repeat (first | refine blk_drewN ?_ _ | refine blk_drew ?_ | refine blk_alloc ?_ _)); exact BK253.out)) : gb253 ≠ gb268)); have n9_ := Aside0.mk ((by rw [hg]; exact Nat.ne_of_gt (blk_lt (g := gb253) (o := .cells #[.slice A0_0 l0_0.length c0_0, .int .i64 a0_1, .int .i64 a0_2] 24 (0, 0)) (by (with_reducible repeat (first | refine blk_drewN ?_ _ | refine blk_drew ?_ | refine blk_alloc ?_ _)); exact BK253.out)) : gb268 ≠ gb253)); have n10_ := Aside0.mk ((by rw [hg]; exact Nat.ne_of_lt (blk_lt (g := gb254) (o := .cells #[.slice A1_0 l1_0.length c1_0, .int .i64 a1_1, .int .i64 a1_2] 24 (0, 0)) (by (with_reducible repeat (first | refine blk_drewN ?_ _ | refine blk_drew ?_ | refine blk_alloc ?_ _)); exact BK254.out)) : gb254 ≠ gb268)); have n11_ := Aside0.mk ((by rw [hg]; exact Nat.ne_of_gt (blk_lt (g := gb254) (o := .cells #[.slice A1_0 l1_0.length c1_0, .int .i64 a1_1, .int .i64 a1_2] 24 (0, 0)) (by (with_reducible repeat (first | refine blk_drewN ?_ _ | refine blk_drew ?_ | refine blk_alloc ?_ _)); exact BK254.out)) : gb268 ≠ gb254)); clear HO259; clear HO264; clear BK253; clear BK254; clear HB; have HO259 := n0_; have HO264 := n1_; have BK253 := n2_; have BK254 := n3_; have HB := n4_; have BK268 := n5_; have GW268 := n6_; have GE268 := n7_; have NB253_268 := n8_; have NB268_253 := n9_; have NB254_268 := n10_; have NB268_254 := n11_; clear n0_ n1_ n2_ n3_ n4_ n5_ n6_ n7_ n8_ n9_ n10_ n11_; clear hb hbox hg; obtain ⟨Ao35, co35, eo35⟩ := Kd.R_slice HO264.out; subst eo35; have hnb36 := NB268_253.out; have hnc36 := NB253_268.out; have hnb37 := NB268_254.out; have hnc37 := NB254_268.out; have hcz38_0 : w34.cell? ⟨gb268, 0, none⟩ = some (.slice none 0 0) := (blk_cell BK268.out 0).trans rfl; have hcz38_1 : w34.cell? ⟨gb268, 1, none⟩ = some (.int .i64 0) := (blk_cell BK268.out 1).trans rfl; have hcz38_2 : w34.cell? ⟨gb268, 2, none⟩ = some (.int .i64 0) := (blk_cell BK268.out 2).trans rfl; have hfz38_0 := blk_frozen BK268.out 0; have hfz38_1 := blk_frozen BK268.out 1; have hfz38_2 := blk_frozen BK268.out 2; have hcz39_0 : w34.cell? ⟨gb253, 0, none⟩ = some (.slice A0_0 l0_0.length c0_0) := (blk_cell BK253.out 0).trans rfl; have hcz39_1 : w34.cell? ⟨gb253, 1, none⟩ = some (.int .i64 a0_1) := (blk_cell BK253.out 1).trans rfl; have hcz39_2 : w34.cell? ⟨gb253, 2, none⟩ = some (.int .i64 a0_2) := (blk_cell BK253.out 2).trans rfl; have hfz39_0 := blk_frozen BK253.out 0; have hfz39_1 := blk_frozen BK253.out 1; have hfz39_2 := blk_frozen BK253.out 2) | ((with_reducible refine gate_callee (f := 16) rfl ?_); refine goesL_ (some 40) rfl rfl Tryd.func16 (by kernel_rfl) rfl #[.agg #[.slice A0_0 l0_0.length c0_0, .int .i64 a0_1, .int .i64 a0_2], .int .i64 a2] rfl (by (try simp only [List.map_toArray, List.map_cons, List.map_nil]); first | done | rfl | (simp only [List.length_drop, List.length_take]; rfl)) ?_; (with_reducible refine (trefoilref12_Push.calls kj3 _ _ l0_0 a0_1 a0_2 a2 t269 t272 t273 t274 _ ?side1 ?side2 A23.out).mono ?_); (case side1 => exact Kd.C_below HR0_0.out (by repeat (first | (with_reducible first | exact HB.out | apply below_alloc | apply pw_below_drewN | apply below_drew1 | refine below_set ?_ GE253.out | refine below_set ?_ GE254.out | refine below_set ?_ GE268.out) | exact HB.out))); (case side2 => exact HC0_0.out); rintro e w40 ⟨v270, rfl, ho0, hb⟩; refine ⟨_, rfl, ?_⟩; have n0_ := Aside0.mk (Kd.R_elder' (by (with_reducible repeat (first | apply Kd.R_alloc | apply Kd.R_drewN | apply Kd.R_drew)); exact (Kd.R_mono (Kd.R_far (p := ⟨gb268, 2, none⟩) (Kd.R_far (p := ⟨gb268, 1, none⟩) (Kd.R_far (p := ⟨gb268, 0, none⟩) (Kd.R_types HO259.out BK268.out (by decide)) (fun _ hk => hk.2) (.slice Ao35 t262.length co35)) (fun _ hk => hk.2) (.int .i64 t265)) (fun _ hk => hk.2) (.int .i64 t266)) (fun _ h_ => h_.1))) (Kd.R_base ho0) hb); have n1_ := Aside0.mk (Kd.R_elder' (by (with_reducible repeat (first | apply Kd.R_alloc | apply Kd.R_drewN | apply Kd.R_drew)); exact (Kd.R_mono (Kd.R_far (p := ⟨gb268, 2, none⟩) (Kd.R_far (p := ⟨gb268, 1, none⟩) (Kd.R_far (p := ⟨gb268, 0, none⟩) (Kd.R_types HO264.out BK268.out (by decide)) (fun _ hk => hk.2) (.slice Ao35 t262.length co35)) (fun _ hk => hk.2) (.int .i64 t265)) (fun _ hk => hk.2) (.int .i64 t266)) (fun _ h_ => h_.1))) (Kd.R_base ho0) hb); have n2_ := Aside0.mk (Kd.R_lower (Kd.R_new' (Kd.R_new' ho0 (Kd.R_lt (by (with_reducible repeat (first | apply Kd.R_alloc | apply Kd.R_drewN | apply Kd.R_drew)); exact (Kd.R_mono (Kd.R_far (p := ⟨gb268, 2, none⟩) (Kd.R_far (p := ⟨gb268, 1, none⟩) (Kd.R_far (p := ⟨gb268, 0, none⟩) (Kd.R_types HO259.out BK268.out (by decide)) (fun _ hk => hk.2) (.slice Ao35 t262.length co35)) (fun _ hk => hk.2) (.int .i64 t265)) (fun _ hk => hk.2) (.int .i64 t266)) (fun _ h_ => h_.1))))) (Kd.R_lt (by (with_reducible repeat (first | apply Kd.R_alloc | apply Kd.R_drewN | apply Kd.R_drew)); exact (Kd.R_mono (Kd.R_far (p := ⟨gb268, 2, none⟩) (Kd.R_far (p := ⟨gb268, 1, none⟩) (Kd.R_far (p := ⟨gb268, 0, none⟩) (Kd.R_types HO264.out BK268.out (by decide)) (fun _ hk => hk.2) (.slice Ao35 t262.length co35)) (fun _ hk => hk.2) (.int .i64 t265)) (fun _ hk => hk.2) (.int .i64 t266)) (fun _ h_ => h_.1))))) (below_size (by repeat (first | (with_reducible first | exact HB.out | apply below_alloc | apply pw_below_drewN | apply below_drew1 | refine below_set ?_ GE253.out | refine below_set ?_ GE254.out | refine below_set ?_ GE268.out) | exact HB.out)))); have n3_ := Aside0.mk (blk_below (g := gb253) (o := .cells #[.slice A0_0 l0_0.length c0_0, .int .i64 a0_1, .int .i64 a0_2] 24 (0, 0)) (by (with_reducible repeat (first | refine blk_drewN ?_ _ | refine blk_drew ?_ | refine blk_alloc ?_ _)); refine blk_far ?_ NB253_268.out _; (with_reducible repeat (first | refine blk_drewN ?_ _ | refine blk_drew ?_ | refine blk_alloc ?_ _)); refine blk_far ?_ NB253_268.out _; (with_reducible repeat (first | refine blk_drewN ?_ _ | refine blk_drew ?_ | refine blk_alloc ?_ _)); refine blk_far ?_ NB253_268.out _; (with_reducible repeat (first | refine blk_drewN ?_ _ | refine blk_drew ?_ | refine blk_alloc ?_ _)); exact BK253.out) hb); have n4_ := Aside0.mk (blk_below (g := gb254) (o := .cells #[.slice A1_0 l1_0.length c1_0, .int .i64 a1_1, .int .i64 a1_2] 24 (0, 0)) (by (with_reducible repeat (first | refine blk_drewN ?_ _ | refine blk_drew ?_ | refine blk_alloc ?_ _)); refine blk_far ?_ NB254_268.out _; (with_reducible repeat (first | refine blk_drewN ?_ _ | refine blk_drew ?_ | refine blk_alloc ?_ _)); refine blk_far ?_ NB254_268.out _; (with_reducible repeat (first | refine blk_drewN ?_ _ | refine blk_drew ?_ | refine blk_alloc ?_ _)); refine blk_far ?_ NB254_268.out _; (with_reducible repeat (first | refine blk_drewN ?_ _ | refine blk_drew ?_ | refine blk_alloc ?_ _)); exact BK254.out) hb); have n5_ := Aside0.mk (blk_below (g := gb268) (o := .cells #[.slice Ao35 t262.length co35, .int .i64 t265, .int .i64 t266] 24 (0, 0)) (by (with_reducible repeat (first | refine blk_drewN ?_ _ | refine blk_drew ?_ | refine blk_alloc ?_ _)); refine blk_put (cs := #[.slice Ao35 t262.length co35, .int .i64 t265, .int .i64 0]) ?_ 2 _ rfl; (with_reducible repeat (first | refine blk_drewN ?_ _ | refine blk_drew ?_ | refine blk_alloc ?_ _)); refine blk_put (cs := #[.slice Ao35 t262.length co35, .int .i64 0, .int .i64 0]) ?_ 1 _ rfl; (with_reducible repeat (first | refine blk_drewN ?_ _ | refine blk_drew ?_ | refine blk_alloc ?_ _)); refine blk_put (cs := #[.slice none 0 0, .int .i64 0, .int .i64 0]) ?_ 0 _ rfl; (with_reducible repeat (first | refine blk_drewN ?_ _ | refine blk_drew ?_ | refine blk_alloc ?_ _)); exact BK268.out) hb); have n6_ := Aside0.mk (below_step (by repeat (first | (with_reducible first | exact HB.out | apply below_alloc | apply pw_below_drewN | apply below_drew1 | refine below_set ?_ GE253.out | refine below_set ?_ GE254.out | refine below_set ?_ GE268.out) | exact HB.out)) hb); clear HO259; clear HO264; clear BK253; clear BK254; clear BK268; clear HB; have HO259 := n0_; have HO264 := n1_; have HO271 := n2_; have BK253 := n3_; have BK254 := n4_; have BK268 := n5_; have HB := n6_; clear n0_ n1_ n2_ n3_ n4_ n5_ n6_; (try clear hb); (try clear hb2); (try clear hk); (try clear hi); (try clear ho0)) | ((with_reducible refine gate_dst (N := 9) rfl ?_); (try (refine gate_guard (by rfl) ?_; dsimp only)); refine box_event ?hg (N := 9) ?hd (cs := #[.slice none 0 0, .int .i64 0, .int .i64 0]) (t := 24) ?hr ?_; (case hd => rfl); (case hg => rfl); (case hr => first | (go_simp; done) | (go_simp; rfl)); intro gb275 hg w41 hbox hb; have n0_ := Aside0.mk (Kd.R_below (by (with_reducible repeat (first | apply Kd.R_alloc | apply Kd.R_drewN | apply Kd.R_drew)); exact HO259.out) hb); have n1_ := Aside0.mk (Kd.R_below (by (with_reducible repeat (first | apply Kd.R_alloc | apply Kd.R_drewN | apply Kd.R_drew)); exact HO264.out) hb); have n2_ := Aside0.mk (Kd.R_below (by (with_reducible repeat (first | apply Kd.R_alloc | apply Kd.R_drewN | apply Kd.R_drew)); exact HO271.out) hb); have n3_ := Aside0.mk (blk_below (g := gb253) (o := .cells #[.slice A0_0 l0_0.length c0_0, .int .i64 a0_1, .int .i64 a0_2] 24 (0, 0)) (by (with_reducible repeat (first | refine blk_drewN ?_ _ | refine blk_drew ?_ | refine blk_alloc ?_ _)); exact BK253.out) hb); have n4_ := Aside0.mk (blk_below (g := gb254) (o := .cells #[.slice A1_0 l1_0.length c1_0, .int .i64 a1_1, .int .i64 a1_2] 24 (0, 0)) (by (with_reducible repeat (first | refine blk_drewN ?_ _ | refine blk_drew ?_ | refine blk_alloc ?_ _)); exact BK254.out) hb); have n5_ := Aside0.mk (blk_below (g := gb268) (o := .cells #[.slice Ao35 t262.length co35, .int .i64 t265, .int .i64 t266] 24 (0, 0)) (by (with_reducible repeat (first | refine blk_drewN ?_ _ | refine blk_drew ?_ | refine blk_alloc ?_ _)); exact BK268.out) hb); have n6_ := Aside0.mk (below_step (by repeat (first | (with_reducible first | exact HB.out | apply below_alloc | apply pw_below_drewN | apply below_drew1 | refine below_set ?_ GE253.out | refine below_set ?_ GE254.out | refine below_set ?_ GE268.out) | exact HB.out)) hb); have n7_ := Aside0.mk (hbox); have n8_ := Aside0.mk ((by rw [hg]; exact (below_size (by repeat (first | (with_reducible first | exact HB.out | apply below_alloc | apply pw_below_drewN | apply below_drew1 | refine below_set ?_ GE253.out | refine below_set ?_ GE254.out | refine below_set ?_ GE268.out) | exact HB.out))) : w.heap.size ≤ gb275)); have n9_ := Aside0.mk ((by rw [hg]; exact (below_size (by repeat (first | (with_reducible first | exact HB.out | apply below_alloc | apply pw_below_drewN | apply below_drew1 | refine below_set ?_ GE253.out | refine below_set ?_ GE254.out | refine below_set ?_ GE268.out) | exact HB.out))) : w.heap.size ≤ gb275)); have n10_ := Aside0.mk ((by rw [hg]; exact Nat.ne_of_lt (blk_lt (g := gb253) (o := .cells #[.slice A0_0 l0_0.length c0_0, .int .i64 a0_1, .int .i64 a0_2] 24 (0, 0)) (by (with_reducible repeat (first | refine blk_drewN ?_ _ | refine blk_drew ?_ | refine blk_alloc ?_ _)); exact BK253.out)) : gb253 ≠ gb275)); have n11_ := Aside0.mk ((by rw [hg]; exact Nat.ne_of_gt (blk_lt (g := gb253) (o := .cells #[.slice A0_0 l0_0.length c0_0, .int .i64 a0_1, .int .i64 a0_2] 24 (0, 0)) (by (with_reducible repeat (first | refine blk_drewN ?_ _ | refine blk_drew ?_ | refine blk_alloc ?_ _)); exact BK253.out)) : gb275 ≠ gb253)); have n12_ := Aside0.mk ((by rw [hg]; exact Nat.ne_of_lt (blk_lt (g := gb254) (o := .cells #[.slice A1_0 l1_0.length c1_0, .int .i64 a1_1, .int .i64 a1_2] 24 (0, 0)) (by (with_reducible repeat (first | refine blk_drewN ?_ _ | refine blk_drew ?_ | refine blk_alloc ?_ _)); exact BK254.out)) : gb254 ≠ gb275)); have n13_ := Aside0.mk ((by rw [hg]; exact Nat.ne_of_gt (blk_lt (g := gb254) (o := .cells #[.slice A1_0 l1_0.length c1_0, .int .i64 a1_1, .int .i64 a1_2] 24 (0, 0)) (by (with_reducible repeat (first | refine blk_drewN ?_ _ | refine blk_drew ?_ | refine blk_alloc ?_ _)); exact BK254.out)) : gb275 ≠ gb254)); have n14_ := Aside0.mk ((by rw [hg]; exact Nat.ne_of_lt (blk_lt (g := gb268) (o := .cells #[.slice Ao35 t262.length co35, .int .i64 t265, .int .i64 t266] 24 (0, 0)) (by (with_reducible repeat (first | refine blk_drewN ?_ _ | refine blk_drew ?_ | refine blk_alloc ?_ _)); exact BK268.out)) : gb268 ≠ gb275)); have n15_ := Aside0.mk ((by rw [hg]; exact Nat.ne_of_gt (blk_lt (g := gb268) (o := .cells #[.slice Ao35 t262.length co35, .int .i64 t265, .int .i64 t266] 24 (0, 0)) (by (with_reducible repeat (first | refine blk_drewN ?_ _ | refine blk_drew ?_ | refine blk_alloc ?_ _)); exact BK268.out)) : gb275 ≠ gb268)); clear HO259; clear HO264; clear HO271; clear BK253; clear BK254; clear BK268; clear HB; have HO259 := n0_; have HO264 := n1_; have HO271 := n2_; have BK253 := n3_; have BK254 := n4_; have BK268 := n5_; have HB := n6_; have BK275 := n7_; have GW275 := n8_; have GE275 := n9_; have NB253_275 := n10_; have NB275_253 := n11_; have NB254_275 := n12_; have NB275_254 := n13_; have NB268_275 := n14_; have NB275_268 := n15_; clear n0_ n1_ n2_ n3_ n4_ n5_ n6_ n7_ n8_ n9_ n10_ n11_ n12_ n13_ n14_ n15_; clear hb hbox hg; obtain ⟨Ao42, co42, eo42⟩ := Kd.R_slice HO271.out; subst eo42; have hnb43 := NB275_253.out; have hnc43 := NB253_275.out; have hnb44 := NB275_254.out; have hnc44 := NB254_275.out; have hnb45 := NB275_268.out; have hnc45 := NB268_275.out; have hcz46_0 : w41.cell? ⟨gb275, 0, none⟩ = some (.slice none 0 0) := (blk_cell BK275.out 0).trans rfl; have hcz46_1 : w41.cell? ⟨gb275, 1, none⟩ = some (.int .i64 0) := (blk_cell BK275.out 1).trans rfl; have hcz46_2 : w41.cell? ⟨gb275, 2, none⟩ = some (.int .i64 0) := (blk_cell BK275.out 2).trans rfl; have hfz46_0 := blk_frozen BK275.out 0; have hfz46_1 := blk_frozen BK275.out 1; have hfz46_2 := blk_frozen BK275.out 2) | ((with_reducible refine gate_callee (f := 17) rfl ?_); refine goesL_ (some 45) rfl rfl Tryd.func17 (by kernel_rfl) rfl #[.int .i64 a2] rfl (by (try simp only [List.map_toArray, List.map_cons, List.map_nil]); first | done | rfl | (simp only [List.length_drop, List.length_take]; rfl)) ?_; (with_reducible refine (deque_New.calls a2 t276 t279 t280 t281 _ A24.out).mono ?_); rintro e w47 ⟨v277, rfl, ho0, hb⟩; refine ⟨_, rfl, ?_⟩; have n0_ := Aside0.mk (Kd.R_elder' (by (with_reducible repeat (first | apply Kd.R_alloc | apply Kd.R_drewN | apply Kd.R_drew)); exact (Kd.R_mono (Kd.R_far (p := ⟨gb275, 2, none⟩) (Kd.R_far (p := ⟨gb275, 1, none⟩) (Kd.R_far (p := ⟨gb275, 0, none⟩) (Kd.R_types HO259.out BK275.out (by decide)) (fun _ hk => hk.2) (.slice Ao42 t269.length co42)) (fun _ hk => hk.2) (.int .i64 t272)) (fun _ hk => hk.2) (.int .i64 t273)) (fun _ h_ => h_.1))) (Kd.R_base ho0) hb); have n1_ := Aside0.mk (Kd.R_elder' (by (with_reducible repeat (first | apply Kd.R_alloc | apply Kd.R_drewN | apply Kd.R_drew)); exact (Kd.R_mono (Kd.R_far (p := ⟨gb275, 2, none⟩) (Kd.R_far (p := ⟨gb275, 1, none⟩) (Kd.R_far (p := ⟨gb275, 0, none⟩) (Kd.R_types HO264.out BK275.out (by decide)) (fun _ hk => hk.2) (.slice Ao42 t269.length co42)) (fun _ hk => hk.2) (.int .i64 t272)) (fun _ hk => hk.2) (.int .i64 t273)) (fun _ h_ => h_.1))) (Kd.R_base ho0) hb); have n2_ := Aside0.mk (Kd.R_elder' (by (with_reducible repeat (first | apply Kd.R_alloc | apply Kd.R_drewN | apply Kd.R_drew)); exact (Kd.R_mono (Kd.R_far (p := ⟨gb275, 2, none⟩) (Kd.R_far (p := ⟨gb275, 1, none⟩) (Kd.R_far (p := ⟨gb275, 0, none⟩) (Kd.R_types HO271.out BK275.out (by decide)) (fun _ hk => hk.2) (.slice Ao42 t269.length co42)) (fun _ hk => hk.2) (.int .i64 t272)) (fun _ hk => hk.2) (.int .i64 t273)) (fun _ h_ => h_.1))) (Kd.R_base ho0) hb); have n3_ := Aside0.mk (Kd.R_lower (Kd.R_new' (Kd.R_new' (Kd.R_new' ho0 (Kd.R_lt (by (with_reducible repeat (first | apply Kd.R_alloc | apply Kd.R_drewN | apply Kd.R_drew)); exact (Kd.R_mono (Kd.R_far (p := ⟨gb275, 2, none⟩) (Kd.R_far (p := ⟨gb275, 1, none⟩) (Kd.R_far (p := ⟨gb275, 0, none⟩) (Kd.R_types HO259.out BK275.out (by decide)) (fun _ hk => hk.2) (.slice Ao42 t269.length co42)) (fun _ hk => hk.2) (.int .i64 t272)) (fun _ hk => hk.2) (.int .i64 t273)) (fun _ h_ => h_.1))))) (Kd.R_lt (by (with_reducible repeat (first | apply Kd.R_alloc | apply Kd.R_drewN | apply Kd.R_drew)); exact (Kd.R_mono (Kd.R_far (p := ⟨gb275, 2, none⟩) (Kd.R_far (p := ⟨gb275, 1, none⟩) (Kd.R_far (p := ⟨gb275, 0, none⟩) (Kd.R_types HO264.out BK275.out (by decide)) (fun _ hk => hk.2) (.slice Ao42 t269.length co42)) (fun _ hk => hk.2) (.int .i64 t272)) (fun _ hk => hk.2) (.int .i64 t273)) (fun _ h_ => h_.1))))) (Kd.R_lt (by (with_reducible repeat (first | apply Kd.R_alloc | apply Kd.R_drewN | apply Kd.R_drew)); exact (Kd.R_mono (Kd.R_far (p := ⟨gb275, 2, none⟩) (Kd.R_far (p := ⟨gb275, 1, none⟩) (Kd.R_far (p := ⟨gb275, 0, none⟩) (Kd.R_types HO271.out BK275.out (by decide)) (fun _ hk => hk.2) (.slice Ao42 t269.length co42)) (fun _ hk => hk.2) (.int .i64 t272)) (fun _ hk => hk.2) (.int .i64 t273)) (fun _ h_ => h_.1))))) (below_size (by repeat (first | (with_reducible first | exact HB.out | apply below_alloc | apply pw_below_drewN | apply below_drew1 | refine below_set ?_ GE253.out | refine below_set ?_ GE254.out | refine below_set ?_ GE268.out | refine below_set ?_ GE275.out) | exact HB.out)))); have n4_ := Aside0.mk (blk_below (g := gb253) (o := .cells #[.slice A0_0 l0_0.length c0_0, .int .i64 a0_1, .int .i64 a0_2] 24 (0, 0)) (by (with_reducible repeat (first | refine blk_drewN ?_ _ | refine blk_drew ?_ | refine blk_alloc ?_ _)); refine blk_far ?_ NB253_275.out _; (with_reducible repeat (first | refine blk_drewN ?_ _ | refine blk_drew ?_ | refine blk_alloc ?_ _)); refine blk_far ?_ NB253_275.out _; (with_reducible repeat (first | refine blk_drewN ?_ _ | refine blk_drew ?_ | refine blk_alloc ?_ _)); refine blk_far ?_ NB253_275.out _; (with_reducible repeat (first | refine blk_drewN ?_ _ | refine blk_drew ?_ | refine blk_alloc ?_ _)); exact BK253.out) hb); have n5_ := Aside0.mk (blk_below (g := gb254) (o := .cells #[.slice A1_0 l1_0.length c1_0, .int .i64 a1_1, .int .i64 a1_2] 24 (0, 0)) (by (with_reducible repeat (first | refine blk_drewN ?_ _ | refine blk_drew ?_ | refine blk_alloc ?_ _)); refine blk_far ?_ NB254_275.out _; (with_reducible repeat (first | refine blk_drewN ?_ _ | refine blk_drew ?_ | refine blk_alloc ?_ _)); refine blk_far ?_ NB254_275.out _; (with_reducible repeat (first | refine blk_drewN ?_ _ | refine blk_drew ?_ | refine blk_alloc ?_ _)); refine blk_far ?_ NB254_275.out _; (with_reducible repeat (first | refine blk_drewN ?_ _ | refine blk_drew ?_ | refine blk_alloc ?_ _)); exact BK254.out) hb); have n6_ := Aside0.mk (blk_below (g := gb268) (o := .cells #[.slice Ao35 t262.length co35, .int .i64 t265, .int .i64 t266] 24 (0, 0)) (by (with_reducible repeat (first | refine blk_drewN ?_ _ | refine blk_drew ?_ | refine blk_alloc ?_ _)); refine blk_far ?_ NB268_275.out _; (with_reducible repeat (first | refine blk_drewN ?_ _ | refine blk_drew ?_ | refine blk_alloc ?_ _)); refine blk_far ?_ NB268_275.out _; (with_reducible repeat (first | refine blk_drewN ?_ _ | refine blk_drew ?_ | refine blk_alloc ?_ _)); refine blk_far ?_ NB268_275.out _; (with_reducible repeat (first | refine blk_drewN ?_ _ | refine blk_drew ?_ | refine blk_alloc ?_ _)); exact BK268.out) hb); have n7_ := Aside0.mk (blk_below (g := gb275) (o := .cells #[.slice Ao42 t269.length co42, .int .i64 t272, .int .i64 t273] 24 (0, 0)) (by (with_reducible repeat (first | refine blk_drewN ?_ _ | refine blk_drew ?_ | refine blk_alloc ?_ _)); refine blk_put (cs := #[.slice Ao42 t269.length co42, .int .i64 t272, .int .i64 0]) ?_ 2 _ rfl; (with_reducible repeat (first | refine blk_drewN ?_ _ | refine blk_drew ?_ | refine blk_alloc ?_ _)); refine blk_put (cs := #[.slice Ao42 t269.length co42, .int .i64 0, .int .i64 0]) ?_ 1 _ rfl; (with_reducible repeat (first | refine blk_drewN ?_ _ | refine blk_drew ?_ | refine blk_alloc ?_ _)); refine blk_put (cs := #[.slice none 0 0, .int .i64 0, .int .i64 0]) ?_ 0 _ rfl; (with_reducible repeat (first | refine blk_drewN ?_ _ | refine blk_drew ?_ | refine blk_alloc ?_ _)); exact BK275.out) hb); have n8_ := Aside0.mk (below_step (by repeat (first | (with_reducible first | exact HB.out | apply below_alloc | apply pw_below_drewN | apply below_drew1 | refine below_set ?_ GE253.out | refine below_set ?_ GE254.out | refine below_set ?_ GE268.out | refine below_set ?_ GE275.out) | exact HB.out)) hb); clear HO259; clear HO264; clear HO271; clear BK253; clear BK254; clear BK268; clear BK275; clear HB; have HO259 := n0_; have HO264 := n1_; have HO271 := n2_; have HO278 := n3_; have BK253 := n4_; have BK254 := n5_; have BK268 := n6_; have BK275 := n7_; have HB := n8_; clear n0_ n1_ n2_ n3_ n4_ n5_ n6_ n7_ n8_; (try clear hb); (try clear hb2); (try clear hk); (try clear hi); (try clear ho0)) | ((with_reducible refine gate_dst (N := 11) rfl ?_); (try (refine gate_guard (by rfl) ?_; dsimp only)); refine box_event ?hg (N := 11) ?hd (cs := #[.slice none 0 0, .int .i64 0, .int .i64 0]) (t := 24) ?hr ?_; (case hd => rfl); (case hg => rfl); (case hr => first | (go_simp; done) | (go_simp; rfl)); intro gb282 hg w48 hbox hb; have n0_ := Aside0.mk (Kd.R_below (by (with_reducible repeat (first | apply Kd.R_alloc | apply Kd.R_drewN | apply Kd.R_drew)); exact HO259.out) hb); have n1_ := Aside0.mk (Kd.R_below (by (with_reducible repeat (first | apply Kd.R_alloc | apply Kd.R_drewN | apply Kd.R_drew)); exact HO264.out) hb); have n2_ := Aside0.mk (Kd.R_below (by (with_reducible repeat (first | apply Kd.R_alloc | apply Kd.R_drewN | apply Kd.R_drew)); exact HO271.out) hb); have n3_ := Aside0.mk (Kd.R_below (by (with_reducible repeat (first | apply Kd.R_alloc | apply Kd.R_drewN | apply Kd.R_drew)); exact HO278.out) hb); have n4_ := Aside0.mk (blk_below (g := gb253) (o := .cells #[.slice A0_0 l0_0.length c0_0, .int .i64 a0_1, .int .i64 a0_2] 24 (0, 0)) (by (with_reducible repeat (first | refine blk_drewN ?_ _ | refine blk_drew ?_ | refine blk_alloc ?_ _)); exact BK253.out) hb); have n5_ := Aside0.mk (blk_below (g := gb254) (o := .cells #[.slice A1_0 l1_0.length c1_0, .int .i64 a1_1, .int .i64 a1_2] 24 (0, 0)) (by (with_reducible repeat (first | refine blk_drewN ?_ _ | refine blk_drew ?_ | refine blk_alloc ?_ _)); exact BK254.out) hb); have n6_ := Aside0.mk (blk_below (g := gb268) (o := .cells #[.slice Ao35 t262.length co35, .int .i64 t265, .int .i64 t266] 24 (0, 0)) (by (with_reducible repeat (first | refine blk_drewN ?_ _ | refine blk_drew ?_ | refine blk_alloc ?_ _)); exact BK268.out) hb); have n7_ := Aside0.mk (blk_below (g := gb275) (o := .cells #[.slice Ao42 t269.length co42, .int .i64 t272, .int .i64 t273] 24 (0, 0)) (by (with_reducible repeat (first | refine blk_drewN ?_ _ | refine blk_drew ?_ | refine blk_alloc ?_ _)); exact BK275.out) hb); have n8_ := Aside0.mk (below_step (by repeat (first | (with_reducible first | exact HB.out | apply below_alloc | apply pw_below_drewN | apply below_drew1 | refine below_set ?_ GE253.out | refine below_set ?_ GE254.out | refine below_set ?_ GE268.out | refine below_set ?_ GE275.out) | exact HB.out)) hb); have n9_ := Aside0.mk (hbox); have n10_ := Aside0.mk ((by rw [hg]; exact (below_size (by repeat (first | (with_reducible first | exact HB.out | apply below_alloc | apply pw_below_drewN | apply below_drew1 | refine below_set ?_ GE253.out | refine below_set ?_ GE254.out | refine below_set ?_ GE268.out | refine below_set ?_ GE275.out) | exact HB.out))) : w.heap.size ≤ gb282)); have n11_ := Aside0.mk ((by rw [hg]; exact (below_size (by repeat (first | (with_reducible first | exact HB.out | apply below_alloc | apply pw_below_drewN | apply below_drew1 | refine below_set ?_ GE253.out | refine below_set ?_ GE254.out | refine below_set ?_ GE268.out | refine below_set ?_ GE275.out) | exact HB.out))) : w.heap.size ≤ gb282)); have n12_ := Aside0.mk ((by rw [hg]; exact Nat.ne_of_lt (blk_lt (g := gb253) (o := .cells #[.slice A0_0 l0_0.length c0_0, .int .i64 a0_1, .int .i64 a0_2] 24 (0, 0)) (by (with_reducible repeat (first | refine blk_drewN ?_ _ | refine blk_drew ?_ | refine blk_alloc ?_ _)); exact BK253.out)) : gb253 ≠ gb282)); have n13_ := Aside0.mk ((by rw [hg]; exact Nat.ne_of_gt (blk_lt (g := gb253) (o := .cells #[.slice A0_0 l0_0.length c0_0, .int .i64 a0_1, .int .i64 a0_2] 24 (0, 0)) (by (with_reducible repeat (first | refine blk_drewN ?_ _ | refine blk_drew ?_ | refine blk_alloc ?_ _)); exact BK253.out)) : gb282 ≠ gb253)); have n14_ := Aside0.mk ((by rw [hg]; exact Nat.ne_of_lt (blk_lt (g := gb254) (o := .cells #[.slice A1_0 l1_0.length c1_0, .int .i64 a1_1, .int .i64 a1_2] 24 (0, 0)) (by (with_reducible repeat (first | refine blk_drewN ?_ _ | refine blk_drew ?_ | refine blk_alloc ?_ _)); exact BK254.out)) : gb254 ≠ gb282)); have n15_ := Aside0.mk ((by rw [hg]; exact Nat.ne_of_gt (blk_lt (g := gb254) (o := .cells #[.slice A1_0 l1_0.length c1_0, .int .i64 a1_1, .int .i64 a1_2] 24 (0, 0)) (by (with_reducible repeat (first | refine blk_drewN ?_ _ | refine blk_drew ?_ | refine blk_alloc ?_ _)); exact BK254.out)) : gb282 ≠ gb254)); have n16_ := Aside0.mk ((by rw [hg]; exact Nat.ne_of_lt (blk_lt (g := gb268) (o := .cells #[.slice Ao35 t262.length co35, .int .i64 t265, .int .i64 t266] 24 (0, 0)) (by (with_reducible repeat (first | refine blk_drewN ?_ _ | refine blk_drew ?_ | refine blk_alloc ?_ _)); exact BK268.out)) : gb268 ≠ gb282)); have n17_ := Aside0.mk ((by rw [hg]; exact Nat.ne_of_gt (blk_lt (g := gb268) (o := .cells #[.slice Ao35 t262.length co35, .int .i64 t265, .int .i64 t266] 24 (0, 0)) (by (with_reducible repeat (first | refine blk_drewN ?_ _ | refine blk_drew ?_ | refine blk_alloc ?_ _)); exact BK268.out)) : gb282 ≠ gb268)); have n18_ := Aside0.mk ((by rw [hg]; exact Nat.ne_of_lt (blk_lt (g := gb275) (o := .cells #[.slice Ao42 t269.length co42, .int .i64 t272, .int .i64 t273] 24 (0, 0)) (by (with_reducible repeat (first | refine blk_drewN ?_ _ | refine blk_drew ?_ | refine blk_alloc ?_ _)); exact BK275.out)) : gb275 ≠ gb282)); have n19_ := Aside0.mk ((by rw [hg]; exact Nat.ne_of_gt (blk_lt (g := gb275) (o := .cells #[.slice Ao42 t269.length co42, .int .i64 t272, .int .i64 t273] 24 (0, 0)) (by (with_reducible repeat (first | refine blk_drewN ?_ _ | refine blk_drew ?_ | refine blk_alloc ?_ _)); exact BK275.out)) : gb282 ≠ gb275)); clear HO259; clear HO264; clear HO271; clear HO278; clear BK253; clear BK254; clear BK268; clear BK275; clear HB; have HO259 := n0_; have HO264 := n1_; have HO271 := n2_; have HO278 := n3_; have BK253 := n4_; have BK254 := n5_; have BK268 := n6_; have BK275 := n7_; have HB := n8_; have BK282 := n9_; have GW282 := n10_; have GE282 := n11_; have NB253_282 := n12_; have NB282_253 := n13_; have NB254_282 := n14_; have NB282_254 := n15_; have NB268_282 := n16_; have NB282_268 := n17_; have NB275_282 := n18_; have NB282_275 := n19_; clear n0_ n1_ n2_ n3_ n4_ n5_ n6_ n7_ n8_ n9_ n10_ n11_ n12_ n13_ n14_ n15_ n16_ n17_ n18_ n19_; clear hb hbox hg; obtain ⟨Ao49, co49, eo49⟩ := Kd.R_slice HO278.out; subst eo49; have hnb50 := NB282_253.out; have hnc50 := NB253_282.out; have hnb51 := NB282_254.out; have hnc51 := NB254_282.out; have hnb52 := NB282_268.out; have hnc52 := NB268_282.out; have hnb53 := NB282_275.out; have hnc53 := NB275_282.out; have hcz54_0 : w48.cell? ⟨gb282, 0, none⟩ = some (.slice none 0 0) := (blk_cell BK282.out 0).trans rfl; have hcz54_1 : w48.cell? ⟨gb282, 1, none⟩ = some (.int .i64 0) := (blk_cell BK282.out 1).trans rfl; have hcz54_2 : w48.cell? ⟨gb282, 2, none⟩ = some (.int .i64 0) := (blk_cell BK282.out 2).trans rfl; have hfz54_0 := blk_frozen BK282.out 0; have hfz54_1 := blk_frozen BK282.out 1; have hfz54_2 := blk_frozen BK282.out 2; have hcz55_0 : w48.cell? ⟨gb253, 0, none⟩ = some (.slice A0_0 l0_0.length c0_0) := (blk_cell BK253.out 0).trans rfl; have hcz55_1 : w48.cell? ⟨gb253, 1, none⟩ = some (.int .i64 a0_1) := (blk_cell BK253.out 1).trans rfl; have hcz55_2 : w48.cell? ⟨gb253, 2, none⟩ = some (.int .i64 a0_2) := (blk_cell BK253.out 2).trans rfl; have hfz55_0 := blk_frozen BK253.out 0; have hfz55_1 := blk_frozen BK253.out 1; have hfz55_2 := blk_frozen BK253.out 2) | ((with_reducible refine gate_callee (f := 10) rfl ?_); refine goesL_ (some 49) rfl rfl Tryd.func10 (by kernel_rfl) rfl #[.agg #[.slice A0_0 l0_0.length c0_0, .int .i64 a0_1, .int .i64 a0_2]] rfl (by (try simp only [List.map_toArray, List.map_cons, List.map_nil]); first | done | rfl | (simp only [List.length_drop, List.length_take]; rfl)) ?_; (with_reducible refine (trefoillaw12_Own.calls _ _ l0_0 a0_1 a0_2 t283 t286 t287 _ ?side1 ?side2 A25.out).mono ?_); (case side1 => exact Kd.C_below HR0_0.out (by repeat (first | (with_reducible first | exact HB.out | apply below_alloc | apply pw_below_drewN | apply below_drew1 | refine below_set ?_ GE253.out | refine below_set ?_ GE254.out | refine below_set ?_ GE268.out | refine below_set ?_ GE275.out | refine below_set ?_ GE282.out) | exact HB.out))); (case side2 => exact HC0_0.out); rintro e w56 ⟨v284, rfl, ho0, hb⟩; refine ⟨_, rfl, ?_⟩; have n0_ := Aside0.mk (Kd.R_elder' (by (with_reducible repeat (first | apply Kd.R_alloc | apply Kd.R_drewN | apply Kd.R_drew)); exact (Kd.R_mono (Kd.R_far (p := ⟨gb282, 2, none⟩) (Kd.R_far (p := ⟨gb282, 1, none⟩) (Kd.R_far (p := ⟨gb282, 0, none⟩) (Kd.R_types HO259.out BK282.out (by decide)) (fun _ hk => hk.2) (.slice Ao49 t276.length co49)) (fun _ hk => hk.2) (.int .i64 t279)) (fun _ hk => hk.2) (.int .i64 t280)) (fun _ h_ => h_.1))) (Kd.R_base ho0) hb); have n1_ := Aside0.mk (Kd.R_elder' (by (with_reducible repeat (first | apply Kd.R_alloc | apply Kd.R_drewN | apply Kd.R_drew)); exact (Kd.R_mono (Kd.R_far (p := ⟨gb282, 2, none⟩) (Kd.R_far (p := ⟨gb282, 1, none⟩) (Kd.R_far (p := ⟨gb282, 0, none⟩) (Kd.R_types HO264.out BK282.out (by decide)) (fun _ hk => hk.2) (.slice Ao49 t276.length co49)) (fun _ hk => hk.2) (.int .i64 t279)) (fun _ hk => hk.2) (.int .i64 t280)) (fun _ h_ => h_.1))) (Kd.R_base ho0) hb); have n2_ := Aside0.mk (Kd.R_elder' (by (with_reducible repeat (first | apply Kd.R_alloc | apply Kd.R_drewN | apply Kd.R_drew)); exact (Kd.R_mono (Kd.R_far (p := ⟨gb282, 2, none⟩) (Kd.R_far (p := ⟨gb282, 1, none⟩) (Kd.R_far (p := ⟨gb282, 0, none⟩) (Kd.R_types HO271.out BK282.out (by decide)) (fun _ hk => hk.2) (.slice Ao49 t276.length co49)) (fun _ hk => hk.2) (.int .i64 t279)) (fun _ hk => hk.2) (.int .i64 t280)) (fun _ h_ => h_.1))) (Kd.R_base ho0) hb); have n3_ := Aside0.mk (Kd.R_elder' (by (with_reducible repeat (first | apply Kd.R_alloc | apply Kd.R_drewN | apply Kd.R_drew)); exact (Kd.R_mono (Kd.R_far (p := ⟨gb282, 2, none⟩) (Kd.R_far (p := ⟨gb282, 1, none⟩) (Kd.R_far (p := ⟨gb282, 0, none⟩) (Kd.R_types HO278.out BK282.out (by decide)) (fun _ hk => hk.2) (.slice Ao49 t276.length co49)) (fun _ hk => hk.2) (.int .i64 t279)) (fun _ hk => hk.2) (.int .i64 t280)) (fun _ h_ => h_.1))) (Kd.R_base ho0) hb); have n4_ := Aside0.mk (Kd.R_lower (Kd.R_new' (Kd.R_new' (Kd.R_new' (Kd.R_new' ho0 (Kd.R_lt (by (with_reducible repeat (first | apply Kd.R_alloc | apply Kd.R_drewN | apply Kd.R_drew)); exact (Kd.R_mono (Kd.R_far (p := ⟨gb282, 2, none⟩) (Kd.R_far (p := ⟨gb282, 1, none⟩) (Kd.R_far (p := ⟨gb282, 0, none⟩) (Kd.R_types HO259.out BK282.out (by decide)) (fun _ hk => hk.2) (.slice Ao49 t276.length co49)) (fun _ hk => hk.2) (.int .i64 t279)) (fun _ hk => hk.2) (.int .i64 t280)) (fun _ h_ => h_.1))))) (Kd.R_lt (by (with_reducible repeat (first | apply Kd.R_alloc | apply Kd.R_drewN | apply Kd.R_drew)); exact (Kd.R_mono (Kd.R_far (p := ⟨gb282, 2, none⟩) (Kd.R_far (p := ⟨gb282, 1, none⟩) (Kd.R_far (p := ⟨gb282, 0, none⟩) (Kd.R_types HO264.out BK282.out (by decide)) (fun _ hk => hk.2) (.slice Ao49 t276.length co49)) (fun _ hk => hk.2) (.int .i64 t279)) (fun _ hk => hk.2) (.int .i64 t280)) (fun _ h_ => h_.1))))) (Kd.R_lt (by (with_reducible repeat (first | apply Kd.R_alloc | apply Kd.R_drewN | apply Kd.R_drew)); exact (Kd.R_mono (Kd.R_far (p := ⟨gb282, 2, none⟩) (Kd.R_far (p := ⟨gb282, 1, none⟩) (Kd.R_far (p := ⟨gb282, 0, none⟩) (Kd.R_types HO271.out BK282.out (by decide)) (fun _ hk => hk.2) (.slice Ao49 t276.length co49)) (fun _ hk => hk.2) (.int .i64 t279)) (fun _ hk => hk.2) (.int .i64 t280)) (fun _ h_ => h_.1))))) (Kd.R_lt (by (with_reducible repeat (first | apply Kd.R_alloc | apply Kd.R_drewN | apply Kd.R_drew)); exact (Kd.R_mono (Kd.R_far (p := ⟨gb282, 2, none⟩) (Kd.R_far (p := ⟨gb282, 1, none⟩) (Kd.R_far (p := ⟨gb282, 0, none⟩) (Kd.R_types HO278.out BK282.out (by decide)) (fun _ hk => hk.2) (.slice Ao49 t276.length co49)) (fun _ hk => hk.2) (.int .i64 t279)) (fun _ hk => hk.2) (.int .i64 t280)) (fun _ h_ => h_.1))))) (below_size (by repeat (first | (with_reducible first | exact HB.out | apply below_alloc | apply pw_below_drewN | apply below_drew1 | refine below_set ?_ GE253.out | refine below_set ?_ GE254.out | refine below_set ?_ GE268.out | refine below_set ?_ GE275.out | refine below_set ?_ GE282.out) | exact HB.out)))); have n5_ := Aside0.mk (blk_below (g := gb253) (o := .cells #[.slice A0_0 l0_0.length c0_0, .int .i64 a0_1, .int .i64 a0_2] 24 (0, 0)) (by (with_reducible repeat (first | refine blk_drewN ?_ _ | refine blk_drew ?_ | refine blk_alloc ?_ _)); refine blk_far ?_ NB253_282.out _; (with_reducible repeat (first | refine blk_drewN ?_ _ | refine blk_drew ?_ | refine blk_alloc ?_ _)); refine blk_far ?_ NB253_282.out _; (with_reducible repeat (first | refine blk_drewN ?_ _ | refine blk_drew ?_ | refine blk_alloc ?_ _)); refine blk_far ?_ NB253_282.out _; (with_reducible repeat (first | refine blk_drewN ?_ _ | refine blk_drew ?_ | refine blk_alloc ?_ _)); exact BK253.out) hb); have n6_ := Aside0.mk (blk_below (g := gb254) (o := .cells #[.slice A1_0 l1_0.length c1_0, .int .i64 a1_1, .int .i64 a1_2] 24 (0, 0)) (by (with_reducible repeat (first | refine blk_drewN ?_ _ | refine blk_drew ?_ | refine blk_alloc ?_ _)); refine blk_far ?_ NB254_282.out _; (with_reducible repeat (first | refine blk_drewN ?_ _ | refine blk_drew ?_ | refine blk_alloc ?_ _)); refine blk_far ?_ NB254_282.out _; (with_reducible repeat (first | refine blk_drewN ?_ _ | refine blk_drew ?_ | refine blk_alloc ?_ _)); refine blk_far ?_ NB254_282.out _; (with_reducible repeat (first | refine blk_drewN ?_ _ | refine blk_drew ?_ | refine blk_alloc ?_ _)); exact BK254.out) hb); have n7_ := Aside0.mk (blk_below (g := gb268) (o := .cells #[.slice Ao35 t262.length co35, .int .i64 t265, .int .i64 t266] 24 (0, 0)) (by (with_reducible repeat (first | refine blk_drewN ?_ _ | refine blk_drew ?_ | refine blk_alloc ?_ _)); refine blk_far ?_ NB268_282.out _; (with_reducible repeat (first | refine blk_drewN ?_ _ | refine blk_drew ?_ | refine blk_alloc ?_ _)); refine blk_far ?_ NB268_282.out _; (with_reducible repeat (first | refine blk_drewN ?_ _ | refine blk_drew ?_ | refine blk_alloc ?_ _)); refine blk_far ?_ NB268_282.out _; (with_reducible repeat (first | refine blk_drewN ?_ _ | refine blk_drew ?_ | refine blk_alloc ?_ _)); exact BK268.out) hb); have n8_ := Aside0.mk (blk_below (g := gb275) (o := .cells #[.slice Ao42 t269.length co42, .int .i64 t272, .int .i64 t273] 24 (0, 0)) (by (with_reducible repeat (first | refine blk_drewN ?_ _ | refine blk_drew ?_ | refine blk_alloc ?_ _)); refine blk_far ?_ NB275_282.out _; (with_reducible repeat (first | refine blk_drewN ?_ _ | refine blk_drew ?_ | refine blk_alloc ?_ _)); refine blk_far ?_ NB275_282.out _; (with_reducible repeat (first | refine blk_drewN ?_ _ | refine blk_drew ?_ | refine blk_alloc ?_ _)); refine blk_far ?_ NB275_282.out _; (with_reducible repeat (first | refine blk_drewN ?_ _ | refine blk_drew ?_ | refine blk_alloc ?_ _)); exact BK275.out) hb); have n9_ := Aside0.mk (blk_below (g := gb282) (o := .cells #[.slice Ao49 t276.length co49, .int .i64 t279, .int .i64 t280] 24 (0, 0)) (by (with_reducible repeat (first | refine blk_drewN ?_ _ | refine blk_drew ?_ | refine blk_alloc ?_ _)); refine blk_put (cs := #[.slice Ao49 t276.length co49, .int .i64 t279, .int .i64 0]) ?_ 2 _ rfl; (with_reducible repeat (first | refine blk_drewN ?_ _ | refine blk_drew ?_ | refine blk_alloc ?_ _)); refine blk_put (cs := #[.slice Ao49 t276.length co49, .int .i64 0, .int .i64 0]) ?_ 1 _ rfl; (with_reducible repeat (first | refine blk_drewN ?_ _ | refine blk_drew ?_ | refine blk_alloc ?_ _)); refine blk_put (cs := #[.slice none 0 0, .int .i64 0, .int .i64 0]) ?_ 0 _ rfl; (with_reducible repeat (first | refine blk_drewN ?_ _ | refine blk_drew ?_ | refine blk_alloc ?_ _)); exact BK282.out) hb); have n10_ := Aside0.mk (below_step (by repeat (first | (with_reducible first | exact HB.out | apply below_alloc | apply pw_below_drewN | apply below_drew1 | refine below_set ?_ GE253.out | refine below_set ?_ GE254.out | refine below_set ?_ GE268.out | refine below_set ?_ GE275.out | refine below_set ?_ GE282.out) | exact HB.out)) hb); clear HO259; clear HO264; clear HO271; clear HO278; clear BK253; clear BK254; clear BK268; clear BK275; clear BK282; clear HB; have HO259 := n0_; have HO264 := n1_; have HO271 := n2_; have HO278 := n3_; have HO285 := n4_; have BK253 := n5_; have BK254 := n6_; have BK268 := n7_; have BK275 := n8_; have BK282 := n9_; have HB := n10_; clear n0_ n1_ n2_ n3_ n4_ n5_ n6_ n7_ n8_ n9_ n10_; (try clear hb); (try clear hb2); (try clear hk); (try clear hi); (try clear ho0); obtain ⟨Ao57, co57, eo57⟩ := Kd.R_slice HO285.out; subst eo57) | ((with_reducible refine gate_callee (f := 18) rfl ?_); refine goesL_ (some 50) rfl rfl Tryd.func18 (by kernel_rfl) rfl #[.agg #[.slice Ao57 t283.length co57, .int .i64 t286, .int .i64 t287]] rfl (by (try simp only [List.map_toArray, List.map_cons, List.map_nil]); first | done | rfl | (simp only [List.length_drop, List.length_take]; rfl)) ?_; (with_reducible refine (deque_Items.calls kj3 _ _ t283 t286 t287 t288 _ ?side1 ?side2 A26.out).mono ?_); (case side1 => repeat (first | exact (Kd.R_reads' HO285.out).2.2 | (with_reducible refine Kd.C_alloc ?_ _) | (with_reducible refine Kd.C_drewN ?_ _) | (with_reducible refine Kd.C_drew ?_))); (case side2 => exact (Kd.R_reads' HO285.out).2.1); rintro e w58 ⟨v289, rfl, ho0, hb⟩; refine ⟨_, rfl, ?_⟩; have n0_ := Aside0.mk (Kd.R_elder' (by (with_reducible repeat (first | apply Kd.R_alloc | apply Kd.R_drewN | apply Kd.R_drew)); exact HO259.out) (Kd.R_base ho0) hb); have n1_ := Aside0.mk (Kd.R_elder' (by (with_reducible repeat (first | apply Kd.R_alloc | apply Kd.R_drewN | apply Kd.R_drew)); exact HO264.out) (Kd.R_base ho0) hb); have n2_ := Aside0.mk (Kd.R_elder' (by (with_reducible repeat (first | apply Kd.R_alloc | apply Kd.R_drewN | apply Kd.R_drew)); exact HO271.out) (Kd.R_base ho0) hb); have n3_ := Aside0.mk (Kd.R_elder' (by (with_reducible repeat (first | apply Kd.R_alloc | apply Kd.R_drewN | apply Kd.R_drew)); exact HO278.out) (Kd.R_base ho0) hb); have n4_ := Aside0.mk (Kd.R_elder' (by (with_reducible repeat (first | apply Kd.R_alloc | apply Kd.R_drewN | apply Kd.R_drew)); exact HO285.out) (Kd.R_base ho0) hb); have n5_ := Aside0.mk (Kd.R_lower (Kd.R_new' (Kd.R_new' (Kd.R_new' (Kd.R_new' (Kd.R_new' ho0 (Kd.R_lt (by (with_reducible repeat (first | apply Kd.R_alloc | apply Kd.R_drewN | apply Kd.R_drew)); exact HO259.out))) (Kd.R_lt (by (with_reducible repeat (first | apply Kd.R_alloc | apply Kd.R_drewN | apply Kd.R_drew)); exact HO264.out))) (Kd.R_lt (by (with_reducible repeat (first | apply Kd.R_alloc | apply Kd.R_drewN | apply Kd.R_drew)); exact HO271.out))) (Kd.R_lt (by (with_reducible repeat (first | apply Kd.R_alloc | apply Kd.R_drewN | apply Kd.R_drew)); exact HO278.out))) (Kd.R_lt (by (with_reducible repeat (first | apply Kd.R_alloc | apply Kd.R_drewN | apply Kd.R_drew)); exact HO285.out))) (below_size (by repeat (first | (with_reducible first | exact HB.out | apply below_alloc | apply pw_below_drewN | apply below_drew1 | refine below_set ?_ GE253.out | refine below_set ?_ GE254.out | refine below_set ?_ GE268.out | refine below_set ?_ GE275.out | refine below_set ?_ GE282.out) | exact HB.out)))); have n6_ := Aside0.mk (blk_below (g := gb253) (o := .cells #[.slice A0_0 l0_0.length c0_0, .int .i64 a0_1, .int .i64 a0_2] 24 (0, 0)) (by (with_reducible repeat (first | refine blk_drewN ?_ _ | refine blk_drew ?_ | refine blk_alloc ?_ _)); exact BK253.out) hb); have n7_ := Aside0.mk (blk_below (g := gb254) (o := .cells #[.slice A1_0 l1_0.length c1_0, .int .i64 a1_1, .int .i64 a1_2] 24 (0, 0)) (by (with_reducible repeat (first | refine blk_drewN ?_ _ | refine blk_drew ?_ | refine blk_alloc ?_ _)); exact BK254.out) hb); have n8_ := Aside0.mk (blk_below (g := gb268) (o := .cells #[.slice Ao35 t262.length co35, .int .i64 t265, .int .i64 t266] 24 (0, 0)) (by (with_reducible repeat (first | refine blk_drewN ?_ _ | refine blk_drew ?_ | refine blk_alloc ?_ _)); exact BK268.out) hb); have n9_ := Aside0.mk (blk_below (g := gb275) (o := .cells #[.slice Ao42 t269.length co42, .int .i64 t272, .int .i64 t273] 24 (0, 0)) (by (with_reducible repeat (first | refine blk_drewN ?_ _ | refine blk_drew ?_ | refine blk_alloc ?_ _)); exact BK275.out) hb); have n10_ := Aside0.mk (blk_below (g := gb282) (o := .cells #[.slice Ao49 t276.length co49, .int .i64 t279, .int .i64 t280] 24 (0, 0)) (by (with_reducible repeat (first | refine blk_drewN ?_ _ | refine blk_drew ?_ | refine blk_alloc ?_ _)); exact BK282.out) hb); have n11_ := Aside0.mk (below_step (by repeat (first | (with_reducible first | exact HB.out | apply below_alloc | apply pw_below_drewN | apply below_drew1 | refine below_set ?_ GE253.out | refine below_set ?_ GE254.out | refine below_set ?_ GE268.out | refine below_set ?_ GE275.out | refine below_set ?_ GE282.out) | exact HB.out)) hb); clear HO259; clear HO264; clear HO271; clear HO278; clear HO285; clear BK253; clear BK254; clear BK268; clear BK275; clear BK282; clear HB; have HO259 := n0_; have HO264 := n1_; have HO271 := n2_; have HO278 := n3_; have HO285 := n4_; have HO290 := n5_; have BK253 := n6_; have BK254 := n7_; have BK268 := n8_; have BK275 := n9_; have BK282 := n10_; have HB := n11_; clear n0_ n1_ n2_ n3_ n4_ n5_ n6_ n7_ n8_ n9_ n10_ n11_; (try clear hb); (try clear hb2); (try clear hk); (try clear hi); (try clear ho0); have hcz59_0 : w58.cell? ⟨gb253, 0, none⟩ = some (.slice A0_0 l0_0.length c0_0) := (blk_cell BK253.out 0).trans rfl; have hcz59_1 : w58.cell? ⟨gb253, 1, none⟩ = some (.int .i64 a0_1) := (blk_cell BK253.out 1).trans rfl; have hcz59_2 : w58.cell? ⟨gb253, 2, none⟩ = some (.int .i64 a0_2) := (blk_cell BK253.out 2).trans rfl; have hfz59_0 := blk_frozen BK253.out 0; have hfz59_1 := blk_frozen BK253.out 1; have hfz59_2 := blk_frozen BK253.out 2) | ((with_reducible refine gate_callee (f := 19) rfl ?_); refine goesL_ (some 52) rfl rfl Tryd.func19 (by kernel_rfl) rfl #[.agg #[.slice A0_0 l0_0.length c0_0, .int .i64 a0_1, .int .i64 a0_2]] rfl (by (try simp only [List.map_toArray, List.map_cons, List.map_nil]); first | done | rfl | (simp only [List.length_drop, List.length_take]; rfl)) ?_; (with_reducible refine (trefoilref12_Check.calls kj3 _ _ l0_0 a0_1 a0_2 t291 _ ?side1 ?side2 A27.out).mono ?_); (case side1 => repeat (first | exact (Kd.C_below HR0_0.out HB.out) | (with_reducible refine Kd.C_alloc ?_ _) | (with_reducible refine Kd.C_drewN ?_ _) | (with_reducible refine Kd.C_drew ?_))); (case side2 => exact HC0_0.out); rintro e w60 ⟨rfl, hb⟩; refine ⟨_, rfl, ?_⟩; have n0_ := Aside0.mk (Kd.R_below (by (with_reducible repeat (first | apply Kd.R_alloc | apply Kd.R_drewN | apply Kd.R_drew)); exact HO259.out) hb); have n1_ := Aside0.mk (Kd.R_below (by (with_reducible repeat (first | apply Kd.R_alloc | apply Kd.R_drewN | apply Kd.R_drew)); exact HO264.out) hb); have n2_ := Aside0.mk (Kd.R_below (by (with_reducible repeat (first | apply Kd.R_alloc | apply Kd.R_drewN | apply Kd.R_drew)); exact HO271.out) hb); have n3_ := Aside0.mk (Kd.R_below (by (with_reducible repeat (first | apply Kd.R_alloc | apply Kd.R_drewN | apply Kd.R_drew)); exact HO278.out) hb); have n4_ := Aside0.mk (Kd.R_below (by (with_reducible repeat (first | apply Kd.R_alloc | apply Kd.R_drewN | apply Kd.R_drew)); exact HO285.out) hb); have n5_ := Aside0.mk (Kd.R_below (by (with_reducible repeat (first | apply Kd.R_alloc | apply Kd.R_drewN | apply Kd.R_drew)); exact HO290.out) hb); have n6_ := Aside0.mk (blk_below (g := gb253) (o := .cells #[.slice A0_0 l0_0.length c0_0, .int .i64 a0_1, .int .i64 a0_2] 24 (0, 0)) (by (with_reducible repeat (first | refine blk_drewN ?_ _ | refine blk_drew ?_ | refine blk_alloc ?_ _)); exact BK253.out) hb); have n7_ := Aside0.mk (blk_below (g := gb254) (o := .cells #[.slice A1_0 l1_0.length c1_0, .int .i64 a1_1, .int .i64 a1_2] 24 (0, 0)) (by (with_reducible repeat (first | refine blk_drewN ?_ _ | refine blk_drew ?_ | refine blk_alloc ?_ _)); exact BK254.out) hb); have n8_ := Aside0.mk (blk_below (g := gb268) (o := .cells #[.slice Ao35 t262.length co35, .int .i64 t265, .int .i64 t266] 24 (0, 0)) (by (with_reducible repeat (first | refine blk_drewN ?_ _ | refine blk_drew ?_ | refine blk_alloc ?_ _)); exact BK268.out) hb); have n9_ := Aside0.mk (blk_below (g := gb275) (o := .cells #[.slice Ao42 t269.length co42, .int .i64 t272, .int .i64 t273] 24 (0, 0)) (by (with_reducible repeat (first | refine blk_drewN ?_ _ | refine blk_drew ?_ | refine blk_alloc ?_ _)); exact BK275.out) hb); have n10_ := Aside0.mk (blk_below (g := gb282) (o := .cells #[.slice Ao49 t276.length co49, .int .i64 t279, .int .i64 t280] 24 (0, 0)) (by (with_reducible repeat (first | refine blk_drewN ?_ _ | refine blk_drew ?_ | refine blk_alloc ?_ _)); exact BK282.out) hb); have n11_ := Aside0.mk (below_step (by repeat (first | (with_reducible first | exact HB.out | apply below_alloc | apply pw_below_drewN | apply below_drew1 | refine below_set ?_ GE253.out | refine below_set ?_ GE254.out | refine below_set ?_ GE268.out | refine below_set ?_ GE275.out | refine below_set ?_ GE282.out) | exact HB.out)) hb); clear HO259; clear HO264; clear HO271; clear HO278; clear HO285; clear HO290; clear BK253; clear BK254; clear BK268; clear BK275; clear BK282; clear HB; have HO259 := n0_; have HO264 := n1_; have HO271 := n2_; have HO278 := n3_; have HO285 := n4_; have HO290 := n5_; have BK253 := n6_; have BK254 := n7_; have BK268 := n8_; have BK275 := n9_; have BK282 := n10_; have HB := n11_; clear n0_ n1_ n2_ n3_ n4_ n5_ n6_ n7_ n8_ n9_ n10_ n11_; (try clear hb); (try clear hb2); (try clear hk); (try clear hi)))
        (try simp only [Act.put, List.setIfInBounds_toArray, List.set_cons_zero, List.set_cons_succ])
        go_cut [76] (fun v76 wc => ∃ (kq : Nat) (x76_27 : Bool), v76 = .bool x76_27 ∧ Aside0 (trefoillaw12_DequeTells.j1 kq a2 t267 t274 t281 t291 x76_27 l0_0 a0_1 a0_2 l1_0 a1_1 a1_2 t262 t265 t266 t269 t272 t273 t276 t279 t280 = some r) ∧ Aside0 (kq ≤ kj3) ∧ Aside0 (Kd.R (Kd.int .i64) 3 wc w.heap.size (fun k_ => some k_ ≠ ((.slice Ao42 t269.length co42) : Value).ownBlock ∧ some k_ ≠ ((.slice Ao49 t276.length co49) : Value).ownBlock) (.slice Ao35 t262.length co35) t262) ∧ Aside0 (Kd.R (Kd.int .i64) 3 wc w.heap.size (fun k_ => some k_ ≠ ((.slice Ao35 t262.length co35) : Value).ownBlock ∧ some k_ ≠ ((.slice Ao49 t276.length co49) : Value).ownBlock) (.slice Ao42 t269.length co42) t269) ∧ Aside0 (Kd.R (Kd.int .i64) 3 wc w.heap.size (fun k_ => some k_ ≠ ((.slice Ao35 t262.length co35) : Value).ownBlock ∧ some k_ ≠ ((.slice Ao42 t269.length co42) : Value).ownBlock) (.slice Ao49 t276.length co49) t276) ∧ Aside0 (wc.heap[gb253]? = some (.cells #[(.slice A0_0 l0_0.length c0_0), .int .i64 a0_1, .int .i64 a0_2] 24 (0, 0))) ∧ Aside0 (wc.heap[gb254]? = some (.cells #[(.slice A1_0 l1_0.length c1_0), .int .i64 a1_1, .int .i64 a1_2] 24 (0, 0))) ∧ Aside0 (wc.heap[gb268]? = some (.cells #[(.slice Ao35 t262.length co35), .int .i64 t265, .int .i64 t266] 24 (0, 0))) ∧ Aside0 (wc.heap[gb275]? = some (.cells #[(.slice Ao42 t269.length co42), .int .i64 t272, .int .i64 t273] 24 (0, 0))) ∧ Aside0 (wc.heap[gb282]? = some (.cells #[(.slice Ao49 t276.length co49), .int .i64 t279, .int .i64 t280] 24 (0, 0))) ∧ Aside0 (Below w.heap.size w wc))
        case first =>
          have H := HC28.out
          clear HC28
          by_cases c61 : t291 = true
          · subst c61
            have H1 : ((trefoilref12_Items.f kj3 l0_0 a0_1 a0_2).bind fun t292 => ((trefoilref02_Ints.f kj3 t288 t292).bind fun t295 => (if t295 = true then ((trefoilref12_Size.f kj3 a2).bind fun t296 => (trefoillaw12_DequeTells.j1 kj3 a2 t267 t274 t281 true ((t281 == 0) != t296) l0_0 a0_1 a0_2 l1_0 a1_1 a1_2 t262 t265 t266 t269 t272 t273 t276 t279 t280)) else (trefoillaw12_DequeTells.j1 kj3 a2 t267 t274 t281 true true l0_0 a0_1 a0_2 l1_0 a1_1 a1_2 t262 t265 t266 t269 t272 t273 t276 t279 t280)))) = some r := by rw [if_pos rfl] at H; exact H
            clear H
            have H := H1
            clear H1
            replace H := Option.bind_eq_some_iff.mp H
            obtain ⟨t292, A620, H⟩ := H
            replace H : ((trefoilref02_Ints.f kj3 t288 t292).bind fun t295 => (if t295 = true then ((trefoilref12_Size.f kj3 a2).bind fun t296 => (trefoillaw12_DequeTells.j1 kj3 a2 t267 t274 t281 true ((t281 == 0) != t296) l0_0 a0_1 a0_2 l1_0 a1_1 a1_2 t262 t265 t266 t269 t272 t273 t276 t279 t280)) else (trefoillaw12_DequeTells.j1 kj3 a2 t267 t274 t281 true true l0_0 a0_1 a0_2 l1_0 a1_1 a1_2 t262 t265 t266 t269 t272 t273 t276 t279 t280))) = some r := H
            have A62 := Aside0.mk A620
            clear A620
            replace H := Option.bind_eq_some_iff.mp H
            obtain ⟨t295, A630, H⟩ := H
            replace H : (if t295 = true then ((trefoilref12_Size.f kj3 a2).bind fun t296 => (trefoillaw12_DequeTells.j1 kj3 a2 t267 t274 t281 true ((t281 == 0) != t296) l0_0 a0_1 a0_2 l1_0 a1_1 a1_2 t262 t265 t266 t269 t272 t273 t276 t279 t280)) else (trefoillaw12_DequeTells.j1 kj3 a2 t267 t274 t281 true true l0_0 a0_1 a0_2 l1_0 a1_1 a1_2 t262 t265 t266 t269 t272 t273 t276 t279 t280)) = some r := H
            have A63 := Aside0.mk A630
            clear A630
            by_cases c64 : t295 = true
            · subst c64
              have H1 : ((trefoilref12_Size.f kj3 a2).bind fun t296 => (trefoillaw12_DequeTells.j1 kj3 a2 t267 t274 t281 true ((t281 == 0) != t296) l0_0 a0_1 a0_2 l1_0 a1_1 a1_2 t262 t265 t266 t269 t272 t273 t276 t279 t280)) = some r := by rw [if_pos rfl] at H; exact H
              clear H
              have H := H1
              clear H1
              replace H := Option.bind_eq_some_iff.mp H
              obtain ⟨t296, A650, H⟩ := H
              replace H : (trefoillaw12_DequeTells.j1 kj3 a2 t267 t274 t281 true ((t281 == 0) != t296) l0_0 a0_1 a0_2 l1_0 a1_1 a1_2 t262 t265 t266 t269 t272 t273 t276 t279 t280) = some r := H
              have A65 := Aside0.mk A650
              clear A650
              have H' := Aside0.mk H
              clear H
              have hnb66 := NB253_254.out
              have hnc66 := NB254_253.out
              have hnb67 := NB253_268.out
              have hnc67 := NB268_253.out
              have hnb68 := NB253_275.out
              have hnc68 := NB275_253.out
              have hnb69 := NB253_282.out
              have hnc69 := NB282_253.out
              have hcz70_0 : w60.cell? ⟨gb253, 0, none⟩ = some (.slice A0_0 l0_0.length c0_0) := (blk_cell BK253.out 0).trans rfl
              have hcz70_1 : w60.cell? ⟨gb253, 1, none⟩ = some (.int .i64 a0_1) := (blk_cell BK253.out 1).trans rfl
              have hcz70_2 : w60.cell? ⟨gb253, 2, none⟩ = some (.int .i64 a0_2) := (blk_cell BK253.out 2).trans rfl
              have hfz70_0 := blk_frozen BK253.out 0
              have hfz70_1 := blk_frozen BK253.out 1
              have hfz70_2 := blk_frozen BK253.out 2
              go_wp2_with (first | (go_at_call 21; (with_reducible refine (trefoilref12_Items.calls kj3 _ _ l0_0 a0_1 a0_2 t292 _ ?side1 ?side2 A62.out).mono ?_); (case side1 => repeat (first | exact (Kd.C_below HR0_0.out HB.out) | (with_reducible refine Kd.C_alloc ?_ _) | (with_reducible refine Kd.C_drewN ?_ _) | (with_reducible refine Kd.C_drew ?_))); (case side2 => exact HC0_0.out); rintro e w71 ⟨v293, rfl, ho0, hb⟩; have n0_ := Aside0.mk (Kd.R_elder' (by (with_reducible repeat (first | apply Kd.R_alloc | apply Kd.R_drewN | apply Kd.R_drew)); exact HO259.out) (Kd.R_base ho0) hb); have n1_ := Aside0.mk (Kd.R_elder' (by (with_reducible repeat (first | apply Kd.R_alloc | apply Kd.R_drewN | apply Kd.R_drew)); exact HO264.out) (Kd.R_base ho0) hb); have n2_ := Aside0.mk (Kd.R_elder' (by (with_reducible repeat (first | apply Kd.R_alloc | apply Kd.R_drewN | apply Kd.R_drew)); exact HO271.out) (Kd.R_base ho0) hb); have n3_ := Aside0.mk (Kd.R_elder' (by (with_reducible repeat (first | apply Kd.R_alloc | apply Kd.R_drewN | apply Kd.R_drew)); exact HO278.out) (Kd.R_base ho0) hb); have n4_ := Aside0.mk (Kd.R_elder' (by (with_reducible repeat (first | apply Kd.R_alloc | apply Kd.R_drewN | apply Kd.R_drew)); exact HO285.out) (Kd.R_base ho0) hb); have n5_ := Aside0.mk (Kd.R_elder' (by (with_reducible repeat (first | apply Kd.R_alloc | apply Kd.R_drewN | apply Kd.R_drew)); exact HO290.out) (Kd.R_base ho0) hb); have n6_ := Aside0.mk (Kd.R_lower (Kd.R_new' (Kd.R_new' (Kd.R_new' (Kd.R_new' (Kd.R_new' (Kd.R_new' ho0 (Kd.R_lt (by (with_reducible repeat (first | apply Kd.R_alloc | apply Kd.R_drewN | apply Kd.R_drew)); exact HO259.out))) (Kd.R_lt (by (with_reducible repeat (first | apply Kd.R_alloc | apply Kd.R_drewN | apply Kd.R_drew)); exact HO264.out))) (Kd.R_lt (by (with_reducible repeat (first | apply Kd.R_alloc | apply Kd.R_drewN | apply Kd.R_drew)); exact HO271.out))) (Kd.R_lt (by (with_reducible repeat (first | apply Kd.R_alloc | apply Kd.R_drewN | apply Kd.R_drew)); exact HO278.out))) (Kd.R_lt (by (with_reducible repeat (first | apply Kd.R_alloc | apply Kd.R_drewN | apply Kd.R_drew)); exact HO285.out))) (Kd.R_lt (by (with_reducible repeat (first | apply Kd.R_alloc | apply Kd.R_drewN | apply Kd.R_drew)); exact HO290.out))) (below_size (by repeat (first | (with_reducible first | exact HB.out | apply below_alloc | apply pw_below_drewN | apply below_drew1 | refine below_set ?_ GE253.out | refine below_set ?_ GE254.out | refine below_set ?_ GE268.out | refine below_set ?_ GE275.out | refine below_set ?_ GE282.out) | exact HB.out)))); have n7_ := Aside0.mk (blk_below (g := gb253) (o := .cells #[.slice A0_0 l0_0.length c0_0, .int .i64 a0_1, .int .i64 a0_2] 24 (0, 0)) (by (with_reducible repeat (first | refine blk_drewN ?_ _ | refine blk_drew ?_ | refine blk_alloc ?_ _)); exact BK253.out) hb); have n8_ := Aside0.mk (blk_below (g := gb254) (o := .cells #[.slice A1_0 l1_0.length c1_0, .int .i64 a1_1, .int .i64 a1_2] 24 (0, 0)) (by (with_reducible repeat (first | refine blk_drewN ?_ _ | refine blk_drew ?_ | refine blk_alloc ?_ _)); exact BK254.out) hb); have n9_ := Aside0.mk (blk_below (g := gb268) (o := .cells #[.slice Ao35 t262.length co35, .int .i64 t265, .int .i64 t266] 24 (0, 0)) (by (with_reducible repeat (first | refine blk_drewN ?_ _ | refine blk_drew ?_ | refine blk_alloc ?_ _)); exact BK268.out) hb); have n10_ := Aside0.mk (blk_below (g := gb275) (o := .cells #[.slice Ao42 t269.length co42, .int .i64 t272, .int .i64 t273] 24 (0, 0)) (by (with_reducible repeat (first | refine blk_drewN ?_ _ | refine blk_drew ?_ | refine blk_alloc ?_ _)); exact BK275.out) hb); have n11_ := Aside0.mk (blk_below (g := gb282) (o := .cells #[.slice Ao49 t276.length co49, .int .i64 t279, .int .i64 t280] 24 (0, 0)) (by (with_reducible repeat (first | refine blk_drewN ?_ _ | refine blk_drew ?_ | refine blk_alloc ?_ _)); exact BK282.out) hb); have n12_ := Aside0.mk (below_step (by repeat (first | (with_reducible first | exact HB.out | apply below_alloc | apply pw_below_drewN | apply below_drew1 | refine below_set ?_ GE253.out | refine below_set ?_ GE254.out | refine below_set ?_ GE268.out | refine below_set ?_ GE275.out | refine below_set ?_ GE282.out) | exact HB.out)) hb); clear HO259; clear HO264; clear HO271; clear HO278; clear HO285; clear HO290; clear BK253; clear BK254; clear BK268; clear BK275; clear BK282; clear HB; have HO259 := n0_; have HO264 := n1_; have HO271 := n2_; have HO278 := n3_; have HO285 := n4_; have HO290 := n5_; have HO294 := n6_; have BK253 := n7_; have BK254 := n8_; have BK268 := n9_; have BK275 := n10_; have BK282 := n11_; have HB := n12_; clear n0_ n1_ n2_ n3_ n4_ n5_ n6_ n7_ n8_ n9_ n10_ n11_ n12_; (try clear hb); (try clear hb2); (try clear hk); (try clear hi); (try clear ho0); obtain ⟨Ao72, co72, eo72⟩ := Kd.R_slice HO290.out; subst eo72; obtain ⟨Ao73, co73, eo73⟩ := Kd.R_slice HO294.out; subst eo73) | (go_at_call 20; (with_reducible refine (trefoilref02_Ints.calls kj3 _ _ t288 _ _ t292 true _ ?side1 ?side2 ?side3 ?side4 A63.out).mono ?_); (case side1 => repeat (first | exact (Kd.R_reads' HO290.out).2.2 | (with_reducible refine Kd.C_alloc ?_ _) | (with_reducible refine Kd.C_drewN ?_ _) | (with_reducible refine Kd.C_drew ?_))); (case side2 => exact (Kd.R_reads' HO290.out).2.1); (case side3 => repeat (first | exact (Kd.R_reads' HO294.out).2.2 | (with_reducible refine Kd.C_alloc ?_ _) | (with_reducible refine Kd.C_drewN ?_ _) | (with_reducible refine Kd.C_drew ?_))); (case side4 => exact (Kd.R_reads' HO294.out).2.1); rintro e w' ⟨rfl, ⟨nd, rfl⟩⟩) | (go_at_call 22; (with_reducible refine (trefoilref12_Size.calls kj3 a2 t296 _ A65.out).mono ?_); rintro e w' ⟨rfl, ⟨nd, rfl⟩⟩))
              go_meet
              case rel => exact ⟨_, (((t281 == 0) != t296)), (by first | rfl | (simp; done) | (simp [*]; done)), H', ⟨by have := HJ3.out; first | omega | exact Nat.le_refl _⟩, ⟨by (with_reducible repeat (first | apply Kd.R_alloc | apply Kd.R_drewN | apply Kd.R_drew)); exact Kd.R_mono HO264.out (fun _ hk => ⟨hk.1.1.1.1.2, hk.1.1.1.2⟩)⟩, ⟨by (with_reducible repeat (first | apply Kd.R_alloc | apply Kd.R_drewN | apply Kd.R_drew)); exact Kd.R_mono HO271.out (fun _ hk => ⟨hk.1.1.1.1.2, hk.1.1.1.2⟩)⟩, ⟨by (with_reducible repeat (first | apply Kd.R_alloc | apply Kd.R_drewN | apply Kd.R_drew)); exact Kd.R_mono HO278.out (fun _ hk => ⟨hk.1.1.1.1.2, hk.1.1.1.2⟩)⟩, ⟨by (with_reducible repeat (first | refine blk_drewN ?_ _ | refine blk_drew ?_ | refine blk_alloc ?_ _)); exact BK253.out⟩, ⟨by (with_reducible repeat (first | refine blk_drewN ?_ _ | refine blk_drew ?_ | refine blk_alloc ?_ _)); exact BK254.out⟩, ⟨by (with_reducible repeat (first | refine blk_drewN ?_ _ | refine blk_drew ?_ | refine blk_alloc ?_ _)); exact BK268.out⟩, ⟨by (with_reducible repeat (first | refine blk_drewN ?_ _ | refine blk_drew ?_ | refine blk_alloc ?_ _)); exact BK275.out⟩, ⟨by (with_reducible repeat (first | refine blk_drewN ?_ _ | refine blk_drew ?_ | refine blk_alloc ?_ _)); exact BK282.out⟩, ⟨by repeat (first | (with_reducible first | exact HB.out | apply below_alloc | apply pw_below_drewN | apply below_drew1 | refine below_set ?_ GE253.out | refine below_set ?_ GE254.out | refine below_set ?_ GE268.out | refine below_set ?_ GE275.out | refine below_set ?_ GE282.out) | exact HB.out)⟩⟩
            · replace c64 := Bool.eq_false_iff.mpr c64
              subst c64
              have H1 : (trefoillaw12_DequeTells.j1 kj3 a2 t267 t274 t281 true true l0_0 a0_1 a0_2 l1_0 a1_1 a1_2 t262 t265 t266 t269 t272 t273 t276 t279 t280) = some r := by rw [if_neg (show ¬ (false = true) by decide)] at H; exact H
              clear H
              have H := H1
              clear H1
              have H' := Aside0.mk H
              clear H
              have hnb74 := NB253_254.out
              have hnc74 := NB254_253.out
              have hnb75 := NB253_268.out
              have hnc75 := NB268_253.out
              have hnb76 := NB253_275.out
              have hnc76 := NB275_253.out
              have hnb77 := NB253_282.out
              have hnc77 := NB282_253.out
              have hcz78_0 : w60.cell? ⟨gb253, 0, none⟩ = some (.slice A0_0 l0_0.length c0_0) := (blk_cell BK253.out 0).trans rfl
              have hcz78_1 : w60.cell? ⟨gb253, 1, none⟩ = some (.int .i64 a0_1) := (blk_cell BK253.out 1).trans rfl
              have hcz78_2 : w60.cell? ⟨gb253, 2, none⟩ = some (.int .i64 a0_2) := (blk_cell BK253.out 2).trans rfl
              have hfz78_0 := blk_frozen BK253.out 0
              have hfz78_1 := blk_frozen BK253.out 1
              have hfz78_2 := blk_frozen BK253.out 2
              go_wp2_with (first | (go_at_call 21; (with_reducible refine (trefoilref12_Items.calls kj3 _ _ l0_0 a0_1 a0_2 t292 _ ?side1 ?side2 A62.out).mono ?_); (case side1 => repeat (first | exact (Kd.C_below HR0_0.out HB.out) | (with_reducible refine Kd.C_alloc ?_ _) | (with_reducible refine Kd.C_drewN ?_ _) | (with_reducible refine Kd.C_drew ?_))); (case side2 => exact HC0_0.out); rintro e w79 ⟨v293, rfl, ho0, hb⟩; have n0_ := Aside0.mk (Kd.R_elder' (by (with_reducible repeat (first | apply Kd.R_alloc | apply Kd.R_drewN | apply Kd.R_drew)); exact HO259.out) (Kd.R_base ho0) hb); have n1_ := Aside0.mk (Kd.R_elder' (by (with_reducible repeat (first | apply Kd.R_alloc | apply Kd.R_drewN | apply Kd.R_drew)); exact HO264.out) (Kd.R_base ho0) hb); have n2_ := Aside0.mk (Kd.R_elder' (by (with_reducible repeat (first | apply Kd.R_alloc | apply Kd.R_drewN | apply Kd.R_drew)); exact HO271.out) (Kd.R_base ho0) hb); have n3_ := Aside0.mk (Kd.R_elder' (by (with_reducible repeat (first | apply Kd.R_alloc | apply Kd.R_drewN | apply Kd.R_drew)); exact HO278.out) (Kd.R_base ho0) hb); have n4_ := Aside0.mk (Kd.R_elder' (by (with_reducible repeat (first | apply Kd.R_alloc | apply Kd.R_drewN | apply Kd.R_drew)); exact HO285.out) (Kd.R_base ho0) hb); have n5_ := Aside0.mk (Kd.R_elder' (by (with_reducible repeat (first | apply Kd.R_alloc | apply Kd.R_drewN | apply Kd.R_drew)); exact HO290.out) (Kd.R_base ho0) hb); have n6_ := Aside0.mk (Kd.R_lower (Kd.R_new' (Kd.R_new' (Kd.R_new' (Kd.R_new' (Kd.R_new' (Kd.R_new' ho0 (Kd.R_lt (by (with_reducible repeat (first | apply Kd.R_alloc | apply Kd.R_drewN | apply Kd.R_drew)); exact HO259.out))) (Kd.R_lt (by (with_reducible repeat (first | apply Kd.R_alloc | apply Kd.R_drewN | apply Kd.R_drew)); exact HO264.out))) (Kd.R_lt (by (with_reducible repeat (first | apply Kd.R_alloc | apply Kd.R_drewN | apply Kd.R_drew)); exact HO271.out))) (Kd.R_lt (by (with_reducible repeat (first | apply Kd.R_alloc | apply Kd.R_drewN | apply Kd.R_drew)); exact HO278.out))) (Kd.R_lt (by (with_reducible repeat (first | apply Kd.R_alloc | apply Kd.R_drewN | apply Kd.R_drew)); exact HO285.out))) (Kd.R_lt (by (with_reducible repeat (first | apply Kd.R_alloc | apply Kd.R_drewN | apply Kd.R_drew)); exact HO290.out))) (below_size (by repeat (first | (with_reducible first | exact HB.out | apply below_alloc | apply pw_below_drewN | apply below_drew1 | refine below_set ?_ GE253.out | refine below_set ?_ GE254.out | refine below_set ?_ GE268.out | refine below_set ?_ GE275.out | refine below_set ?_ GE282.out) | exact HB.out)))); have n7_ := Aside0.mk (blk_below (g := gb253) (o := .cells #[.slice A0_0 l0_0.length c0_0, .int .i64 a0_1, .int .i64 a0_2] 24 (0, 0)) (by (with_reducible repeat (first | refine blk_drewN ?_ _ | refine blk_drew ?_ | refine blk_alloc ?_ _)); exact BK253.out) hb); have n8_ := Aside0.mk (blk_below (g := gb254) (o := .cells #[.slice A1_0 l1_0.length c1_0, .int .i64 a1_1, .int .i64 a1_2] 24 (0, 0)) (by (with_reducible repeat (first | refine blk_drewN ?_ _ | refine blk_drew ?_ | refine blk_alloc ?_ _)); exact BK254.out) hb); have n9_ := Aside0.mk (blk_below (g := gb268) (o := .cells #[.slice Ao35 t262.length co35, .int .i64 t265, .int .i64 t266] 24 (0, 0)) (by (with_reducible repeat (first | refine blk_drewN ?_ _ | refine blk_drew ?_ | refine blk_alloc ?_ _)); exact BK268.out) hb); have n10_ := Aside0.mk (blk_below (g := gb275) (o := .cells #[.slice Ao42 t269.length co42, .int .i64 t272, .int .i64 t273] 24 (0, 0)) (by (with_reducible repeat (first | refine blk_drewN ?_ _ | refine blk_drew ?_ | refine blk_alloc ?_ _)); exact BK275.out) hb); have n11_ := Aside0.mk (blk_below (g := gb282) (o := .cells #[.slice Ao49 t276.length co49, .int .i64 t279, .int .i64 t280] 24 (0, 0)) (by (with_reducible repeat (first | refine blk_drewN ?_ _ | refine blk_drew ?_ | refine blk_alloc ?_ _)); exact BK282.out) hb); have n12_ := Aside0.mk (below_step (by repeat (first | (with_reducible first | exact HB.out | apply below_alloc | apply pw_below_drewN | apply below_drew1 | refine below_set ?_ GE253.out | refine below_set ?_ GE254.out | refine below_set ?_ GE268.out | refine below_set ?_ GE275.out | refine below_set ?_ GE282.out) | exact HB.out)) hb); clear HO259; clear HO264; clear HO271; clear HO278; clear HO285; clear HO290; clear BK253; clear BK254; clear BK268; clear BK275; clear BK282; clear HB; have HO259 := n0_; have HO264 := n1_; have HO271 := n2_; have HO278 := n3_; have HO285 := n4_; have HO290 := n5_; have HO294 := n6_; have BK253 := n7_; have BK254 := n8_; have BK268 := n9_; have BK275 := n10_; have BK282 := n11_; have HB := n12_; clear n0_ n1_ n2_ n3_ n4_ n5_ n6_ n7_ n8_ n9_ n10_ n11_ n12_; (try clear hb); (try clear hb2); (try clear hk); (try clear hi); (try clear ho0); obtain ⟨Ao80, co80, eo80⟩ := Kd.R_slice HO290.out; subst eo80; obtain ⟨Ao81, co81, eo81⟩ := Kd.R_slice HO294.out; subst eo81) | (go_at_call 20; (with_reducible refine (trefoilref02_Ints.calls kj3 _ _ t288 _ _ t292 false _ ?side1 ?side2 ?side3 ?side4 A63.out).mono ?_); (case side1 => repeat (first | exact (Kd.R_reads' HO290.out).2.2 | (with_reducible refine Kd.C_alloc ?_ _) | (with_reducible refine Kd.C_drewN ?_ _) | (with_reducible refine Kd.C_drew ?_))); (case side2 => exact (Kd.R_reads' HO290.out).2.1); (case side3 => repeat (first | exact (Kd.R_reads' HO294.out).2.2 | (with_reducible refine Kd.C_alloc ?_ _) | (with_reducible refine Kd.C_drewN ?_ _) | (with_reducible refine Kd.C_drew ?_))); (case side4 => exact (Kd.R_reads' HO294.out).2.1); rintro e w' ⟨rfl, ⟨nd, rfl⟩⟩))
              go_meet
              case rel => exact ⟨_, (true), (by first | rfl | (simp; done) | (simp [*]; done)), H', ⟨by have := HJ3.out; first | omega | exact Nat.le_refl _⟩, ⟨by (with_reducible repeat (first | apply Kd.R_alloc | apply Kd.R_drewN | apply Kd.R_drew)); exact Kd.R_mono HO264.out (fun _ hk => ⟨hk.1.1.1.1.2, hk.1.1.1.2⟩)⟩, ⟨by (with_reducible repeat (first | apply Kd.R_alloc | apply Kd.R_drewN | apply Kd.R_drew)); exact Kd.R_mono HO271.out (fun _ hk => ⟨hk.1.1.1.1.2, hk.1.1.1.2⟩)⟩, ⟨by (with_reducible repeat (first | apply Kd.R_alloc | apply Kd.R_drewN | apply Kd.R_drew)); exact Kd.R_mono HO278.out (fun _ hk => ⟨hk.1.1.1.1.2, hk.1.1.1.2⟩)⟩, ⟨by (with_reducible repeat (first | refine blk_drewN ?_ _ | refine blk_drew ?_ | refine blk_alloc ?_ _)); exact BK253.out⟩, ⟨by (with_reducible repeat (first | refine blk_drewN ?_ _ | refine blk_drew ?_ | refine blk_alloc ?_ _)); exact BK254.out⟩, ⟨by (with_reducible repeat (first | refine blk_drewN ?_ _ | refine blk_drew ?_ | refine blk_alloc ?_ _)); exact BK268.out⟩, ⟨by (with_reducible repeat (first | refine blk_drewN ?_ _ | refine blk_drew ?_ | refine blk_alloc ?_ _)); exact BK275.out⟩, ⟨by (with_reducible repeat (first | refine blk_drewN ?_ _ | refine blk_drew ?_ | refine blk_alloc ?_ _)); exact BK282.out⟩, ⟨by repeat (first | (with_reducible first | exact HB.out | apply below_alloc | apply pw_below_drewN | apply below_drew1 | refine below_set ?_ GE253.out | refine below_set ?_ GE254.out | refine below_set ?_ GE268.out | refine below_set ?_ GE275.out | refine below_set ?_ GE282.out) | exact HB.out)⟩⟩
          · replace c61 := Bool.eq_false_iff.mpr c61
            subst c61
            have H1 : (if (t288.length : Int) > 0 then (trefoillaw12_DequeTells.j1 kj3 a2 t267 t274 t281 false true l0_0 a0_1 a0_2 l1_0 a1_1 a1_2 t262 t265 t266 t269 t272 t273 t276 t279 t280) else ((trefoilref12_Size.f kj3 a2).bind fun t297 => (trefoillaw12_DequeTells.j1 kj3 a2 t267 t274 t281 false ((t281 == 0) != t297) l0_0 a0_1 a0_2 l1_0 a1_1 a1_2 t262 t265 t266 t269 t272 t273 t276 t279 t280))) = some r := by rw [if_neg (show ¬ (false = true) by decide)] at H; exact H
            clear H
            have H := H1
            clear H1
            by_cases c82 : (t288.length : Int) > 0
            · rw [if_pos c82] at H
              have c82b0 : decide (0 < (t288.length : Int)) = true := decide_eq_true c82
              have c82b1 : decide (0 < t288.length) = true := decide_eq_true (by omega)
              clear c82
              (first | rw [c82b0] | (simp only [i64_w, i32_w]; rw [c82b0]) | skip)
              have H' := Aside0.mk H
              clear H
              obtain ⟨Ao83, co83, eo83⟩ := Kd.R_slice HO290.out
              subst eo83
              go_wp2
              go_meet
              case rel => exact ⟨_, (true), (by first | rfl | (simp; done) | (simp [*]; done)), H', ⟨by have := HJ3.out; first | omega | exact Nat.le_refl _⟩, ⟨by (with_reducible repeat (first | apply Kd.R_alloc | apply Kd.R_drewN | apply Kd.R_drew)); exact Kd.R_mono HO264.out (fun _ hk => ⟨hk.1.1.1.2, hk.1.1.2⟩)⟩, ⟨by (with_reducible repeat (first | apply Kd.R_alloc | apply Kd.R_drewN | apply Kd.R_drew)); exact Kd.R_mono HO271.out (fun _ hk => ⟨hk.1.1.1.2, hk.1.1.2⟩)⟩, ⟨by (with_reducible repeat (first | apply Kd.R_alloc | apply Kd.R_drewN | apply Kd.R_drew)); exact Kd.R_mono HO278.out (fun _ hk => ⟨hk.1.1.1.2, hk.1.1.2⟩)⟩, ⟨by (with_reducible repeat (first | refine blk_drewN ?_ _ | refine blk_drew ?_ | refine blk_alloc ?_ _)); exact BK253.out⟩, ⟨by (with_reducible repeat (first | refine blk_drewN ?_ _ | refine blk_drew ?_ | refine blk_alloc ?_ _)); exact BK254.out⟩, ⟨by (with_reducible repeat (first | refine blk_drewN ?_ _ | refine blk_drew ?_ | refine blk_alloc ?_ _)); exact BK268.out⟩, ⟨by (with_reducible repeat (first | refine blk_drewN ?_ _ | refine blk_drew ?_ | refine blk_alloc ?_ _)); exact BK275.out⟩, ⟨by (with_reducible repeat (first | refine blk_drewN ?_ _ | refine blk_drew ?_ | refine blk_alloc ?_ _)); exact BK282.out⟩, ⟨by repeat (first | (with_reducible first | exact HB.out | apply below_alloc | apply pw_below_drewN | apply below_drew1 | refine below_set ?_ GE253.out | refine below_set ?_ GE254.out | refine below_set ?_ GE268.out | refine below_set ?_ GE275.out | refine below_set ?_ GE282.out) | exact HB.out)⟩⟩
            · rw [if_neg c82] at H
              have c82b0 : decide (0 < (t288.length : Int)) = false := decide_eq_false c82
              have c82b1 : decide (0 < t288.length) = false := decide_eq_false (by omega)
              clear c82
              (first | rw [c82b0] | (simp only [i64_w, i32_w]; rw [c82b0]) | skip)
              replace H := Option.bind_eq_some_iff.mp H
              obtain ⟨t297, A840, H⟩ := H
              replace H : (trefoillaw12_DequeTells.j1 kj3 a2 t267 t274 t281 false ((t281 == 0) != t297) l0_0 a0_1 a0_2 l1_0 a1_1 a1_2 t262 t265 t266 t269 t272 t273 t276 t279 t280) = some r := H
              have A84 := Aside0.mk A840
              clear A840
              have H' := Aside0.mk H
              clear H
              obtain ⟨Ao85, co85, eo85⟩ := Kd.R_slice HO290.out
              subst eo85
              go_wp2_with (first | (go_at_call 22; (with_reducible refine (trefoilref12_Size.calls kj3 a2 t297 _ A84.out).mono ?_); rintro e w' ⟨rfl, ⟨nd, rfl⟩⟩))
              go_meet
              case rel => exact ⟨_, (((t281 == 0) != t297)), (by first | rfl | (simp; done) | (simp [*]; done)), H', ⟨by have := HJ3.out; first | omega | exact Nat.le_refl _⟩, ⟨by (with_reducible repeat (first | apply Kd.R_alloc | apply Kd.R_drewN | apply Kd.R_drew)); exact Kd.R_mono HO264.out (fun _ hk => ⟨hk.1.1.1.2, hk.1.1.2⟩)⟩, ⟨by (with_reducible repeat (first | apply Kd.R_alloc | apply Kd.R_drewN | apply Kd.R_drew)); exact Kd.R_mono HO271.out (fun _ hk => ⟨hk.1.1.1.2, hk.1.1.2⟩)⟩, ⟨by (with_reducible repeat (first | apply Kd.R_alloc | apply Kd.R_drewN | apply Kd.R_drew)); exact Kd.R_mono HO278.out (fun _ hk => ⟨hk.1.1.1.2, hk.1.1.2⟩)⟩, ⟨by (with_reducible repeat (first | refine blk_drewN ?_ _ | refine blk_drew ?_ | refine blk_alloc ?_ _)); exact BK253.out⟩, ⟨by (with_reducible repeat (first | refine blk_drewN ?_ _ | refine blk_drew ?_ | refine blk_alloc ?_ _)); exact BK254.out⟩, ⟨by (with_reducible repeat (first | refine blk_drewN ?_ _ | refine blk_drew ?_ | refine blk_alloc ?_ _)); exact BK268.out⟩, ⟨by (with_reducible repeat (first | refine blk_drewN ?_ _ | refine blk_drew ?_ | refine blk_alloc ?_ _)); exact BK275.out⟩, ⟨by (with_reducible repeat (first | refine blk_drewN ?_ _ | refine blk_drew ?_ | refine blk_alloc ?_ _)); exact BK282.out⟩, ⟨by repeat (first | (with_reducible first | exact HB.out | apply below_alloc | apply pw_below_drewN | apply below_drew1 | refine below_set ?_ GE253.out | refine below_set ?_ GE254.out | refine below_set ?_ GE268.out | refine below_set ?_ GE275.out | refine below_set ?_ GE282.out) | exact HB.out)⟩⟩
        case rest =>
          clear HC28
          try clear c1
          try clear c2
          try clear p2
          try clear c3
          try clear c4
          try clear c5
          try clear c6
          try clear c7
          try clear c8
          try clear c9
          try clear c9b0
          try clear c9b1
          try clear c10
          try clear c11
          try clear c14
          try clear c15
          try clear c16
          try clear c17
          try clear c18
          try clear c19
          try clear c29
          try clear c36
          try clear c37
          try clear c43
          try clear c44
          try clear c45
          try clear c50
          try clear c51
          try clear c52
          try clear c53
          try clear c61
          try clear c64
          try clear c66
          try clear c67
          try clear c68
          try clear c69
          try clear c74
          try clear c75
          try clear c76
          try clear c77
          try clear c82
          try clear c82b0
          try clear c82b1
          try clear hcz12_0
          try clear hcz12_1
          try clear hcz12_2
          try clear hcz15_0
          try clear hcz15_1
          try clear hcz15_2
          try clear hcz16_0
          try clear hcz16_1
          try clear hcz16_2
          try clear hcz30_0
          try clear hcz30_1
          try clear hcz30_2
          try clear hcz38_0
          try clear hcz38_1
          try clear hcz38_2
          try clear hcz39_0
          try clear hcz39_1
          try clear hcz39_2
          try clear hcz46_0
          try clear hcz46_1
          try clear hcz46_2
          try clear hcz54_0
          try clear hcz54_1
          try clear hcz54_2
          try clear hcz55_0
          try clear hcz55_1
          try clear hcz55_2
          try clear hcz59_0
          try clear hcz59_1
          try clear hcz59_2
          try clear hcz70_0
          try clear hcz70_1
          try clear hcz70_2
          try clear hcz78_0
          try clear hcz78_1
          try clear hcz78_2
          try clear hfz12_0
          try clear hfz12_1
          try clear hfz12_2
          try clear hfz15_0
          try clear hfz15_1
          try clear hfz15_2
          try clear hfz16_0
          try clear hfz16_1
          try clear hfz16_2
          try clear hfz30_0
          try clear hfz30_1
          try clear hfz30_2
          try clear hfz38_0
          try clear hfz38_1
          try clear hfz38_2
          try clear hfz39_0
          try clear hfz39_1
          try clear hfz39_2
          try clear hfz46_0
          try clear hfz46_1
          try clear hfz46_2
          try clear hfz54_0
          try clear hfz54_1
          try clear hfz54_2
          try clear hfz55_0
          try clear hfz55_1
          try clear hfz55_2
          try clear hfz59_0
          try clear hfz59_1
          try clear hfz59_2
          try clear hfz70_0
          try clear hfz70_1
          try clear hfz70_2
          try clear hfz78_0
          try clear hfz78_1
          try clear hfz78_2
          try clear p2
          obtain ⟨kq, x76_27, rfl, HA, HJ27, HO_269000, HO_276000, HO_283000, BK253, BK254, BK268, BK275, BK282, HB⟩ := hcut
          cases kq with
          | zero => exact absurd HA.out (by simp [trefoillaw12_DequeTells.j1])
          | succ kj27 =>
            have H := HA.out
            clear HA
            simp only [trefoillaw12_DequeTells.j1] at H
            by_cases c86 : x76_27 = true
            · subst c86
              have H1 : (some false) = some r := by rw [if_pos rfl] at H; exact H
              clear H
              have H := H1
              clear H1
              obtain rfl := Option.some.inj H
              go_wp2
              go_ret
              exact ⟨by first | rfl | (simp [errW_none, errW_some] <;> rfl) | (simp [*, errW_none, errW_some] <;> rfl), by repeat (first | (with_reducible first | exact HB.out | apply below_alloc | apply pw_below_drewN | apply below_drew1 | refine below_set ?_ GE253.out | refine below_set ?_ GE254.out | refine below_set ?_ GE268.out | refine below_set ?_ GE275.out | refine below_set ?_ GE282.out) | exact HB.out)⟩
            · replace c86 := Bool.eq_false_iff.mpr c86
              subst c86
              have H1 : (if t281 = 0 then (if (t276.length : Int) = a2 then (if t279 = 0 then (if t280 = 0 then (trefoillaw12_DequeTells.j2 kj27 t267 t274 t291 false l0_0 a0_1 a0_2 l1_0 a1_1 a1_2 t262 t265 t266 t269 t272 t273) else (trefoillaw12_DequeTells.j2 kj27 t267 t274 t291 true l0_0 a0_1 a0_2 l1_0 a1_1 a1_2 t262 t265 t266 t269 t272 t273)) else (trefoillaw12_DequeTells.j2 kj27 t267 t274 t291 true l0_0 a0_1 a0_2 l1_0 a1_1 a1_2 t262 t265 t266 t269 t272 t273)) else (trefoillaw12_DequeTells.j2 kj27 t267 t274 t291 true l0_0 a0_1 a0_2 l1_0 a1_1 a1_2 t262 t265 t266 t269 t272 t273)) else (if t281 = 120 then (trefoillaw12_DequeTells.j2 kj27 t267 t274 t291 (decide ((t276.length : Int) > 0)) l0_0 a0_1 a0_2 l1_0 a1_1 a1_2 t262 t265 t266 t269 t272 t273) else (trefoillaw12_DequeTells.j2 kj27 t267 t274 t291 true l0_0 a0_1 a0_2 l1_0 a1_1 a1_2 t262 t265 t266 t269 t272 t273))) = some r := by rw [if_neg (show ¬ (false = true) by decide)] at H; exact H
              clear H
              have H := H1
              clear H1
              have HC87 := Aside0.mk H
              clear H
              go_upto_region 10 with (fail)
              go_cut [109] (fun v109 wc => ∃ (kq : Nat) (x109_86 : Bool), v109 = .bool x109_86 ∧ Aside0 (trefoillaw12_DequeTells.j2 kq t267 t274 t291 x109_86 l0_0 a0_1 a0_2 l1_0 a1_1 a1_2 t262 t265 t266 t269 t272 t273 = some r) ∧ Aside0 (kq ≤ kj27) ∧ Aside0 (Kd.R (Kd.int .i64) 3 wc w.heap.size (fun k_ => some k_ ≠ ((.slice Ao42 t269.length co42) : Value).ownBlock ∧ some k_ ≠ ((.slice Ao49 t276.length co49) : Value).ownBlock) (.slice Ao35 t262.length co35) t262) ∧ Aside0 (Kd.R (Kd.int .i64) 3 wc w.heap.size (fun k_ => some k_ ≠ ((.slice Ao35 t262.length co35) : Value).ownBlock ∧ some k_ ≠ ((.slice Ao49 t276.length co49) : Value).ownBlock) (.slice Ao42 t269.length co42) t269) ∧ Aside0 (Kd.R (Kd.int .i64) 3 wc w.heap.size (fun k_ => some k_ ≠ ((.slice Ao35 t262.length co35) : Value).ownBlock ∧ some k_ ≠ ((.slice Ao42 t269.length co42) : Value).ownBlock) (.slice Ao49 t276.length co49) t276) ∧ Aside0 (wc.heap[gb253]? = some (.cells #[(.slice A0_0 l0_0.length c0_0), .int .i64 a0_1, .int .i64 a0_2] 24 (0, 0))) ∧ Aside0 (wc.heap[gb254]? = some (.cells #[(.slice A1_0 l1_0.length c1_0), .int .i64 a1_1, .int .i64 a1_2] 24 (0, 0))) ∧ Aside0 (wc.heap[gb268]? = some (.cells #[(.slice Ao35 t262.length co35), .int .i64 t265, .int .i64 t266] 24 (0, 0))) ∧ Aside0 (wc.heap[gb275]? = some (.cells #[(.slice Ao42 t269.length co42), .int .i64 t272, .int .i64 t273] 24 (0, 0))) ∧ Aside0 (wc.heap[gb282]? = some (.cells #[(.slice Ao49 t276.length co49), .int .i64 t279, .int .i64 t280] 24 (0, 0))) ∧ Aside0 (Below w.heap.size w wc))
              case first =>
                have H := HC87.out
                clear HC87
                by_cases c88 : t281 = 0
                · rw [if_pos c88] at H
                  have c88b0 : (t281 == 0) = true := beq_iff_eq.mpr c88
                  have c88b1 : (t281 != 0) = false := bne_eq_false_iff_eq.mpr c88
                  clear c88
                  (first | rw [c88b0] | (simp only [i64_w, i32_w]; rw [c88b0]) | skip)
                  by_cases c89 : (t276.length : Int) = a2
                  · rw [if_pos c89] at H
                    have c89b0 : ((t276.length : Int) == a2) = true := beq_iff_eq.mpr c89
                    have c89b1 : ((t276.length : Int) != a2) = false := bne_eq_false_iff_eq.mpr c89
                    clear c89
                    by_cases c90 : t279 = 0
                    · rw [if_pos c90] at H
                      have c90b0 : (t279 == 0) = true := beq_iff_eq.mpr c90
                      have c90b1 : (t279 != 0) = false := bne_eq_false_iff_eq.mpr c90
                      clear c90
                      by_cases c91 : t280 = 0
                      · rw [if_pos c91] at H
                        have c91b0 : (t280 == 0) = true := beq_iff_eq.mpr c91
                        have c91b1 : (t280 != 0) = false := bne_eq_false_iff_eq.mpr c91
                        clear c91
                        have H' := Aside0.mk H
                        clear H
                        have hnb92 := NB282_253.out
                        have hnc92 := NB253_282.out
                        have hnb93 := NB282_254.out
                        have hnc93 := NB254_282.out
                        have hnb94 := NB282_268.out
                        have hnc94 := NB268_282.out
                        have hnb95 := NB282_275.out
                        have hnc95 := NB275_282.out
                        have hcz96_0 : wc.cell? ⟨gb282, 0, none⟩ = some (.slice Ao49 t276.length co49) := (blk_cell BK282.out 0).trans rfl
                        have hcz96_1 : wc.cell? ⟨gb282, 1, none⟩ = some (.int .i64 t279) := (blk_cell BK282.out 1).trans rfl
                        have hcz96_2 : wc.cell? ⟨gb282, 2, none⟩ = some (.int .i64 t280) := (blk_cell BK282.out 2).trans rfl
                        have hfz96_0 := blk_frozen BK282.out 0
                        have hfz96_1 := blk_frozen BK282.out 1
                        have hfz96_2 := blk_frozen BK282.out 2
                        go_wp2
                        go_meet
                        case rel => exact ⟨_, (false), (by first | rfl | (simp; done) | (simp [*]; done)), H', ⟨by have := HJ3.out; have := HJ27.out; first | omega | exact Nat.le_refl _⟩, ⟨by (with_reducible repeat (first | apply Kd.R_alloc | apply Kd.R_drewN | apply Kd.R_drew)); exact HO_269000.out⟩, ⟨by (with_reducible repeat (first | apply Kd.R_alloc | apply Kd.R_drewN | apply Kd.R_drew)); exact HO_276000.out⟩, ⟨by (with_reducible repeat (first | apply Kd.R_alloc | apply Kd.R_drewN | apply Kd.R_drew)); exact HO_283000.out⟩, ⟨by (with_reducible repeat (first | refine blk_drewN ?_ _ | refine blk_drew ?_ | refine blk_alloc ?_ _)); exact BK253.out⟩, ⟨by (with_reducible repeat (first | refine blk_drewN ?_ _ | refine blk_drew ?_ | refine blk_alloc ?_ _)); exact BK254.out⟩, ⟨by (with_reducible repeat (first | refine blk_drewN ?_ _ | refine blk_drew ?_ | refine blk_alloc ?_ _)); exact BK268.out⟩, ⟨by (with_reducible repeat (first | refine blk_drewN ?_ _ | refine blk_drew ?_ | refine blk_alloc ?_ _)); exact BK275.out⟩, ⟨by (with_reducible repeat (first | refine blk_drewN ?_ _ | refine blk_drew ?_ | refine blk_alloc ?_ _)); exact BK282.out⟩, ⟨by repeat (first | (with_reducible first | exact HB.out | apply below_alloc | apply pw_below_drewN | apply below_drew1 | refine below_set ?_ GE253.out | refine below_set ?_ GE254.out | refine below_set ?_ GE268.out | refine below_set ?_ GE275.out | refine below_set ?_ GE282.out) | exact HB.out)⟩⟩
                      · rw [if_neg c91] at H
                        have c91b0 : (t280 == 0) = false := beq_eq_false_iff_ne.mpr c91
                        have c91b1 : (t280 != 0) = true := bne_iff_ne.mpr c91
                        have H' := Aside0.mk H
                        clear H
                        have hnb97 := NB282_253.out
                        have hnc97 := NB253_282.out
                        have hnb98 := NB282_254.out
                        have hnc98 := NB254_282.out
                        have hnb99 := NB282_268.out
                        have hnc99 := NB268_282.out
                        have hnb100 := NB282_275.out
                        have hnc100 := NB275_282.out
                        have hcz101_0 : wc.cell? ⟨gb282, 0, none⟩ = some (.slice Ao49 t276.length co49) := (blk_cell BK282.out 0).trans rfl
                        have hcz101_1 : wc.cell? ⟨gb282, 1, none⟩ = some (.int .i64 t279) := (blk_cell BK282.out 1).trans rfl
                        have hcz101_2 : wc.cell? ⟨gb282, 2, none⟩ = some (.int .i64 t280) := (blk_cell BK282.out 2).trans rfl
                        have hfz101_0 := blk_frozen BK282.out 0
                        have hfz101_1 := blk_frozen BK282.out 1
                        have hfz101_2 := blk_frozen BK282.out 2
                        go_wp2
                        go_meet
                        case rel => exact ⟨_, (true), (by first | rfl | (simp; done) | (simp [*]; done)), H', ⟨by have := HJ3.out; have := HJ27.out; first | omega | exact Nat.le_refl _⟩, ⟨by (with_reducible repeat (first | apply Kd.R_alloc | apply Kd.R_drewN | apply Kd.R_drew)); exact HO_269000.out⟩, ⟨by (with_reducible repeat (first | apply Kd.R_alloc | apply Kd.R_drewN | apply Kd.R_drew)); exact HO_276000.out⟩, ⟨by (with_reducible repeat (first | apply Kd.R_alloc | apply Kd.R_drewN | apply Kd.R_drew)); exact HO_283000.out⟩, ⟨by (with_reducible repeat (first | refine blk_drewN ?_ _ | refine blk_drew ?_ | refine blk_alloc ?_ _)); exact BK253.out⟩, ⟨by (with_reducible repeat (first | refine blk_drewN ?_ _ | refine blk_drew ?_ | refine blk_alloc ?_ _)); exact BK254.out⟩, ⟨by (with_reducible repeat (first | refine blk_drewN ?_ _ | refine blk_drew ?_ | refine blk_alloc ?_ _)); exact BK268.out⟩, ⟨by (with_reducible repeat (first | refine blk_drewN ?_ _ | refine blk_drew ?_ | refine blk_alloc ?_ _)); exact BK275.out⟩, ⟨by (with_reducible repeat (first | refine blk_drewN ?_ _ | refine blk_drew ?_ | refine blk_alloc ?_ _)); exact BK282.out⟩, ⟨by repeat (first | (with_reducible first | exact HB.out | apply below_alloc | apply pw_below_drewN | apply below_drew1 | refine below_set ?_ GE253.out | refine below_set ?_ GE254.out | refine below_set ?_ GE268.out | refine below_set ?_ GE275.out | refine below_set ?_ GE282.out) | exact HB.out)⟩⟩
                    · rw [if_neg c90] at H
                      have c90b0 : (t279 == 0) = false := beq_eq_false_iff_ne.mpr c90
                      have c90b1 : (t279 != 0) = true := bne_iff_ne.mpr c90
                      have H' := Aside0.mk H
                      clear H
                      have hnb102 := NB282_253.out
                      have hnc102 := NB253_282.out
                      have hnb103 := NB282_254.out
                      have hnc103 := NB254_282.out
                      have hnb104 := NB282_268.out
                      have hnc104 := NB268_282.out
                      have hnb105 := NB282_275.out
                      have hnc105 := NB275_282.out
                      have hcz106_0 : wc.cell? ⟨gb282, 0, none⟩ = some (.slice Ao49 t276.length co49) := (blk_cell BK282.out 0).trans rfl
                      have hcz106_1 : wc.cell? ⟨gb282, 1, none⟩ = some (.int .i64 t279) := (blk_cell BK282.out 1).trans rfl
                      have hcz106_2 : wc.cell? ⟨gb282, 2, none⟩ = some (.int .i64 t280) := (blk_cell BK282.out 2).trans rfl
                      have hfz106_0 := blk_frozen BK282.out 0
                      have hfz106_1 := blk_frozen BK282.out 1
                      have hfz106_2 := blk_frozen BK282.out 2
                      go_wp2
                      go_meet
                      case rel => exact ⟨_, (true), (by first | rfl | (simp; done) | (simp [*]; done)), H', ⟨by have := HJ3.out; have := HJ27.out; first | omega | exact Nat.le_refl _⟩, ⟨by (with_reducible repeat (first | apply Kd.R_alloc | apply Kd.R_drewN | apply Kd.R_drew)); exact HO_269000.out⟩, ⟨by (with_reducible repeat (first | apply Kd.R_alloc | apply Kd.R_drewN | apply Kd.R_drew)); exact HO_276000.out⟩, ⟨by (with_reducible repeat (first | apply Kd.R_alloc | apply Kd.R_drewN | apply Kd.R_drew)); exact HO_283000.out⟩, ⟨by (with_reducible repeat (first | refine blk_drewN ?_ _ | refine blk_drew ?_ | refine blk_alloc ?_ _)); exact BK253.out⟩, ⟨by (with_reducible repeat (first | refine blk_drewN ?_ _ | refine blk_drew ?_ | refine blk_alloc ?_ _)); exact BK254.out⟩, ⟨by (with_reducible repeat (first | refine blk_drewN ?_ _ | refine blk_drew ?_ | refine blk_alloc ?_ _)); exact BK268.out⟩, ⟨by (with_reducible repeat (first | refine blk_drewN ?_ _ | refine blk_drew ?_ | refine blk_alloc ?_ _)); exact BK275.out⟩, ⟨by (with_reducible repeat (first | refine blk_drewN ?_ _ | refine blk_drew ?_ | refine blk_alloc ?_ _)); exact BK282.out⟩, ⟨by repeat (first | (with_reducible first | exact HB.out | apply below_alloc | apply pw_below_drewN | apply below_drew1 | refine below_set ?_ GE253.out | refine below_set ?_ GE254.out | refine below_set ?_ GE268.out | refine below_set ?_ GE275.out | refine below_set ?_ GE282.out) | exact HB.out)⟩⟩
                  · rw [if_neg c89] at H
                    have c89b0 : ((t276.length : Int) == a2) = false := beq_eq_false_iff_ne.mpr c89
                    have c89b1 : ((t276.length : Int) != a2) = true := bne_iff_ne.mpr c89
                    have H' := Aside0.mk H
                    clear H
                    have hnb107 := NB282_253.out
                    have hnc107 := NB253_282.out
                    have hnb108 := NB282_254.out
                    have hnc108 := NB254_282.out
                    have hnb109 := NB282_268.out
                    have hnc109 := NB268_282.out
                    have hnb110 := NB282_275.out
                    have hnc110 := NB275_282.out
                    have hcz111_0 : wc.cell? ⟨gb282, 0, none⟩ = some (.slice Ao49 t276.length co49) := (blk_cell BK282.out 0).trans rfl
                    have hcz111_1 : wc.cell? ⟨gb282, 1, none⟩ = some (.int .i64 t279) := (blk_cell BK282.out 1).trans rfl
                    have hcz111_2 : wc.cell? ⟨gb282, 2, none⟩ = some (.int .i64 t280) := (blk_cell BK282.out 2).trans rfl
                    have hfz111_0 := blk_frozen BK282.out 0
                    have hfz111_1 := blk_frozen BK282.out 1
                    have hfz111_2 := blk_frozen BK282.out 2
                    go_wp2
                    go_meet
                    case rel => exact ⟨_, (true), (by first | rfl | (simp; done) | (simp [*]; done)), H', ⟨by have := HJ3.out; have := HJ27.out; first | omega | exact Nat.le_refl _⟩, ⟨by (with_reducible repeat (first | apply Kd.R_alloc | apply Kd.R_drewN | apply Kd.R_drew)); exact HO_269000.out⟩, ⟨by (with_reducible repeat (first | apply Kd.R_alloc | apply Kd.R_drewN | apply Kd.R_drew)); exact HO_276000.out⟩, ⟨by (with_reducible repeat (first | apply Kd.R_alloc | apply Kd.R_drewN | apply Kd.R_drew)); exact HO_283000.out⟩, ⟨by (with_reducible repeat (first | refine blk_drewN ?_ _ | refine blk_drew ?_ | refine blk_alloc ?_ _)); exact BK253.out⟩, ⟨by (with_reducible repeat (first | refine blk_drewN ?_ _ | refine blk_drew ?_ | refine blk_alloc ?_ _)); exact BK254.out⟩, ⟨by (with_reducible repeat (first | refine blk_drewN ?_ _ | refine blk_drew ?_ | refine blk_alloc ?_ _)); exact BK268.out⟩, ⟨by (with_reducible repeat (first | refine blk_drewN ?_ _ | refine blk_drew ?_ | refine blk_alloc ?_ _)); exact BK275.out⟩, ⟨by (with_reducible repeat (first | refine blk_drewN ?_ _ | refine blk_drew ?_ | refine blk_alloc ?_ _)); exact BK282.out⟩, ⟨by repeat (first | (with_reducible first | exact HB.out | apply below_alloc | apply pw_below_drewN | apply below_drew1 | refine below_set ?_ GE253.out | refine below_set ?_ GE254.out | refine below_set ?_ GE268.out | refine below_set ?_ GE275.out | refine below_set ?_ GE282.out) | exact HB.out)⟩⟩
                · rw [if_neg c88] at H
                  have c88b0 : (t281 == 0) = false := beq_eq_false_iff_ne.mpr c88
                  have c88b1 : (t281 != 0) = true := bne_iff_ne.mpr c88
                  (first | rw [c88b0] | (simp only [i64_w, i32_w]; rw [c88b0]) | skip)
                  by_cases c112 : t281 = 120
                  · rw [if_pos c112] at H
                    have c112b0 : (t281 == 120) = true := beq_iff_eq.mpr c112
                    have c112b1 : (t281 != 120) = false := bne_eq_false_iff_eq.mpr c112
                    clear c112
                    have H' := Aside0.mk H
                    clear H
                    have hnb113 := NB282_253.out
                    have hnc113 := NB253_282.out
                    have hnb114 := NB282_254.out
                    have hnc114 := NB254_282.out
                    have hnb115 := NB282_268.out
                    have hnc115 := NB268_282.out
                    have hnb116 := NB282_275.out
                    have hnc116 := NB275_282.out
                    have hcz117_0 : wc.cell? ⟨gb282, 0, none⟩ = some (.slice Ao49 t276.length co49) := (blk_cell BK282.out 0).trans rfl
                    have hcz117_1 : wc.cell? ⟨gb282, 1, none⟩ = some (.int .i64 t279) := (blk_cell BK282.out 1).trans rfl
                    have hcz117_2 : wc.cell? ⟨gb282, 2, none⟩ = some (.int .i64 t280) := (blk_cell BK282.out 2).trans rfl
                    have hfz117_0 := blk_frozen BK282.out 0
                    have hfz117_1 := blk_frozen BK282.out 1
                    have hfz117_2 := blk_frozen BK282.out 2
                    go_wp2
                    go_meet
                    case rel => exact ⟨_, (decide ((t276.length : Int) > 0)), (by first | rfl | (simp; done) | (simp [*]; done)), H', ⟨by have := HJ3.out; have := HJ27.out; first | omega | exact Nat.le_refl _⟩, ⟨by (with_reducible repeat (first | apply Kd.R_alloc | apply Kd.R_drewN | apply Kd.R_drew)); exact HO_269000.out⟩, ⟨by (with_reducible repeat (first | apply Kd.R_alloc | apply Kd.R_drewN | apply Kd.R_drew)); exact HO_276000.out⟩, ⟨by (with_reducible repeat (first | apply Kd.R_alloc | apply Kd.R_drewN | apply Kd.R_drew)); exact HO_283000.out⟩, ⟨by (with_reducible repeat (first | refine blk_drewN ?_ _ | refine blk_drew ?_ | refine blk_alloc ?_ _)); exact BK253.out⟩, ⟨by (with_reducible repeat (first | refine blk_drewN ?_ _ | refine blk_drew ?_ | refine blk_alloc ?_ _)); exact BK254.out⟩, ⟨by (with_reducible repeat (first | refine blk_drewN ?_ _ | refine blk_drew ?_ | refine blk_alloc ?_ _)); exact BK268.out⟩, ⟨by (with_reducible repeat (first | refine blk_drewN ?_ _ | refine blk_drew ?_ | refine blk_alloc ?_ _)); exact BK275.out⟩, ⟨by (with_reducible repeat (first | refine blk_drewN ?_ _ | refine blk_drew ?_ | refine blk_alloc ?_ _)); exact BK282.out⟩, ⟨by repeat (first | (with_reducible first | exact HB.out | apply below_alloc | apply pw_below_drewN | apply below_drew1 | refine below_set ?_ GE253.out | refine below_set ?_ GE254.out | refine below_set ?_ GE268.out | refine below_set ?_ GE275.out | refine below_set ?_ GE282.out) | exact HB.out)⟩⟩
                  · rw [if_neg c112] at H
                    have c112b0 : (t281 == 120) = false := beq_eq_false_iff_ne.mpr c112
                    have c112b1 : (t281 != 120) = true := bne_iff_ne.mpr c112
                    have H' := Aside0.mk H
                    clear H
                    go_wp2
                    go_meet
                    case rel => exact ⟨_, (true), (by first | rfl | (simp; done) | (simp [*]; done)), H', ⟨by have := HJ3.out; have := HJ27.out; first | omega | exact Nat.le_refl _⟩, ⟨by (with_reducible repeat (first | apply Kd.R_alloc | apply Kd.R_drewN | apply Kd.R_drew)); exact HO_269000.out⟩, ⟨by (with_reducible repeat (first | apply Kd.R_alloc | apply Kd.R_drewN | apply Kd.R_drew)); exact HO_276000.out⟩, ⟨by (with_reducible repeat (first | apply Kd.R_alloc | apply Kd.R_drewN | apply Kd.R_drew)); exact HO_283000.out⟩, ⟨by (with_reducible repeat (first | refine blk_drewN ?_ _ | refine blk_drew ?_ | refine blk_alloc ?_ _)); exact BK253.out⟩, ⟨by (with_reducible repeat (first | refine blk_drewN ?_ _ | refine blk_drew ?_ | refine blk_alloc ?_ _)); exact BK254.out⟩, ⟨by (with_reducible repeat (first | refine blk_drewN ?_ _ | refine blk_drew ?_ | refine blk_alloc ?_ _)); exact BK268.out⟩, ⟨by (with_reducible repeat (first | refine blk_drewN ?_ _ | refine blk_drew ?_ | refine blk_alloc ?_ _)); exact BK275.out⟩, ⟨by (with_reducible repeat (first | refine blk_drewN ?_ _ | refine blk_drew ?_ | refine blk_alloc ?_ _)); exact BK282.out⟩, ⟨by repeat (first | (with_reducible first | exact HB.out | apply below_alloc | apply pw_below_drewN | apply below_drew1 | refine below_set ?_ GE253.out | refine below_set ?_ GE254.out | refine below_set ?_ GE268.out | refine below_set ?_ GE275.out | refine below_set ?_ GE282.out) | exact HB.out)⟩⟩
              case rest =>
                clear HC87
                try clear c1
                try clear c2
                try clear p2
                try clear c3
                try clear c4
                try clear c5
                try clear c6
                try clear c7
                try clear c8
                try clear c9
                try clear c9b0
                try clear c9b1
                try clear c10
                try clear c11
                try clear c14
                try clear c15
                try clear c16
                try clear c17
                try clear c18
                try clear c19
                try clear c29
                try clear c36
                try clear c37
                try clear c43
                try clear c44
                try clear c45
                try clear c50
                try clear c51
                try clear c52
                try clear c53
                try clear c61
                try clear c64
                try clear c66
                try clear c67
                try clear c68
                try clear c69
                try clear c74
                try clear c75
                try clear c76
                try clear c77
                try clear c82
                try clear c82b0
                try clear c82b1
                try clear c86
                try clear c88
                try clear c88b0
                try clear c88b1
                try clear c89
                try clear c89b0
                try clear c89b1
                try clear c90
                try clear c90b0
                try clear c90b1
                try clear c91
                try clear c91b0
                try clear c91b1
                try clear c92
                try clear c93
                try clear c94
                try clear c95
                try clear c97
                try clear c98
                try clear c99
                try clear c100
                try clear c102
                try clear c103
                try clear c104
                try clear c105
                try clear c107
                try clear c108
                try clear c109
                try clear c110
                try clear c112
                try clear c112b0
                try clear c112b1
                try clear c113
                try clear c114
                try clear c115
                try clear c116
                try clear hcz101_0
                try clear hcz101_1
                try clear hcz101_2
                try clear hcz106_0
                try clear hcz106_1
                try clear hcz106_2
                try clear hcz111_0
                try clear hcz111_1
                try clear hcz111_2
                try clear hcz117_0
                try clear hcz117_1
                try clear hcz117_2
                try clear hcz12_0
                try clear hcz12_1
                try clear hcz12_2
                try clear hcz15_0
                try clear hcz15_1
                try clear hcz15_2
                try clear hcz16_0
                try clear hcz16_1
                try clear hcz16_2
                try clear hcz30_0
                try clear hcz30_1
                try clear hcz30_2
                try clear hcz38_0
                try clear hcz38_1
                try clear hcz38_2
                try clear hcz39_0
                try clear hcz39_1
                try clear hcz39_2
                try clear hcz46_0
                try clear hcz46_1
                try clear hcz46_2
                try clear hcz54_0
                try clear hcz54_1
                try clear hcz54_2
                try clear hcz55_0
                try clear hcz55_1
                try clear hcz55_2
                try clear hcz59_0
                try clear hcz59_1
                try clear hcz59_2
                try clear hcz70_0
                try clear hcz70_1
                try clear hcz70_2
                try clear hcz78_0
                try clear hcz78_1
                try clear hcz78_2
                try clear hcz96_0
                try clear hcz96_1
                try clear hcz96_2
                try clear hfz101_0
                try clear hfz101_1
                try clear hfz101_2
                try clear hfz106_0
                try clear hfz106_1
                try clear hfz106_2
                try clear hfz111_0
                try clear hfz111_1
                try clear hfz111_2
                try clear hfz117_0
                try clear hfz117_1
                try clear hfz117_2
                try clear hfz12_0
                try clear hfz12_1
                try clear hfz12_2
                try clear hfz15_0
                try clear hfz15_1
                try clear hfz15_2
                try clear hfz16_0
                try clear hfz16_1
                try clear hfz16_2
                try clear hfz30_0
                try clear hfz30_1
                try clear hfz30_2
                try clear hfz38_0
                try clear hfz38_1
                try clear hfz38_2
                try clear hfz39_0
                try clear hfz39_1
                try clear hfz39_2
                try clear hfz46_0
                try clear hfz46_1
                try clear hfz46_2
                try clear hfz54_0
                try clear hfz54_1
                try clear hfz54_2
                try clear hfz55_0
                try clear hfz55_1
                try clear hfz55_2
                try clear hfz59_0
                try clear hfz59_1
                try clear hfz59_2
                try clear hfz70_0
                try clear hfz70_1
                try clear hfz70_2
                try clear hfz78_0
                try clear hfz78_1
                try clear hfz78_2
                try clear hfz96_0
                try clear hfz96_1
                try clear hfz96_2
                try clear p2
                obtain ⟨kq, x109_86, rfl, HA, HJ86, HO_269000, HO_276000, HO_283000, BK253, BK254, BK268, BK275, BK282, HB⟩ := hcut
                cases kq with
                | zero => exact absurd HA.out (by simp [trefoillaw12_DequeTells.j2])
                | succ kj86 =>
                  have H := HA.out
                  clear HA
                  simp only [trefoillaw12_DequeTells.j2] at H
                  by_cases c118 : x109_86 = true
                  · subst c118
                    have H1 : (some false) = some r := by rw [if_pos rfl] at H; exact H
                    clear H
                    have H := H1
                    clear H1
                    obtain rfl := Option.some.inj H
                    go_wp2
                    go_ret
                    exact ⟨by first | rfl | (simp [errW_none, errW_some] <;> rfl) | (simp [*, errW_none, errW_some] <;> rfl), by repeat (first | (with_reducible first | exact HB.out | apply below_alloc | apply pw_below_drewN | apply below_drew1 | refine below_set ?_ GE253.out | refine below_set ?_ GE254.out | refine below_set ?_ GE268.out | refine below_set ?_ GE275.out | refine below_set ?_ GE282.out) | exact HB.out)⟩
                  · replace c118 := Bool.eq_false_iff.mpr c118
                    subst c118
                    have H1 : ((trefoilref12_Same.f kj86 t262 t265 t266 t269 t272 t273).bind fun t298 => (if t298 = true then (if t267 = t274 then ((trefoillaw12_Own.f l0_0 a0_1 a0_2).bind fun bt299 => ((deque_Check.f bt299.1 bt299.2.1 bt299.2.2).bind fun t304 => (if ((t304 == 0) == t291) = true then ((trefoillaw12_Own.f l0_0 a0_1 a0_2).bind fun bt305 => ((trefoillaw12_Own.f l1_0 a1_1 a1_2).bind fun bt310 => ((deque_Same.f kj86 bt305.1 bt305.2.1 bt305.2.2 bt310.1 bt310.2.1 bt310.2.2).bind fun t315 => ((trefoilref12_Same.f kj86 l0_0 a0_1 a0_2 l1_0 a1_1 a1_2).bind fun t316 => (some (t315 == t316)))))) else (none)))) else (none)) else (none))) = some r := by rw [if_neg (show ¬ (false = true) by decide)] at H; exact H
                    clear H
                    have H := H1
                    clear H1
                    replace H := Option.bind_eq_some_iff.mp H
                    obtain ⟨t298, A1190, H⟩ := H
                    replace H : (if t298 = true then (if t267 = t274 then ((trefoillaw12_Own.f l0_0 a0_1 a0_2).bind fun bt299 => ((deque_Check.f bt299.1 bt299.2.1 bt299.2.2).bind fun t304 => (if ((t304 == 0) == t291) = true then ((trefoillaw12_Own.f l0_0 a0_1 a0_2).bind fun bt305 => ((trefoillaw12_Own.f l1_0 a1_1 a1_2).bind fun bt310 => ((deque_Same.f kj86 bt305.1 bt305.2.1 bt305.2.2 bt310.1 bt310.2.1 bt310.2.2).bind fun t315 => ((trefoilref12_Same.f kj86 l0_0 a0_1 a0_2 l1_0 a1_1 a1_2).bind fun t316 => (some (t315 == t316)))))) else (none)))) else (none)) else (none)) = some r := H
                    have A119 := Aside0.mk A1190
                    clear A1190
                    by_cases c120 : t298 = true
                    · subst c120
                      have H1 : (if t267 = t274 then ((trefoillaw12_Own.f l0_0 a0_1 a0_2).bind fun bt299 => ((deque_Check.f bt299.1 bt299.2.1 bt299.2.2).bind fun t304 => (if ((t304 == 0) == t291) = true then ((trefoillaw12_Own.f l0_0 a0_1 a0_2).bind fun bt305 => ((trefoillaw12_Own.f l1_0 a1_1 a1_2).bind fun bt310 => ((deque_Same.f kj86 bt305.1 bt305.2.1 bt305.2.2 bt310.1 bt310.2.1 bt310.2.2).bind fun t315 => ((trefoilref12_Same.f kj86 l0_0 a0_1 a0_2 l1_0 a1_1 a1_2).bind fun t316 => (some (t315 == t316)))))) else (none)))) else (none)) = some r := by rw [if_pos rfl] at H; exact H
                      clear H
                      have H := H1
                      clear H1
                      by_cases c121 : t267 = t274
                      · rw [if_pos c121] at H
                        have c121b0 : (t267 == t274) = true := beq_iff_eq.mpr c121
                        have c121b1 : (t267 != t274) = false := bne_eq_false_iff_eq.mpr c121
                        clear c121
                        replace H := Option.bind_eq_some_iff.mp H
                        obtain ⟨⟨t299, t302, t303⟩, A1220, H⟩ := H
                        replace H : ((deque_Check.f t299 t302 t303).bind fun t304 => (if ((t304 == 0) == t291) = true then ((trefoillaw12_Own.f l0_0 a0_1 a0_2).bind fun bt305 => ((trefoillaw12_Own.f l1_0 a1_1 a1_2).bind fun bt310 => ((deque_Same.f kj86 bt305.1 bt305.2.1 bt305.2.2 bt310.1 bt310.2.1 bt310.2.2).bind fun t315 => ((trefoilref12_Same.f kj86 l0_0 a0_1 a0_2 l1_0 a1_1 a1_2).bind fun t316 => (some (t315 == t316)))))) else (none))) = some r := H
                        have A122 := Aside0.mk A1220
                        clear A1220
                        replace H := Option.bind_eq_some_iff.mp H
                        obtain ⟨t304, A1230, H⟩ := H
                        replace H : (if ((t304 == 0) == t291) = true then ((trefoillaw12_Own.f l0_0 a0_1 a0_2).bind fun bt305 => ((trefoillaw12_Own.f l1_0 a1_1 a1_2).bind fun bt310 => ((deque_Same.f kj86 bt305.1 bt305.2.1 bt305.2.2 bt310.1 bt310.2.1 bt310.2.2).bind fun t315 => ((trefoilref12_Same.f kj86 l0_0 a0_1 a0_2 l1_0 a1_1 a1_2).bind fun t316 => (some (t315 == t316)))))) else (none)) = some r := H
                        have A123 := Aside0.mk A1230
                        clear A1230
                        by_cases c124 : ((t304 == 0) == t291) = true
                        · rw [if_pos c124] at H
                          have c124b0 : ((t304 == 0) == t291) = true := c124
                          (try (have c124b1 : decide ((t304 == 0) = t291) = true := by simpa using c124))
                          (try (have c124b2 : ((t304 == 0) == t291) = true := by simpa using c124))
                          clear c124
                          replace H := Option.bind_eq_some_iff.mp H
                          obtain ⟨⟨t305, t308, t309⟩, A1250, H⟩ := H
                          replace H : ((trefoillaw12_Own.f l1_0 a1_1 a1_2).bind fun bt310 => ((deque_Same.f kj86 t305 t308 t309 bt310.1 bt310.2.1 bt310.2.2).bind fun t315 => ((trefoilref12_Same.f kj86 l0_0 a0_1 a0_2 l1_0 a1_1 a1_2).bind fun t316 => (some (t315 == t316))))) = some r := H
                          have A125 := Aside0.mk A1250
                          clear A1250
                          replace H := Option.bind_eq_some_iff.mp H
                          obtain ⟨⟨t310, t313, t314⟩, A1260, H⟩ := H
                          replace H : ((deque_Same.f kj86 t305 t308 t309 t310 t313 t314).bind fun t315 => ((trefoilref12_Same.f kj86 l0_0 a0_1 a0_2 l1_0 a1_1 a1_2).bind fun t316 => (some (t315 == t316)))) = some r := H
                          have A126 := Aside0.mk A1260
                          clear A1260
                          replace H := Option.bind_eq_some_iff.mp H
                          obtain ⟨t315, A1270, H⟩ := H
                          replace H : ((trefoilref12_Same.f kj86 l0_0 a0_1 a0_2 l1_0 a1_1 a1_2).bind fun t316 => (some (t315 == t316))) = some r := H
                          have A127 := Aside0.mk A1270
                          clear A1270
                          replace H := Option.bind_eq_some_iff.mp H
                          obtain ⟨t316, A1280, H⟩ := H
                          replace H : (some (t315 == t316)) = some r := H
                          have A128 := Aside0.mk A1280
                          clear A1280
                          obtain rfl := Option.some.inj H
                          try go_wp2
                          have n0_ := Aside0.mk (Kd.R_drew HO_269000.out)
                          have n1_ := Aside0.mk (Kd.R_drew HO_276000.out)
                          have n2_ := Aside0.mk (Kd.R_drew HO_283000.out)
                          have n3_ := Aside0.mk (blk_drew BK253.out)
                          have n4_ := Aside0.mk (blk_drew BK254.out)
                          have n5_ := Aside0.mk (blk_drew BK268.out)
                          have n6_ := Aside0.mk (blk_drew BK275.out)
                          have n7_ := Aside0.mk (blk_drew BK282.out)
                          have n8_ := Aside0.mk (below_drew1 HB.out)
                          clear HO_269000
                          clear HO_276000
                          clear HO_283000
                          clear BK253
                          clear BK254
                          clear BK268
                          clear BK275
                          clear BK282
                          clear HB
                          have HO_269000 := n0_
                          have HO_276000 := n1_
                          have HO_283000 := n2_
                          have BK253 := n3_
                          have BK254 := n4_
                          have BK268 := n5_
                          have BK275 := n6_
                          have BK282 := n7_
                          have HB := n8_
                          clear n0_ n1_ n2_ n3_ n4_ n5_ n6_ n7_ n8_
                          refine start_ (n := 28) (S := fun w' => w'.cell? ⟨gb268, 0, none⟩ = some (.slice Ao35 t262.length co35) ∧ w'.cell? ⟨gb268, 1, none⟩ = some (.int .i64 t265) ∧ w'.cell? ⟨gb268, 2, none⟩ = some (.int .i64 t266) ∧ w'.cell? ⟨gb275, 0, none⟩ = some (.slice Ao42 t269.length co42) ∧ w'.cell? ⟨gb275, 1, none⟩ = some (.int .i64 t272) ∧ w'.cell? ⟨gb275, 2, none⟩ = some (.int .i64 t273) ∧ w'.cell? ⟨gb253, 0, none⟩ = some (.slice A0_0 l0_0.length c0_0) ∧ w'.cell? ⟨gb253, 1, none⟩ = some (.int .i64 a0_1) ∧ w'.cell? ⟨gb253, 2, none⟩ = some (.int .i64 a0_2) ∧ w'.cell? ⟨gb254, 0, none⟩ = some (.slice A1_0 l1_0.length c1_0) ∧ w'.cell? ⟨gb254, 1, none⟩ = some (.int .i64 a1_1) ∧ w'.cell? ⟨gb254, 2, none⟩ = some (.int .i64 a1_2)) (ds := []) #[false, false, false, false, false, false, false, false, false, false, false, false, false, false, false, false, false, false, false, false, false, false, false, false, false, false, false, false] (by kernel_rfl) rfl rfl ⟨(blk_cell BK268.out 0).trans rfl, (blk_cell BK268.out 1).trans rfl, (blk_cell BK268.out 2).trans rfl, (blk_cell BK275.out 0).trans rfl, (blk_cell BK275.out 1).trans rfl, (blk_cell BK275.out 2).trans rfl, (blk_cell BK253.out 0).trans rfl, (blk_cell BK253.out 1).trans rfl, (blk_cell BK253.out 2).trans rfl, (blk_cell BK254.out 0).trans rfl, (blk_cell BK254.out 1).trans rfl, (blk_cell BK254.out 2).trans rfl⟩ (fun hHeld => ?_); refine with_tabW trefoillaw12_DequeTells.tab12 trefoillaw12_DequeTells.bits12 (fun HT_ HW_ => ?_)
                          generalize wc.drew = w129 at HO_269000 HO_276000 HO_283000 BK253 BK254 BK268 BK275 BK282 HB hHeld ⊢
                          refine take_ (i := 0) (N := some 110) (v := ?_) (a' := ?_) #[true, false, false, false, false, false, false, false, false, false, false, false, false, false, false, false, false, false, false, false, false, false, false, false, false, false, false, false] rfl rfl (take_ofW HT_.out HW_.out (by kernel_rfl)) (fun _ _ _ h => h) (Or.inl ⟨by rfl, ?_⟩) hHeld ?_ ?_
                          rotate_left
                          · rintro w' ⟨s0, s1, s2, s3, s4, s5, s6, s7, s8, s9, s10, s11⟩
                            go_simp
                            with_reducible rfl
                          rotate_left
                          · simp only [Act.put, List.setIfInBounds_toArray, List.set_cons_zero, List.set_cons_succ, i64_w, i32_w]
                            rfl
                          refine take_ (i := 1) (N := some 111) (v := ?_) (a' := ?_) #[true, true, false, false, false, false, false, false, false, false, false, false, false, false, false, false, false, false, false, false, false, false, false, false, false, false, false, false] rfl rfl (take_ofW HT_.out HW_.out (by kernel_rfl)) (fun _ _ _ h => h) (Or.inl ⟨by rfl, ?_⟩) hHeld ?_ ?_
                          rotate_left
                          · rintro w' ⟨s0, s1, s2, s3, s4, s5, s6, s7, s8, s9, s10, s11⟩
                            go_simp
                            with_reducible rfl
                          rotate_left
                          · simp only [Act.put, List.setIfInBounds_toArray, List.set_cons_zero, List.set_cons_succ, i64_w, i32_w]
                            rfl
                          refine one_ (i := 2) (N := some 112) #[true, true, true, false, false, false, false, false, false, false, false, false, false, false, false, false, false, false, false, false, false, false, false, false, false, false, false, false] rfl rfl (one_of HT_.out (by kernel_rfl)) (by decide) (fun K hK => ?_)
                          refine goes_ Tryd.func14 (by kernel_rfl) rfl #[.agg #[.slice Ao35 t262.length co35, .int .i64 t265, .int .i64 t266], .agg #[.slice Ao42 t269.length co42, .int .i64 t272, .int .i64 t273]] (by rfl) rfl rfl (by (try simp only [List.map_toArray, List.map_cons, List.map_nil]); first | done | rfl | (simp only [List.length_drop, List.length_take]; rfl)) ?_
                          with_reducible refine (trefoilref12_Same.calls kj86 _ _ t262 t265 t266 _ _ t269 t272 t273 true _ ?side1 ?side2 ?side3 ?side4 A119.out).mono ?_
                          (case side1 => repeat (first | exact (Kd.R_reads' HO_269000.out).2.2 | (with_reducible refine Kd.C_alloc ?_ _) | (with_reducible refine Kd.C_drewN ?_ _) | (with_reducible refine Kd.C_drew ?_)))
                          (case side2 => exact (Kd.R_reads' HO_269000.out).2.1)
                          (case side3 => repeat (first | exact (Kd.R_reads' HO_276000.out).2.2 | (with_reducible refine Kd.C_alloc ?_ _) | (with_reducible refine Kd.C_drewN ?_ _) | (with_reducible refine Kd.C_drew ?_)))
                          (case side4 => exact (Kd.R_reads' HO_276000.out).2.1)
                          rintro e w130 ⟨rfl, hb⟩
                          refine ⟨_, rfl, ?_⟩
                          have n0_ := Aside0.mk (Kd.R_below (by (with_reducible repeat (first | apply Kd.R_alloc | apply Kd.R_drewN | apply Kd.R_drew)); exact HO_269000.out) hb)
                          have n1_ := Aside0.mk (Kd.R_below (by (with_reducible repeat (first | apply Kd.R_alloc | apply Kd.R_drewN | apply Kd.R_drew)); exact HO_276000.out) hb)
                          have n2_ := Aside0.mk (Kd.R_below (by (with_reducible repeat (first | apply Kd.R_alloc | apply Kd.R_drewN | apply Kd.R_drew)); exact HO_283000.out) hb)
                          have n3_ := Aside0.mk (blk_below (g := gb253) (o := .cells #[.slice A0_0 l0_0.length c0_0, .int .i64 a0_1, .int .i64 a0_2] 24 (0, 0)) (by (with_reducible repeat (first | refine blk_drewN ?_ _ | refine blk_drew ?_ | refine blk_alloc ?_ _)); exact BK253.out) hb)
                          have n4_ := Aside0.mk (blk_below (g := gb254) (o := .cells #[.slice A1_0 l1_0.length c1_0, .int .i64 a1_1, .int .i64 a1_2] 24 (0, 0)) (by (with_reducible repeat (first | refine blk_drewN ?_ _ | refine blk_drew ?_ | refine blk_alloc ?_ _)); exact BK254.out) hb)
                          have n5_ := Aside0.mk (blk_below (g := gb268) (o := .cells #[.slice Ao35 t262.length co35, .int .i64 t265, .int .i64 t266] 24 (0, 0)) (by (with_reducible repeat (first | refine blk_drewN ?_ _ | refine blk_drew ?_ | refine blk_alloc ?_ _)); exact BK268.out) hb)
                          have n6_ := Aside0.mk (blk_below (g := gb275) (o := .cells #[.slice Ao42 t269.length co42, .int .i64 t272, .int .i64 t273] 24 (0, 0)) (by (with_reducible repeat (first | refine blk_drewN ?_ _ | refine blk_drew ?_ | refine blk_alloc ?_ _)); exact BK275.out) hb)
                          have n7_ := Aside0.mk (blk_below (g := gb282) (o := .cells #[.slice Ao49 t276.length co49, .int .i64 t279, .int .i64 t280] 24 (0, 0)) (by (with_reducible repeat (first | refine blk_drewN ?_ _ | refine blk_drew ?_ | refine blk_alloc ?_ _)); exact BK282.out) hb)
                          have n8_ := Aside0.mk (below_step (by repeat (first | (with_reducible first | exact HB.out | apply below_alloc | apply pw_below_drewN | apply below_drew1 | refine below_set ?_ GE253.out | refine below_set ?_ GE254.out | refine below_set ?_ GE268.out | refine below_set ?_ GE275.out | refine below_set ?_ GE282.out) | exact HB.out)) hb)
                          clear HO_269000
                          clear HO_276000
                          clear HO_283000
                          clear BK253
                          clear BK254
                          clear BK268
                          clear BK275
                          clear BK282
                          clear HB
                          have HO_269000 := n0_
                          have HO_276000 := n1_
                          have HO_283000 := n2_
                          have BK253 := n3_
                          have BK254 := n4_
                          have BK268 := n5_
                          have BK275 := n6_
                          have BK282 := n7_
                          have HB := n8_
                          clear n0_ n1_ n2_ n3_ n4_ n5_ n6_ n7_ n8_
                          (try clear hb)
                          (try clear hb2)
                          (try clear hk)
                          (try clear hi)
                          refine hK.out _ _ ⟨(blk_cell BK268.out 0).trans rfl, (blk_cell BK268.out 1).trans rfl, (blk_cell BK268.out 2).trans rfl, (blk_cell BK275.out 0).trans rfl, (blk_cell BK275.out 1).trans rfl, (blk_cell BK275.out 2).trans rfl, (blk_cell BK253.out 0).trans rfl, (blk_cell BK253.out 1).trans rfl, (blk_cell BK253.out 2).trans rfl, (blk_cell BK254.out 0).trans rfl, (blk_cell BK254.out 1).trans rfl, (blk_cell BK254.out 2).trans rfl⟩ (fun hHeld => ?_)
                          clear hK K
                          refine norm_ (a' := ?_) ?_ ?_
                          rotate_left
                          · show Act.put _ (some 112) _ = _
                            simp only [Act.put, List.setIfInBounds_toArray, List.set_cons_zero, List.set_cons_succ, i64_w, i32_w]
                            rfl
                          refine pure_ (i := 3) (N := some 113) (v := ?_) (a' := ?_) #[true, true, true, true, false, false, false, false, false, false, false, false, false, false, false, false, false, false, false, false, false, false, false, false, false, false, false, false] rfl rfl (any_of HT_.out (by kernel_rfl)) (fun _ _ _ h => h) (Or.inl ⟨by rfl, ?_⟩) ?_ ?_
                          rotate_left
                          · intro w'
                            go_simp
                            with_reducible rfl
                          rotate_left
                          · simp only [Act.put, List.setIfInBounds_toArray, List.set_cons_zero, List.set_cons_succ, i64_w, i32_w]
                            rfl
                          refine pure_ (i := 4) (N := some 114) (v := ?_) (a' := ?_) #[true, true, true, true, true, false, false, false, false, false, false, false, false, false, false, false, false, false, false, false, false, false, false, false, false, false, false, false] rfl rfl (any_of HT_.out (by kernel_rfl)) (fun _ _ _ h => h) (Or.inl ⟨by rfl, ?_⟩) ?_ ?_
                          rotate_left
                          · intro w'
                            go_simp
                            with_reducible rfl
                          rotate_left
                          · simp only [Act.put, List.setIfInBounds_toArray, List.set_cons_zero, List.set_cons_succ, i64_w, i32_w]
                            rfl
                          refine pure_ (i := 5) (N := some 115) (v := ?_) (a' := ?_) #[true, true, true, true, true, true, false, false, false, false, false, false, false, false, false, false, false, false, false, false, false, false, false, false, false, false, false, false] rfl rfl (any_of HT_.out (by kernel_rfl)) (fun _ _ _ h => h) (Or.inl ⟨by rfl, ?_⟩) ?_ ?_
                          rotate_left
                          · intro w'
                            go_simp
                            with_reducible rfl
                          rotate_left
                          · simp only [Act.put, List.setIfInBounds_toArray, List.set_cons_zero, List.set_cons_succ, i64_w, i32_w]
                            rfl
                          refine pure_ (i := 6) (N := some 116) (v := ?_) (a' := ?_) #[true, true, true, true, true, true, true, false, false, false, false, false, false, false, false, false, false, false, false, false, false, false, false, false, false, false, false, false] rfl rfl (any_of HT_.out (by kernel_rfl)) (fun _ _ _ h => h) (Or.inl ⟨by rfl, ?_⟩) ?_ ?_
                          rotate_left
                          · intro w'
                            go_simp
                            with_reducible rfl
                          rotate_left
                          · simp only [Act.put, List.setIfInBounds_toArray, List.set_cons_zero, List.set_cons_succ, i64_w, i32_w]
                            rfl
                          refine pure_ (i := 7) (N := some 117) (v := ?_) (a' := ?_) #[true, true, true, true, true, true, true, true, false, false, false, false, false, false, false, false, false, false, false, false, false, false, false, false, false, false, false, false] rfl rfl (any_of HT_.out (by kernel_rfl)) (fun _ _ _ h => h) (Or.inl ⟨by rfl, ?_⟩) ?_ ?_
                          rotate_left
                          · intro w'
                            go_simp
                            with_reducible rfl
                          rotate_left
                          · simp only [Act.put, List.setIfInBounds_toArray, List.set_cons_zero, List.set_cons_succ, i64_w, i32_w]
                            rfl
                          refine pure_ (i := 8) (N := some 118) (v := ?_) (a' := ?_) #[true, true, true, true, true, true, true, true, true, false, false, false, false, false, false, false, false, false, false, false, false, false, false, false, false, false, false, false] rfl rfl (any_of HT_.out (by kernel_rfl)) (fun _ _ _ h => h) (Or.inl ⟨by rfl, ?_⟩) ?_ ?_
                          rotate_left
                          · intro w'
                            go_simp
                            with_reducible rfl
                          rotate_left
                          · simp only [Act.put, List.setIfInBounds_toArray, List.set_cons_zero, List.set_cons_succ, i64_w, i32_w]
                            rfl
                          refine pure_ (i := 13) (N := some 123) (v := ?_) (a' := ?_) #[true, true, true, true, true, true, true, true, true, false, false, false, false, true, false, false, false, false, false, false, false, false, false, false, false, false, false, false] rfl rfl (any_of HT_.out (by kernel_rfl)) (fun _ _ _ h => h) (Or.inl ⟨by rfl, ?_⟩) ?_ ?_
                          rotate_left
                          · intro w'
                            go_simp
                            with_reducible rfl
                          rotate_left
                          · simp only [Act.put, List.setIfInBounds_toArray, List.set_cons_zero, List.set_cons_succ, i64_w, i32_w]
                            rfl
                          refine take_ (i := 9) (N := some 119) (v := ?_) (a' := ?_) #[true, true, true, true, true, true, true, true, true, true, false, false, false, true, false, false, false, false, false, false, false, false, false, false, false, false, false, false] rfl rfl (take_ofW HT_.out HW_.out (by kernel_rfl)) (fun _ _ _ h => h) (Or.inl ⟨by rfl, ?_⟩) hHeld ?_ ?_
                          rotate_left
                          · rintro w' ⟨s0, s1, s2, s3, s4, s5, s6, s7, s8, s9, s10, s11⟩
                            go_simp
                            with_reducible rfl
                          rotate_left
                          · simp only [Act.put, List.setIfInBounds_toArray, List.set_cons_zero, List.set_cons_succ, i64_w, i32_w]
                            rfl
                          refine one_ (i := 10) (N := some 120) #[true, true, true, true, true, true, true, true, true, true, true, false, false, true, false, false, false, false, false, false, false, false, false, false, false, false, false, false] rfl rfl (one_of HT_.out (by kernel_rfl)) (by decide) (fun K hK => ?_)
                          refine goes_ Tryd.func10 (by kernel_rfl) rfl #[.agg #[.slice A0_0 l0_0.length c0_0, .int .i64 a0_1, .int .i64 a0_2]] (by rfl) rfl rfl (by (try simp only [List.map_toArray, List.map_cons, List.map_nil]); first | done | rfl | (simp only [List.length_drop, List.length_take]; rfl)) ?_
                          with_reducible refine (trefoillaw12_Own.calls _ _ l0_0 a0_1 a0_2 t299 t302 t303 _ ?side1 ?side2 A122.out).mono ?_
                          (case side1 => repeat (first | exact (Kd.C_below HR0_0.out HB.out) | (with_reducible refine Kd.C_alloc ?_ _) | (with_reducible refine Kd.C_drewN ?_ _) | (with_reducible refine Kd.C_drew ?_)))
                          (case side2 => exact HC0_0.out)
                          rintro e w131 ⟨v300, rfl, ho0, hb⟩
                          refine ⟨_, rfl, ?_⟩
                          have n0_ := Aside0.mk (Kd.R_elder' (by (with_reducible repeat (first | apply Kd.R_alloc | apply Kd.R_drewN | apply Kd.R_drew)); exact HO_269000.out) (Kd.R_base ho0) hb)
                          have n1_ := Aside0.mk (Kd.R_elder' (by (with_reducible repeat (first | apply Kd.R_alloc | apply Kd.R_drewN | apply Kd.R_drew)); exact HO_276000.out) (Kd.R_base ho0) hb)
                          have n2_ := Aside0.mk (Kd.R_elder' (by (with_reducible repeat (first | apply Kd.R_alloc | apply Kd.R_drewN | apply Kd.R_drew)); exact HO_283000.out) (Kd.R_base ho0) hb)
                          have n3_ := Aside0.mk (Kd.R_lower (Kd.R_new' (Kd.R_new' (Kd.R_new' ho0 (Kd.R_lt (by (with_reducible repeat (first | apply Kd.R_alloc | apply Kd.R_drewN | apply Kd.R_drew)); exact HO_269000.out))) (Kd.R_lt (by (with_reducible repeat (first | apply Kd.R_alloc | apply Kd.R_drewN | apply Kd.R_drew)); exact HO_276000.out))) (Kd.R_lt (by (with_reducible repeat (first | apply Kd.R_alloc | apply Kd.R_drewN | apply Kd.R_drew)); exact HO_283000.out))) (below_size (by repeat (first | (with_reducible first | exact HB.out | apply below_alloc | apply pw_below_drewN | apply below_drew1 | refine below_set ?_ GE253.out | refine below_set ?_ GE254.out | refine below_set ?_ GE268.out | refine below_set ?_ GE275.out | refine below_set ?_ GE282.out) | exact HB.out))))
                          have n4_ := Aside0.mk (blk_below (g := gb253) (o := .cells #[.slice A0_0 l0_0.length c0_0, .int .i64 a0_1, .int .i64 a0_2] 24 (0, 0)) (by (with_reducible repeat (first | refine blk_drewN ?_ _ | refine blk_drew ?_ | refine blk_alloc ?_ _)); exact BK253.out) hb)
                          have n5_ := Aside0.mk (blk_below (g := gb254) (o := .cells #[.slice A1_0 l1_0.length c1_0, .int .i64 a1_1, .int .i64 a1_2] 24 (0, 0)) (by (with_reducible repeat (first | refine blk_drewN ?_ _ | refine blk_drew ?_ | refine blk_alloc ?_ _)); exact BK254.out) hb)
                          have n6_ := Aside0.mk (blk_below (g := gb268) (o := .cells #[.slice Ao35 t262.length co35, .int .i64 t265, .int .i64 t266] 24 (0, 0)) (by (with_reducible repeat (first | refine blk_drewN ?_ _ | refine blk_drew ?_ | refine blk_alloc ?_ _)); exact BK268.out) hb)
                          have n7_ := Aside0.mk (blk_below (g := gb275) (o := .cells #[.slice Ao42 t269.length co42, .int .i64 t272, .int .i64 t273] 24 (0, 0)) (by (with_reducible repeat (first | refine blk_drewN ?_ _ | refine blk_drew ?_ | refine blk_alloc ?_ _)); exact BK275.out) hb)
                          have n8_ := Aside0.mk (blk_below (g := gb282) (o := .cells #[.slice Ao49 t276.length co49, .int .i64 t279, .int .i64 t280] 24 (0, 0)) (by (with_reducible repeat (first | refine blk_drewN ?_ _ | refine blk_drew ?_ | refine blk_alloc ?_ _)); exact BK282.out) hb)
                          have n9_ := Aside0.mk (below_step (by repeat (first | (with_reducible first | exact HB.out | apply below_alloc | apply pw_below_drewN | apply below_drew1 | refine below_set ?_ GE253.out | refine below_set ?_ GE254.out | refine below_set ?_ GE268.out | refine below_set ?_ GE275.out | refine below_set ?_ GE282.out) | exact HB.out)) hb)
                          clear HO_269000
                          clear HO_276000
                          clear HO_283000
                          clear BK253
                          clear BK254
                          clear BK268
                          clear BK275
                          clear BK282
                          clear HB
                          have HO_269000 := n0_
                          have HO_276000 := n1_
                          have HO_283000 := n2_
                          have HO301 := n3_
                          have BK253 := n4_
                          have BK254 := n5_
                          have BK268 := n6_
                          have BK275 := n7_
                          have BK282 := n8_
                          have HB := n9_
                          clear n0_ n1_ n2_ n3_ n4_ n5_ n6_ n7_ n8_ n9_
                          (try clear hb)
                          (try clear hb2)
                          (try clear hk)
                          (try clear hi)
                          (try clear ho0)
                          obtain ⟨Ao132, co132, eo132⟩ := Kd.R_slice HO301.out
                          (first | subst eo132 | (injection eo132 with f1_ f2_ f3_; have f4_ := f1_.symm; have f5_ := f3_.symm; clear f1_ f2_ f3_; subst f4_; subst f5_))
                          refine hK.out _ _ ⟨(blk_cell BK268.out 0).trans rfl, (blk_cell BK268.out 1).trans rfl, (blk_cell BK268.out 2).trans rfl, (blk_cell BK275.out 0).trans rfl, (blk_cell BK275.out 1).trans rfl, (blk_cell BK275.out 2).trans rfl, (blk_cell BK253.out 0).trans rfl, (blk_cell BK253.out 1).trans rfl, (blk_cell BK253.out 2).trans rfl, (blk_cell BK254.out 0).trans rfl, (blk_cell BK254.out 1).trans rfl, (blk_cell BK254.out 2).trans rfl⟩ (fun hHeld => ?_)
                          clear hK K
                          refine norm_ (a' := ?_) ?_ ?_
                          rotate_left
                          · show Act.put _ (some 120) _ = _
                            simp only [Act.put, List.setIfInBounds_toArray, List.set_cons_zero, List.set_cons_succ, i64_w, i32_w]
                            rfl
                          refine one_ (i := 11) (N := some 121) #[true, true, true, true, true, true, true, true, true, true, true, true, false, true, false, false, false, false, false, false, false, false, false, false, false, false, false, false] rfl rfl (one_of HT_.out (by kernel_rfl)) (by decide) (fun K hK => ?_)
                          refine goes_ Tryd.func23 (by kernel_rfl) rfl #[.agg #[.slice Ao132 t299.length co132, .int .i64 t302, .int .i64 t303]] (by rfl) rfl rfl (by (try simp only [List.map_toArray, List.map_cons, List.map_nil]); first | done | rfl | (simp only [List.length_drop, List.length_take]; rfl)) ?_
                          with_reducible refine (deque_Check.calls _ _ t299 t302 t303 t304 _ ?side1 ?side2 A123.out).mono ?_
                          (case side1 => repeat (first | exact (Kd.R_reads' HO301.out).2.2 | (with_reducible refine Kd.C_alloc ?_ _) | (with_reducible refine Kd.C_drewN ?_ _) | (with_reducible refine Kd.C_drew ?_)))
                          (case side2 => exact (Kd.R_reads' HO301.out).2.1)
                          rintro e w133 ⟨rfl, hb⟩
                          refine ⟨_, rfl, ?_⟩
                          have n0_ := Aside0.mk (Kd.R_below (by (with_reducible repeat (first | apply Kd.R_alloc | apply Kd.R_drewN | apply Kd.R_drew)); exact HO_269000.out) hb)
                          have n1_ := Aside0.mk (Kd.R_below (by (with_reducible repeat (first | apply Kd.R_alloc | apply Kd.R_drewN | apply Kd.R_drew)); exact HO_276000.out) hb)
                          have n2_ := Aside0.mk (Kd.R_below (by (with_reducible repeat (first | apply Kd.R_alloc | apply Kd.R_drewN | apply Kd.R_drew)); exact HO_283000.out) hb)
                          have n3_ := Aside0.mk (Kd.R_below (by (with_reducible repeat (first | apply Kd.R_alloc | apply Kd.R_drewN | apply Kd.R_drew)); exact HO301.out) hb)
                          have n4_ := Aside0.mk (blk_below (g := gb253) (o := .cells #[.slice A0_0 l0_0.length c0_0, .int .i64 a0_1, .int .i64 a0_2] 24 (0, 0)) (by (with_reducible repeat (first | refine blk_drewN ?_ _ | refine blk_drew ?_ | refine blk_alloc ?_ _)); exact BK253.out) hb)
                          have n5_ := Aside0.mk (blk_below (g := gb254) (o := .cells #[.slice A1_0 l1_0.length c1_0, .int .i64 a1_1, .int .i64 a1_2] 24 (0, 0)) (by (with_reducible repeat (first | refine blk_drewN ?_ _ | refine blk_drew ?_ | refine blk_alloc ?_ _)); exact BK254.out) hb)
                          have n6_ := Aside0.mk (blk_below (g := gb268) (o := .cells #[.slice Ao35 t262.length co35, .int .i64 t265, .int .i64 t266] 24 (0, 0)) (by (with_reducible repeat (first | refine blk_drewN ?_ _ | refine blk_drew ?_ | refine blk_alloc ?_ _)); exact BK268.out) hb)
                          have n7_ := Aside0.mk (blk_below (g := gb275) (o := .cells #[.slice Ao42 t269.length co42, .int .i64 t272, .int .i64 t273] 24 (0, 0)) (by (with_reducible repeat (first | refine blk_drewN ?_ _ | refine blk_drew ?_ | refine blk_alloc ?_ _)); exact BK275.out) hb)
                          have n8_ := Aside0.mk (blk_below (g := gb282) (o := .cells #[.slice Ao49 t276.length co49, .int .i64 t279, .int .i64 t280] 24 (0, 0)) (by (with_reducible repeat (first | refine blk_drewN ?_ _ | refine blk_drew ?_ | refine blk_alloc ?_ _)); exact BK282.out) hb)
                          have n9_ := Aside0.mk (below_step (by repeat (first | (with_reducible first | exact HB.out | apply below_alloc | apply pw_below_drewN | apply below_drew1 | refine below_set ?_ GE253.out | refine below_set ?_ GE254.out | refine below_set ?_ GE268.out | refine below_set ?_ GE275.out | refine below_set ?_ GE282.out) | exact HB.out)) hb)
                          clear HO_269000
                          clear HO_276000
                          clear HO_283000
                          clear HO301
                          clear BK253
                          clear BK254
                          clear BK268
                          clear BK275
                          clear BK282
                          clear HB
                          have HO_269000 := n0_
                          have HO_276000 := n1_
                          have HO_283000 := n2_
                          have HO301 := n3_
                          have BK253 := n4_
                          have BK254 := n5_
                          have BK268 := n6_
                          have BK275 := n7_
                          have BK282 := n8_
                          have HB := n9_
                          clear n0_ n1_ n2_ n3_ n4_ n5_ n6_ n7_ n8_ n9_
                          (try clear hb)
                          (try clear hb2)
                          (try clear hk)
                          (try clear hi)
                          refine hK.out _ _ ⟨(blk_cell BK268.out 0).trans rfl, (blk_cell BK268.out 1).trans rfl, (blk_cell BK268.out 2).trans rfl, (blk_cell BK275.out 0).trans rfl, (blk_cell BK275.out 1).trans rfl, (blk_cell BK275.out 2).trans rfl, (blk_cell BK253.out 0).trans rfl, (blk_cell BK253.out 1).trans rfl, (blk_cell BK253.out 2).trans rfl, (blk_cell BK254.out 0).trans rfl, (blk_cell BK254.out 1).trans rfl, (blk_cell BK254.out 2).trans rfl⟩ (fun hHeld => ?_)
                          clear hK K
                          refine norm_ (a' := ?_) ?_ ?_
                          rotate_left
                          · show Act.put _ (some 121) _ = _
                            simp only [Act.put, List.setIfInBounds_toArray, List.set_cons_zero, List.set_cons_succ, i64_w, i32_w]
                            rfl
                          refine pure_ (i := 12) (N := some 122) (v := ?_) (a' := ?_) #[true, true, true, true, true, true, true, true, true, true, true, true, true, true, false, false, false, false, false, false, false, false, false, false, false, false, false, false] rfl rfl (any_of HT_.out (by kernel_rfl)) (fun _ _ _ h => h) (Or.inl ⟨by rfl, ?_⟩) ?_ ?_
                          rotate_left
                          · intro w'
                            go_simp
                            with_reducible rfl
                          rotate_left
                          · simp only [Act.put, List.setIfInBounds_toArray, List.set_cons_zero, List.set_cons_succ, i64_w, i32_w]
                            rfl
                          refine pure_ (i := 14) (N := some 124) (v := ?_) (a' := ?_) #[true, true, true, true, true, true, true, true, true, true, true, true, true, true, true, false, false, false, false, false, false, false, false, false, false, false, false, false] rfl rfl (any_of HT_.out (by kernel_rfl)) (fun _ _ _ h => h) (Or.inl ⟨by rfl, ?_⟩) ?_ ?_
                          rotate_left
                          · intro w'
                            go_simp
                            with_reducible rfl
                          rotate_left
                          · simp only [Act.put, List.setIfInBounds_toArray, List.set_cons_zero, List.set_cons_succ, i64_w, i32_w]
                            rfl
                          refine pure_ (i := 15) (N := some 125) (v := ?_) (a' := ?_) #[true, true, true, true, true, true, true, true, true, true, true, true, true, true, true, true, false, false, false, false, false, false, false, false, false, false, false, false] rfl rfl (any_of HT_.out (by kernel_rfl)) (fun _ _ _ h => h) (Or.inl ⟨by rfl, ?_⟩) ?_ ?_
                          rotate_left
                          · intro w'
                            go_simp
                            with_reducible rfl
                          rotate_left
                          · simp only [Act.put, List.setIfInBounds_toArray, List.set_cons_zero, List.set_cons_succ, i64_w, i32_w]
                            rfl
                          refine pure_ (i := 16) (N := some 126) (v := ?_) (a' := ?_) #[true, true, true, true, true, true, true, true, true, true, true, true, true, true, true, true, true, false, false, false, false, false, false, false, false, false, false, false] rfl rfl (any_of HT_.out (by kernel_rfl)) (fun _ _ _ h => h) (Or.inl ⟨by rfl, ?_⟩) ?_ ?_
                          rotate_left
                          · intro w'
                            go_simp
                            with_reducible rfl
                          rotate_left
                          · simp only [Act.put, List.setIfInBounds_toArray, List.set_cons_zero, List.set_cons_succ, i64_w, i32_w]
                            rfl
                          refine take_ (i := 17) (N := some 127) (v := ?_) (a' := ?_) #[true, true, true, true, true, true, true, true, true, true, true, true, true, true, true, true, true, true, false, false, false, false, false, false, false, false, false, false] rfl rfl (take_ofW HT_.out HW_.out (by kernel_rfl)) (fun _ _ _ h => h) (Or.inl ⟨by rfl, ?_⟩) hHeld ?_ ?_
                          rotate_left
                          · rintro w' ⟨s0, s1, s2, s3, s4, s5, s6, s7, s8, s9, s10, s11⟩
                            go_simp
                            with_reducible rfl
                          rotate_left
                          · simp only [Act.put, List.setIfInBounds_toArray, List.set_cons_zero, List.set_cons_succ, i64_w, i32_w]
                            rfl
                          refine take_ (i := 19) (N := some 129) (v := ?_) (a' := ?_) #[true, true, true, true, true, true, true, true, true, true, true, true, true, true, true, true, true, true, false, true, false, false, false, false, false, false, false, false] rfl rfl (take_ofW HT_.out HW_.out (by kernel_rfl)) (fun _ _ _ h => h) (Or.inl ⟨by rfl, ?_⟩) hHeld ?_ ?_
                          rotate_left
                          · rintro w' ⟨s0, s1, s2, s3, s4, s5, s6, s7, s8, s9, s10, s11⟩
                            go_simp
                            with_reducible rfl
                          rotate_left
                          · simp only [Act.put, List.setIfInBounds_toArray, List.set_cons_zero, List.set_cons_succ, i64_w, i32_w]
                            rfl
                          refine take_ (i := 22) (N := some 132) (v := ?_) (a' := ?_) #[true, true, true, true, true, true, true, true, true, true, true, true, true, true, true, true, true, true, false, true, false, false, true, false, false, false, false, false] rfl rfl (take_ofW HT_.out HW_.out (by kernel_rfl)) (fun _ _ _ h => h) (Or.inl ⟨by rfl, ?_⟩) hHeld ?_ ?_
                          rotate_left
                          · rintro w' ⟨s0, s1, s2, s3, s4, s5, s6, s7, s8, s9, s10, s11⟩
                            go_simp
                            with_reducible rfl
                          rotate_left
                          · simp only [Act.put, List.setIfInBounds_toArray, List.set_cons_zero, List.set_cons_succ, i64_w, i32_w]
                            rfl
                          refine take_ (i := 23) (N := some 133) (v := ?_) (a' := ?_) #[true, true, true, true, true, true, true, true, true, true, true, true, true, true, true, true, true, true, false, true, false, false, true, true, false, false, false, false] rfl rfl (take_ofW HT_.out HW_.out (by kernel_rfl)) (fun _ _ _ h => h) (Or.inl ⟨by rfl, ?_⟩) hHeld ?_ ?_
                          rotate_left
                          · rintro w' ⟨s0, s1, s2, s3, s4, s5, s6, s7, s8, s9, s10, s11⟩
                            go_simp
                            with_reducible rfl
                          rotate_left
                          · simp only [Act.put, List.setIfInBounds_toArray, List.set_cons_zero, List.set_cons_succ, i64_w, i32_w]
                            rfl
                          refine one_ (i := 18) (N := some 128) #[true, true, true, true, true, true, true, true, true, true, true, true, true, true, true, true, true, true, true, true, false, false, true, true, false, false, false, false] rfl rfl (one_of HT_.out (by kernel_rfl)) (by decide) (fun K hK => ?_)
                          refine goes_ Tryd.func10 (by kernel_rfl) rfl #[.agg #[.slice A0_0 l0_0.length c0_0, .int .i64 a0_1, .int .i64 a0_2]] (by rfl) rfl rfl (by (try simp only [List.map_toArray, List.map_cons, List.map_nil]); first | done | rfl | (simp only [List.length_drop, List.length_take]; rfl)) ?_
                          with_reducible refine (trefoillaw12_Own.calls _ _ l0_0 a0_1 a0_2 t305 t308 t309 _ ?side1 ?side2 A125.out).mono ?_
                          (case side1 => repeat (first | exact (Kd.C_below HR0_0.out HB.out) | (with_reducible refine Kd.C_alloc ?_ _) | (with_reducible refine Kd.C_drewN ?_ _) | (with_reducible refine Kd.C_drew ?_)))
                          (case side2 => exact HC0_0.out)
                          rintro e w134 ⟨v306, rfl, ho0, hb⟩
                          refine ⟨_, rfl, ?_⟩
                          have n0_ := Aside0.mk (Kd.R_elder' (by (with_reducible repeat (first | apply Kd.R_alloc | apply Kd.R_drewN | apply Kd.R_drew)); exact HO_269000.out) (Kd.R_base ho0) hb)
                          have n1_ := Aside0.mk (Kd.R_elder' (by (with_reducible repeat (first | apply Kd.R_alloc | apply Kd.R_drewN | apply Kd.R_drew)); exact HO_276000.out) (Kd.R_base ho0) hb)
                          have n2_ := Aside0.mk (Kd.R_elder' (by (with_reducible repeat (first | apply Kd.R_alloc | apply Kd.R_drewN | apply Kd.R_drew)); exact HO_283000.out) (Kd.R_base ho0) hb)
                          have n3_ := Aside0.mk (Kd.R_elder' (by (with_reducible repeat (first | apply Kd.R_alloc | apply Kd.R_drewN | apply Kd.R_drew)); exact HO301.out) (Kd.R_base ho0) hb)
                          have n4_ := Aside0.mk (Kd.R_lower (Kd.R_new' (Kd.R_new' (Kd.R_new' (Kd.R_new' ho0 (Kd.R_lt (by (with_reducible repeat (first | apply Kd.R_alloc | apply Kd.R_drewN | apply Kd.R_drew)); exact HO_269000.out))) (Kd.R_lt (by (with_reducible repeat (first | apply Kd.R_alloc | apply Kd.R_drewN | apply Kd.R_drew)); exact HO_276000.out))) (Kd.R_lt (by (with_reducible repeat (first | apply Kd.R_alloc | apply Kd.R_drewN | apply Kd.R_drew)); exact HO_283000.out))) (Kd.R_lt (by (with_reducible repeat (first | apply Kd.R_alloc | apply Kd.R_drewN | apply Kd.R_drew)); exact HO301.out))) (below_size (by repeat (first | (with_reducible first | exact HB.out | apply below_alloc | apply pw_below_drewN | apply below_drew1 | refine below_set ?_ GE253.out | refine below_set ?_ GE254.out | refine below_set ?_ GE268.out | refine below_set ?_ GE275.out | refine below_set ?_ GE282.out) | exact HB.out))))
                          have n5_ := Aside0.mk (blk_below (g := gb253) (o := .cells #[.slice A0_0 l0_0.length c0_0, .int .i64 a0_1, .int .i64 a0_2] 24 (0, 0)) (by (with_reducible repeat (first | refine blk_drewN ?_ _ | refine blk_drew ?_ | refine blk_alloc ?_ _)); exact BK253.out) hb)
                          have n6_ := Aside0.mk (blk_below (g := gb254) (o := .cells #[.slice A1_0 l1_0.length c1_0, .int .i64 a1_1, .int .i64 a1_2] 24 (0, 0)) (by (with_reducible repeat (first | refine blk_drewN ?_ _ | refine blk_drew ?_ | refine blk_alloc ?_ _)); exact BK254.out) hb)
                          have n7_ := Aside0.mk (blk_below (g := gb268) (o := .cells #[.slice Ao35 t262.length co35, .int .i64 t265, .int .i64 t266] 24 (0, 0)) (by (with_reducible repeat (first | refine blk_drewN ?_ _ | refine blk_drew ?_ | refine blk_alloc ?_ _)); exact BK268.out) hb)
                          have n8_ := Aside0.mk (blk_below (g := gb275) (o := .cells #[.slice Ao42 t269.length co42, .int .i64 t272, .int .i64 t273] 24 (0, 0)) (by (with_reducible repeat (first | refine blk_drewN ?_ _ | refine blk_drew ?_ | refine blk_alloc ?_ _)); exact BK275.out) hb)
                          have n9_ := Aside0.mk (blk_below (g := gb282) (o := .cells #[.slice Ao49 t276.length co49, .int .i64 t279, .int .i64 t280] 24 (0, 0)) (by (with_reducible repeat (first | refine blk_drewN ?_ _ | refine blk_drew ?_ | refine blk_alloc ?_ _)); exact BK282.out) hb)
                          have n10_ := Aside0.mk (below_step (by repeat (first | (with_reducible first | exact HB.out | apply below_alloc | apply pw_below_drewN | apply below_drew1 | refine below_set ?_ GE253.out | refine below_set ?_ GE254.out | refine below_set ?_ GE268.out | refine below_set ?_ GE275.out | refine below_set ?_ GE282.out) | exact HB.out)) hb)
                          clear HO_269000
                          clear HO_276000
                          clear HO_283000
                          clear HO301
                          clear BK253
                          clear BK254
                          clear BK268
                          clear BK275
                          clear BK282
                          clear HB
                          have HO_269000 := n0_
                          have HO_276000 := n1_
                          have HO_283000 := n2_
                          have HO301 := n3_
                          have HO307 := n4_
                          have BK253 := n5_
                          have BK254 := n6_
                          have BK268 := n7_
                          have BK275 := n8_
                          have BK282 := n9_
                          have HB := n10_
                          clear n0_ n1_ n2_ n3_ n4_ n5_ n6_ n7_ n8_ n9_ n10_
                          (try clear hb)
                          (try clear hb2)
                          (try clear hk)
                          (try clear hi)
                          (try clear ho0)
                          refine hK.out _ _ ⟨(blk_cell BK268.out 0).trans rfl, (blk_cell BK268.out 1).trans rfl, (blk_cell BK268.out 2).trans rfl, (blk_cell BK275.out 0).trans rfl, (blk_cell BK275.out 1).trans rfl, (blk_cell BK275.out 2).trans rfl, (blk_cell BK253.out 0).trans rfl, (blk_cell BK253.out 1).trans rfl, (blk_cell BK253.out 2).trans rfl, (blk_cell BK254.out 0).trans rfl, (blk_cell BK254.out 1).trans rfl, (blk_cell BK254.out 2).trans rfl⟩ (fun hHeld => ?_)
                          clear hK K
                          refine norm_ (a' := ?_) ?_ ?_
                          rotate_left
                          · show Act.put _ (some 128) _ = _
                            simp only [Act.put, List.setIfInBounds_toArray, List.set_cons_zero, List.set_cons_succ, i64_w, i32_w]
                            rfl
                          refine one_ (i := 20) (N := some 130) #[true, true, true, true, true, true, true, true, true, true, true, true, true, true, true, true, true, true, true, true, true, false, true, true, false, false, false, false] rfl rfl (one_of HT_.out (by kernel_rfl)) (by decide) (fun K hK => ?_)
                          refine goes_ Tryd.func10 (by kernel_rfl) rfl #[.agg #[.slice A1_0 l1_0.length c1_0, .int .i64 a1_1, .int .i64 a1_2]] (by rfl) rfl rfl (by (try simp only [List.map_toArray, List.map_cons, List.map_nil]); first | done | rfl | (simp only [List.length_drop, List.length_take]; rfl)) ?_
                          with_reducible refine (trefoillaw12_Own.calls _ _ l1_0 a1_1 a1_2 t310 t313 t314 _ ?side1 ?side2 A126.out).mono ?_
                          (case side1 => repeat (first | exact (Kd.C_below HR1_0.out HB.out) | (with_reducible refine Kd.C_alloc ?_ _) | (with_reducible refine Kd.C_drewN ?_ _) | (with_reducible refine Kd.C_drew ?_)))
                          (case side2 => exact HC1_0.out)
                          rintro e w135 ⟨v311, rfl, ho0, hb⟩
                          refine ⟨_, rfl, ?_⟩
                          have n0_ := Aside0.mk (Kd.R_elder' (by (with_reducible repeat (first | apply Kd.R_alloc | apply Kd.R_drewN | apply Kd.R_drew)); exact HO_269000.out) (Kd.R_base ho0) hb)
                          have n1_ := Aside0.mk (Kd.R_elder' (by (with_reducible repeat (first | apply Kd.R_alloc | apply Kd.R_drewN | apply Kd.R_drew)); exact HO_276000.out) (Kd.R_base ho0) hb)
                          have n2_ := Aside0.mk (Kd.R_elder' (by (with_reducible repeat (first | apply Kd.R_alloc | apply Kd.R_drewN | apply Kd.R_drew)); exact HO_283000.out) (Kd.R_base ho0) hb)
                          have n3_ := Aside0.mk (Kd.R_elder' (by (with_reducible repeat (first | apply Kd.R_alloc | apply Kd.R_drewN | apply Kd.R_drew)); exact HO301.out) (Kd.R_base ho0) hb)
                          have n4_ := Aside0.mk (Kd.R_elder' (by (with_reducible repeat (first | apply Kd.R_alloc | apply Kd.R_drewN | apply Kd.R_drew)); exact HO307.out) (Kd.R_base ho0) hb)
                          have n5_ := Aside0.mk (Kd.R_lower (Kd.R_new' (Kd.R_new' (Kd.R_new' (Kd.R_new' (Kd.R_new' ho0 (Kd.R_lt (by (with_reducible repeat (first | apply Kd.R_alloc | apply Kd.R_drewN | apply Kd.R_drew)); exact HO_269000.out))) (Kd.R_lt (by (with_reducible repeat (first | apply Kd.R_alloc | apply Kd.R_drewN | apply Kd.R_drew)); exact HO_276000.out))) (Kd.R_lt (by (with_reducible repeat (first | apply Kd.R_alloc | apply Kd.R_drewN | apply Kd.R_drew)); exact HO_283000.out))) (Kd.R_lt (by (with_reducible repeat (first | apply Kd.R_alloc | apply Kd.R_drewN | apply Kd.R_drew)); exact HO301.out))) (Kd.R_lt (by (with_reducible repeat (first | apply Kd.R_alloc | apply Kd.R_drewN | apply Kd.R_drew)); exact HO307.out))) (below_size (by repeat (first | (with_reducible first | exact HB.out | apply below_alloc | apply pw_below_drewN | apply below_drew1 | refine below_set ?_ GE253.out | refine below_set ?_ GE254.out | refine below_set ?_ GE268.out | refine below_set ?_ GE275.out | refine below_set ?_ GE282.out) | exact HB.out))))
                          have n6_ := Aside0.mk (blk_below (g := gb253) (o := .cells #[.slice A0_0 l0_0.length c0_0, .int .i64 a0_1, .int .i64 a0_2] 24 (0, 0)) (by (with_reducible repeat (first | refine blk_drewN ?_ _ | refine blk_drew ?_ | refine blk_alloc ?_ _)); exact BK253.out) hb)
                          have n7_ := Aside0.mk (blk_below (g := gb254) (o := .cells #[.slice A1_0 l1_0.length c1_0, .int .i64 a1_1, .int .i64 a1_2] 24 (0, 0)) (by (with_reducible repeat (first | refine blk_drewN ?_ _ | refine blk_drew ?_ | refine blk_alloc ?_ _)); exact BK254.out) hb)
                          have n8_ := Aside0.mk (blk_below (g := gb268) (o := .cells #[.slice Ao35 t262.length co35, .int .i64 t265, .int .i64 t266] 24 (0, 0)) (by (with_reducible repeat (first | refine blk_drewN ?_ _ | refine blk_drew ?_ | refine blk_alloc ?_ _)); exact BK268.out) hb)
                          have n9_ := Aside0.mk (blk_below (g := gb275) (o := .cells #[.slice Ao42 t269.length co42, .int .i64 t272, .int .i64 t273] 24 (0, 0)) (by (with_reducible repeat (first | refine blk_drewN ?_ _ | refine blk_drew ?_ | refine blk_alloc ?_ _)); exact BK275.out) hb)
                          have n10_ := Aside0.mk (blk_below (g := gb282) (o := .cells #[.slice Ao49 t276.length co49, .int .i64 t279, .int .i64 t280] 24 (0, 0)) (by (with_reducible repeat (first | refine blk_drewN ?_ _ | refine blk_drew ?_ | refine blk_alloc ?_ _)); exact BK282.out) hb)
                          have n11_ := Aside0.mk (below_step (by repeat (first | (with_reducible first | exact HB.out | apply below_alloc | apply pw_below_drewN | apply below_drew1 | refine below_set ?_ GE253.out | refine below_set ?_ GE254.out | refine below_set ?_ GE268.out | refine below_set ?_ GE275.out | refine below_set ?_ GE282.out) | exact HB.out)) hb)
                          clear HO_269000
                          clear HO_276000
                          clear HO_283000
                          clear HO301
                          clear HO307
                          clear BK253
                          clear BK254
                          clear BK268
                          clear BK275
                          clear BK282
                          clear HB
                          have HO_269000 := n0_
                          have HO_276000 := n1_
                          have HO_283000 := n2_
                          have HO301 := n3_
                          have HO307 := n4_
                          have HO312 := n5_
                          have BK253 := n6_
                          have BK254 := n7_
                          have BK268 := n8_
                          have BK275 := n9_
                          have BK282 := n10_
                          have HB := n11_
                          clear n0_ n1_ n2_ n3_ n4_ n5_ n6_ n7_ n8_ n9_ n10_ n11_
                          (try clear hb)
                          (try clear hb2)
                          (try clear hk)
                          (try clear hi)
                          (try clear ho0)
                          obtain ⟨Ao136, co136, eo136⟩ := Kd.R_slice HO307.out
                          (first | subst eo136 | (injection eo136 with f1_ f2_ f3_; have f4_ := f1_.symm; have f5_ := f3_.symm; clear f1_ f2_ f3_; subst f4_; subst f5_))
                          obtain ⟨Ao137, co137, eo137⟩ := Kd.R_slice HO312.out
                          (first | subst eo137 | (injection eo137 with f1_ f2_ f3_; have f4_ := f1_.symm; have f5_ := f3_.symm; clear f1_ f2_ f3_; subst f4_; subst f5_))
                          refine hK.out _ _ ⟨(blk_cell BK268.out 0).trans rfl, (blk_cell BK268.out 1).trans rfl, (blk_cell BK268.out 2).trans rfl, (blk_cell BK275.out 0).trans rfl, (blk_cell BK275.out 1).trans rfl, (blk_cell BK275.out 2).trans rfl, (blk_cell BK253.out 0).trans rfl, (blk_cell BK253.out 1).trans rfl, (blk_cell BK253.out 2).trans rfl, (blk_cell BK254.out 0).trans rfl, (blk_cell BK254.out 1).trans rfl, (blk_cell BK254.out 2).trans rfl⟩ (fun hHeld => ?_)
                          clear hK K
                          refine norm_ (a' := ?_) ?_ ?_
                          rotate_left
                          · show Act.put _ (some 130) _ = _
                            simp only [Act.put, List.setIfInBounds_toArray, List.set_cons_zero, List.set_cons_succ, i64_w, i32_w]
                            rfl
                          refine one_ (i := 21) (N := some 131) #[true, true, true, true, true, true, true, true, true, true, true, true, true, true, true, true, true, true, true, true, true, true, true, true, false, false, false, false] rfl rfl (one_of HT_.out (by kernel_rfl)) (by decide) (fun K hK => ?_)
                          refine goes_ Tryd.func24 (by kernel_rfl) rfl #[.agg #[.slice Ao136 t305.length co136, .int .i64 t308, .int .i64 t309], .agg #[.slice Ao137 t310.length co137, .int .i64 t313, .int .i64 t314]] (by rfl) rfl rfl (by (try simp only [List.map_toArray, List.map_cons, List.map_nil]); first | done | rfl | (simp only [List.length_drop, List.length_take]; rfl)) ?_
                          with_reducible refine (deque_Same.calls kj86 _ _ t305 t308 t309 _ _ t310 t313 t314 t315 _ ?side1 ?side2 ?side3 ?side4 A127.out).mono ?_
                          (case side1 => repeat (first | exact (Kd.R_reads' HO307.out).2.2 | (with_reducible refine Kd.C_alloc ?_ _) | (with_reducible refine Kd.C_drewN ?_ _) | (with_reducible refine Kd.C_drew ?_)))
                          (case side2 => exact (Kd.R_reads' HO307.out).2.1)
                          (case side3 => repeat (first | exact (Kd.R_reads' HO312.out).2.2 | (with_reducible refine Kd.C_alloc ?_ _) | (with_reducible refine Kd.C_drewN ?_ _) | (with_reducible refine Kd.C_drew ?_)))
                          (case side4 => exact (Kd.R_reads' HO312.out).2.1)
                          rintro e w138 ⟨rfl, hb⟩
                          refine ⟨_, rfl, ?_⟩
                          have n0_ := Aside0.mk (Kd.R_below (by (with_reducible repeat (first | apply Kd.R_alloc | apply Kd.R_drewN | apply Kd.R_drew)); exact HO_269000.out) hb)
                          have n1_ := Aside0.mk (Kd.R_below (by (with_reducible repeat (first | apply Kd.R_alloc | apply Kd.R_drewN | apply Kd.R_drew)); exact HO_276000.out) hb)
                          have n2_ := Aside0.mk (Kd.R_below (by (with_reducible repeat (first | apply Kd.R_alloc | apply Kd.R_drewN | apply Kd.R_drew)); exact HO_283000.out) hb)
                          have n3_ := Aside0.mk (Kd.R_below (by (with_reducible repeat (first | apply Kd.R_alloc | apply Kd.R_drewN | apply Kd.R_drew)); exact HO301.out) hb)
                          have n4_ := Aside0.mk (Kd.R_below (by (with_reducible repeat (first | apply Kd.R_alloc | apply Kd.R_drewN | apply Kd.R_drew)); exact HO307.out) hb)
                          have n5_ := Aside0.mk (Kd.R_below (by (with_reducible repeat (first | apply Kd.R_alloc | apply Kd.R_drewN | apply Kd.R_drew)); exact HO312.out) hb)
                          have n6_ := Aside0.mk (blk_below (g := gb253) (o := .cells #[.slice A0_0 l0_0.length c0_0, .int .i64 a0_1, .int .i64 a0_2] 24 (0, 0)) (by (with_reducible repeat (first | refine blk_drewN ?_ _ | refine blk_drew ?_ | refine blk_alloc ?_ _)); exact BK253.out) hb)
                          have n7_ := Aside0.mk (blk_below (g := gb254) (o := .cells #[.slice A1_0 l1_0.length c1_0, .int .i64 a1_1, .int .i64 a1_2] 24 (0, 0)) (by (with_reducible repeat (first | refine blk_drewN ?_ _ | refine blk_drew ?_ | refine blk_alloc ?_ _)); exact BK254.out) hb)
                          have n8_ := Aside0.mk (blk_below (g := gb268) (o := .cells #[.slice Ao35 t262.length co35, .int .i64 t265, .int .i64 t266] 24 (0, 0)) (by (with_reducible repeat (first | refine blk_drewN ?_ _ | refine blk_drew ?_ | refine blk_alloc ?_ _)); exact BK268.out) hb)
                          have n9_ := Aside0.mk (blk_below (g := gb275) (o := .cells #[.slice Ao42 t269.length co42, .int .i64 t272, .int .i64 t273] 24 (0, 0)) (by (with_reducible repeat (first | refine blk_drewN ?_ _ | refine blk_drew ?_ | refine blk_alloc ?_ _)); exact BK275.out) hb)
                          have n10_ := Aside0.mk (blk_below (g := gb282) (o := .cells #[.slice Ao49 t276.length co49, .int .i64 t279, .int .i64 t280] 24 (0, 0)) (by (with_reducible repeat (first | refine blk_drewN ?_ _ | refine blk_drew ?_ | refine blk_alloc ?_ _)); exact BK282.out) hb)
                          have n11_ := Aside0.mk (below_step (by repeat (first | (with_reducible first | exact HB.out | apply below_alloc | apply pw_below_drewN | apply below_drew1 | refine below_set ?_ GE253.out | refine below_set ?_ GE254.out | refine below_set ?_ GE268.out | refine below_set ?_ GE275.out | refine below_set ?_ GE282.out) | exact HB.out)) hb)
                          clear HO_269000
                          clear HO_276000
                          clear HO_283000
                          clear HO301
                          clear HO307
                          clear HO312
                          clear BK253
                          clear BK254
                          clear BK268
                          clear BK275
                          clear BK282
                          clear HB
                          have HO_269000 := n0_
                          have HO_276000 := n1_
                          have HO_283000 := n2_
                          have HO301 := n3_
                          have HO307 := n4_
                          have HO312 := n5_
                          have BK253 := n6_
                          have BK254 := n7_
                          have BK268 := n8_
                          have BK275 := n9_
                          have BK282 := n10_
                          have HB := n11_
                          clear n0_ n1_ n2_ n3_ n4_ n5_ n6_ n7_ n8_ n9_ n10_ n11_
                          (try clear hb)
                          (try clear hb2)
                          (try clear hk)
                          (try clear hi)
                          refine hK.out _ _ ⟨(blk_cell BK268.out 0).trans rfl, (blk_cell BK268.out 1).trans rfl, (blk_cell BK268.out 2).trans rfl, (blk_cell BK275.out 0).trans rfl, (blk_cell BK275.out 1).trans rfl, (blk_cell BK275.out 2).trans rfl, (blk_cell BK253.out 0).trans rfl, (blk_cell BK253.out 1).trans rfl, (blk_cell BK253.out 2).trans rfl, (blk_cell BK254.out 0).trans rfl, (blk_cell BK254.out 1).trans rfl, (blk_cell BK254.out 2).trans rfl⟩ (fun hHeld => ?_)
                          clear hK K
                          refine norm_ (a' := ?_) ?_ ?_
                          rotate_left
                          · show Act.put _ (some 131) _ = _
                            simp only [Act.put, List.setIfInBounds_toArray, List.set_cons_zero, List.set_cons_succ, i64_w, i32_w]
                            rfl
                          refine one_ (i := 24) (N := some 134) #[true, true, true, true, true, true, true, true, true, true, true, true, true, true, true, true, true, true, true, true, true, true, true, true, true, false, false, false] rfl rfl (one_of HT_.out (by kernel_rfl)) (by decide) (fun K hK => ?_)
                          refine goes_ Tryd.func14 (by kernel_rfl) rfl #[.agg #[.slice A0_0 l0_0.length c0_0, .int .i64 a0_1, .int .i64 a0_2], .agg #[.slice A1_0 l1_0.length c1_0, .int .i64 a1_1, .int .i64 a1_2]] (by rfl) rfl rfl (by (try simp only [List.map_toArray, List.map_cons, List.map_nil]); first | done | rfl | (simp only [List.length_drop, List.length_take]; rfl)) ?_
                          with_reducible refine (trefoilref12_Same.calls kj86 _ _ l0_0 a0_1 a0_2 _ _ l1_0 a1_1 a1_2 t316 _ ?side1 ?side2 ?side3 ?side4 A128.out).mono ?_
                          (case side1 => repeat (first | exact (Kd.C_below HR0_0.out HB.out) | (with_reducible refine Kd.C_alloc ?_ _) | (with_reducible refine Kd.C_drewN ?_ _) | (with_reducible refine Kd.C_drew ?_)))
                          (case side2 => exact HC0_0.out)
                          (case side3 => repeat (first | exact (Kd.C_below HR1_0.out HB.out) | (with_reducible refine Kd.C_alloc ?_ _) | (with_reducible refine Kd.C_drewN ?_ _) | (with_reducible refine Kd.C_drew ?_)))
                          (case side4 => exact HC1_0.out)
                          rintro e w139 ⟨rfl, hb⟩
                          refine ⟨_, rfl, ?_⟩
                          have n0_ := Aside0.mk (Kd.R_below (by (with_reducible repeat (first | apply Kd.R_alloc | apply Kd.R_drewN | apply Kd.R_drew)); exact HO_269000.out) hb)
                          have n1_ := Aside0.mk (Kd.R_below (by (with_reducible repeat (first | apply Kd.R_alloc | apply Kd.R_drewN | apply Kd.R_drew)); exact HO_276000.out) hb)
                          have n2_ := Aside0.mk (Kd.R_below (by (with_reducible repeat (first | apply Kd.R_alloc | apply Kd.R_drewN | apply Kd.R_drew)); exact HO_283000.out) hb)
                          have n3_ := Aside0.mk (Kd.R_below (by (with_reducible repeat (first | apply Kd.R_alloc | apply Kd.R_drewN | apply Kd.R_drew)); exact HO301.out) hb)
                          have n4_ := Aside0.mk (Kd.R_below (by (with_reducible repeat (first | apply Kd.R_alloc | apply Kd.R_drewN | apply Kd.R_drew)); exact HO307.out) hb)
                          have n5_ := Aside0.mk (Kd.R_below (by (with_reducible repeat (first | apply Kd.R_alloc | apply Kd.R_drewN | apply Kd.R_drew)); exact HO312.out) hb)
                          have n6_ := Aside0.mk (blk_below (g := gb253) (o := .cells #[.slice A0_0 l0_0.length c0_0, .int .i64 a0_1, .int .i64 a0_2] 24 (0, 0)) (by (with_reducible repeat (first | refine blk_drewN ?_ _ | refine blk_drew ?_ | refine blk_alloc ?_ _)); exact BK253.out) hb)
                          have n7_ := Aside0.mk (blk_below (g := gb254) (o := .cells #[.slice A1_0 l1_0.length c1_0, .int .i64 a1_1, .int .i64 a1_2] 24 (0, 0)) (by (with_reducible repeat (first | refine blk_drewN ?_ _ | refine blk_drew ?_ | refine blk_alloc ?_ _)); exact BK254.out) hb)
                          have n8_ := Aside0.mk (blk_below (g := gb268) (o := .cells #[.slice Ao35 t262.length co35, .int .i64 t265, .int .i64 t266] 24 (0, 0)) (by (with_reducible repeat (first | refine blk_drewN ?_ _ | refine blk_drew ?_ | refine blk_alloc ?_ _)); exact BK268.out) hb)
                          have n9_ := Aside0.mk (blk_below (g := gb275) (o := .cells #[.slice Ao42 t269.length co42, .int .i64 t272, .int .i64 t273] 24 (0, 0)) (by (with_reducible repeat (first | refine blk_drewN ?_ _ | refine blk_drew ?_ | refine blk_alloc ?_ _)); exact BK275.out) hb)
                          have n10_ := Aside0.mk (blk_below (g := gb282) (o := .cells #[.slice Ao49 t276.length co49, .int .i64 t279, .int .i64 t280] 24 (0, 0)) (by (with_reducible repeat (first | refine blk_drewN ?_ _ | refine blk_drew ?_ | refine blk_alloc ?_ _)); exact BK282.out) hb)
                          have n11_ := Aside0.mk (below_step (by repeat (first | (with_reducible first | exact HB.out | apply below_alloc | apply pw_below_drewN | apply below_drew1 | refine below_set ?_ GE253.out | refine below_set ?_ GE254.out | refine below_set ?_ GE268.out | refine below_set ?_ GE275.out | refine below_set ?_ GE282.out) | exact HB.out)) hb)
                          clear HO_269000
                          clear HO_276000
                          clear HO_283000
                          clear HO301
                          clear HO307
                          clear HO312
                          clear BK253
                          clear BK254
                          clear BK268
                          clear BK275
                          clear BK282
                          clear HB
                          have HO_269000 := n0_
                          have HO_276000 := n1_
                          have HO_283000 := n2_
                          have HO301 := n3_
                          have HO307 := n4_
                          have HO312 := n5_
                          have BK253 := n6_
                          have BK254 := n7_
                          have BK268 := n8_
                          have BK275 := n9_
                          have BK282 := n10_
                          have HB := n11_
                          clear n0_ n1_ n2_ n3_ n4_ n5_ n6_ n7_ n8_ n9_ n10_ n11_
                          (try clear hb)
                          (try clear hb2)
                          (try clear hk)
                          (try clear hi)
                          refine hK.out _ _ ⟨(blk_cell BK268.out 0).trans rfl, (blk_cell BK268.out 1).trans rfl, (blk_cell BK268.out 2).trans rfl, (blk_cell BK275.out 0).trans rfl, (blk_cell BK275.out 1).trans rfl, (blk_cell BK275.out 2).trans rfl, (blk_cell BK253.out 0).trans rfl, (blk_cell BK253.out 1).trans rfl, (blk_cell BK253.out 2).trans rfl, (blk_cell BK254.out 0).trans rfl, (blk_cell BK254.out 1).trans rfl, (blk_cell BK254.out 2).trans rfl⟩ (fun hHeld => ?_)
                          clear hK K
                          refine norm_ (a' := ?_) ?_ ?_
                          rotate_left
                          · show Act.put _ (some 134) _ = _
                            simp only [Act.put, List.setIfInBounds_toArray, List.set_cons_zero, List.set_cons_succ, i64_w, i32_w]
                            rfl
                          refine pure_ (i := 25) (N := some 135) (v := ?_) (a' := ?_) #[true, true, true, true, true, true, true, true, true, true, true, true, true, true, true, true, true, true, true, true, true, true, true, true, true, true, false, false] rfl rfl (any_of HT_.out (by kernel_rfl)) (fun _ _ _ h => h) (Or.inl ⟨by rfl, ?_⟩) ?_ ?_
                          rotate_left
                          · intro w'
                            go_simp
                            with_reducible rfl
                          rotate_left
                          · simp only [Act.put, List.setIfInBounds_toArray, List.set_cons_zero, List.set_cons_succ, i64_w, i32_w]
                            rfl
                          refine pure_ (i := 26) (N := some 136) (v := ?_) (a' := ?_) #[true, true, true, true, true, true, true, true, true, true, true, true, true, true, true, true, true, true, true, true, true, true, true, true, true, true, true, false] rfl rfl (any_of HT_.out (by kernel_rfl)) (fun _ _ _ h => h) (Or.inl ⟨by rfl, ?_⟩) ?_ ?_
                          rotate_left
                          · intro w'
                            go_simp
                            with_reducible rfl
                          rotate_left
                          · simp only [Act.put, List.setIfInBounds_toArray, List.set_cons_zero, List.set_cons_succ, i64_w, i32_w]
                            rfl
                          refine pure_ (i := 27) (N := some 6) (v := ?_) (a' := ?_) #[true, true, true, true, true, true, true, true, true, true, true, true, true, true, true, true, true, true, true, true, true, true, true, true, true, true, true, true] rfl rfl (any_of HT_.out (by kernel_rfl)) (fun _ _ _ h => h) (Or.inl ⟨by rfl, ?_⟩) ?_ ?_
                          rotate_left
                          · intro w'
                            go_simp
                            with_reducible rfl
                          rotate_left
                          · simp only [Act.put, List.setIfInBounds_toArray, List.set_cons_zero, List.set_cons_succ, i64_w, i32_w]
                            rfl
                          refine done_ (done_of HT_.out (by kernel_rfl)) ?_
                          try go_wp2
                          go_ret
                          exact ⟨by first | rfl | (simp [errW_none, errW_some] <;> rfl) | (simp [*, errW_none, errW_some] <;> rfl), by repeat (first | (with_reducible first | exact HB.out | apply below_alloc | apply pw_below_drewN | apply below_drew1 | refine below_set ?_ GE253.out | refine below_set ?_ GE254.out | refine below_set ?_ GE268.out | refine below_set ?_ GE275.out | refine below_set ?_ GE282.out) | exact HB.out)⟩
                        · rw [if_neg c124] at H
                          exact absurd H (by simp)
                      · rw [if_neg c121] at H
                        exact absurd H (by simp)
                    · replace c120 := Bool.eq_false_iff.mpr c120
                      subst c120
                      have H1 : (none) = some r := by rw [if_neg (show ¬ (false = true) by decide)] at H; exact H
                      clear H
                      have H := H1
                      clear H1
                      exact absurd H (by simp)

end Go.Proofs.YtdmgigicbppjkaaDoor.Q
