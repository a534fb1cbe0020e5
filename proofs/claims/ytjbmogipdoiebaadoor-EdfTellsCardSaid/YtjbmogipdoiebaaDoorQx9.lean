-- PRINTED by print.py (a twelfth state) out of the translation. Not trusted: Lean checks it.
import Derived.Test.YtjbmogipdoiebaaDoorQx0
import Derived.Test.YtjbmogipdoiebaaDoorQx4
import Derived.Test.YtjbmogipdoiebaaDoorQx6
import Derived.Test.YtjbmogipdoiebaaDoorQx7
import Derived.Test.YtjbmogipdoiebaaDoorQx8
namespace Go.Proofs.YtjbmogipdoiebaaDoor.Q
open Go.RowKit Go.Proofs.YtjbmogipdoiebaaDoorW.PrintWords Go.Proofs.YtjbmogipdoiebaaDoorW.PrintLast Go.Proofs.YtjbmogipdoiebaaDoorW.PrintMore
attribute [local go_sem] max2_int min2_int max_two min_two max_three min_three max_four min_four   -- for this text's walks alone
set_option linter.unusedVariables false
set_option linter.unusedSimpArgs false

/-! ### trefoillaw15_EdfTells: function 3 -/
mutual
def trefoillaw15_EdfTells.j0 : Nat → List (S34) → Int → Bool → Option (Bool)
  | 0, _, _, _ => none
  | k + 1, x0, x1, x16 => if x16 = true then ((trefoillaw15_awake.f k).bind fun t168 => (some t168)) else ((trefoillaw15_Own.f x0).bind fun t169 => ((edf_Demand.f t169 x1).bind fun bt172 => ((trefoillaw15_Own.f x0).bind fun t174 => ((edf_Block.f t174 x1).bind fun bt177 => ((trefoilref15_Check.f k x0).bind fun t179 => (if t179 = true then (if x1 < 0 then (trefoillaw15_EdfTells.j1 k x0 x1 bt172.1 bt172.2 bt177.1 bt177.2 151) else (if x1 > 1099511627775 then (trefoillaw15_EdfTells.j1 k x0 x1 bt172.1 bt172.2 bt177.1 bt177.2 151) else (trefoillaw15_EdfTells.j1 k x0 x1 bt172.1 bt172.2 bt177.1 bt177.2 0))) else (trefoillaw15_EdfTells.j1 k x0 x1 bt172.1 bt172.2 bt177.1 bt177.2 150)))))))
def trefoillaw15_EdfTells.j1 : Nat → List (S34) → Int → Int → Int → Int → Int → Int → Option (Bool)
  | 0, _, _, _, _, _, _, _ => none
  | k + 1, x0, x1, x5, x6, x7, x8, x9 => if x6 = x9 then (if x8 = x9 then ((trefoillaw15_Own.f x0).bind fun t180 => ((edf_Check.f t180).bind fun t183 => ((trefoilref15_Check.f k x0).bind fun t184 => (if ((t183 == 0) != t184) = true then (trefoillaw15_EdfTells.j2 k x0 x1 x5 x7 x9 true) else ((trefoillaw15_Own.f x0).bind fun t185 => ((edf_Horizon.f t185).bind fun t188 => ((trefoilref15_Horizon.f k x0).bind fun t189 => (trefoillaw15_EdfTells.j2 k x0 x1 x5 x7 x9 (t188 != t189))))))))) else (trefoillaw15_EdfTells.j2 k x0 x1 x5 x7 x9 true)) else (trefoillaw15_EdfTells.j2 k x0 x1 x5 x7 x9 true)
def trefoillaw15_EdfTells.j2 : Nat → List (S34) → Int → Int → Int → Int → Bool → Option (Bool)
  | 0, _, _, _, _, _, _ => none
  | k + 1, x0, x1, x5, x7, x9, x65 => if x65 = true then (some false) else (if x9 = 0 then ((trefoilref15_Demand.f k x0 x1).bind fun t190 => (if x5 = t190 then ((trefoilref15_Block.f k x0 x1).bind fun t191 => (some (x7 == t191))) else (some false))) else (if x5 = 0 then (if x7 = 0 then (some true) else (some false)) else (some false)))
end
def trefoillaw15_EdfTells.f (k : Nat) (l0 : List (S34)) (a1 : Int) : Option (Bool) := (trefoillaw15_awake.f k).bind fun t167 => (if t167 = true then (trefoillaw15_EdfTells.j0 k l0 a1 (decide ((l0.length : Int) > 20))) else (trefoillaw15_EdfTells.j0 k l0 a1 true))
theorem trefoillaw15_EdfTells.mono_l : ∀ k, (∀ y0 y1 y2, LeO (trefoillaw15_EdfTells.j0 k y0 y1 y2) (trefoillaw15_EdfTells.j0 (k + 1) y0 y1 y2)) ∧ (∀ y0 y1 y2 y3 y4 y5 y6, LeO (trefoillaw15_EdfTells.j1 k y0 y1 y2 y3 y4 y5 y6) (trefoillaw15_EdfTells.j1 (k + 1) y0 y1 y2 y3 y4 y5 y6)) ∧ (∀ y0 y1 y2 y3 y4 y5, LeO (trefoillaw15_EdfTells.j2 k y0 y1 y2 y3 y4 y5) (trefoillaw15_EdfTells.j2 (k + 1) y0 y1 y2 y3 y4 y5))
  | 0 => ⟨fun _ _ _ r h => by simp [trefoillaw15_EdfTells.j0] at h, fun _ _ _ _ _ _ _ r h => by simp [trefoillaw15_EdfTells.j1] at h, fun _ _ _ _ _ _ r h => by simp [trefoillaw15_EdfTells.j2] at h⟩
  | k + 1 => by
    obtain ⟨ih0, ih1, ih2⟩ := trefoillaw15_EdfTells.mono_l k
    refine ⟨?_, ?_, ?_⟩
    · intro y0 y1 y2
      unfold trefoillaw15_EdfTells.j0
      repeat' first
      | (with_reducible exact ih0 _ _ _)
      | (with_reducible exact ih1 _ _ _ _ _ _ _)
      | (with_reducible exact ih2 _ _ _ _ _ _)
      | (with_reducible exact trefoillaw15_awake.mono _)
      | (with_reducible exact trefoilref15_Block.mono _ _ _)
      | (with_reducible exact trefoilref15_Check.mono _ _)
      | (with_reducible exact trefoilref15_Demand.mono _ _ _)
      | (with_reducible exact trefoilref15_Horizon.mono _ _)
      | (with_reducible exact LeO.refl _)
      | (with_reducible exact LeO.none _)
      | (with_reducible refine LeO.ite ?_ ?_)
      | (with_reducible refine LeO.bind ?_ (fun _ => ?_))
      | exact ih0 _ _ _
      | exact ih1 _ _ _ _ _ _ _
      | exact ih2 _ _ _ _ _ _
      | exact trefoillaw15_awake.mono _
      | exact trefoilref15_Block.mono _ _ _
      | exact trefoilref15_Check.mono _ _
      | exact trefoilref15_Demand.mono _ _ _
      | exact trefoilref15_Horizon.mono _ _
      | exact LeO.none _
      | refine LeO.ite ?_ ?_
      | refine LeO.bind ?_ (fun _ => ?_)
    · intro y0 y1 y2 y3 y4 y5 y6
      unfold trefoillaw15_EdfTells.j1
      repeat' first
      | (with_reducible exact ih0 _ _ _)
      | (with_reducible exact ih1 _ _ _ _ _ _ _)
      | (with_reducible exact ih2 _ _ _ _ _ _)
      | (with_reducible exact trefoillaw15_awake.mono _)
      | (with_reducible exact trefoilref15_Block.mono _ _ _)
      | (with_reducible exact trefoilref15_Check.mono _ _)
      | (with_reducible exact trefoilref15_Demand.mono _ _ _)
      | (with_reducible exact trefoilref15_Horizon.mono _ _)
      | (with_reducible exact LeO.refl _)
      | (with_reducible exact LeO.none _)
      | (with_reducible refine LeO.ite ?_ ?_)
      | (with_reducible refine LeO.bind ?_ (fun _ => ?_))
      | exact ih0 _ _ _
      | exact ih1 _ _ _ _ _ _ _
      | exact ih2 _ _ _ _ _ _
      | exact trefoillaw15_awake.mono _
      | exact trefoilref15_Block.mono _ _ _
      | exact trefoilref15_Check.mono _ _
      | exact trefoilref15_Demand.mono _ _ _
      | exact trefoilref15_Horizon.mono _ _
      | exact LeO.none _
      | refine LeO.ite ?_ ?_
      | refine LeO.bind ?_ (fun _ => ?_)
    · intro y0 y1 y2 y3 y4 y5
      unfold trefoillaw15_EdfTells.j2
      repeat' first
      | (with_reducible exact ih0 _ _ _)
      | (with_reducible exact ih1 _ _ _ _ _ _ _)
      | (with_reducible exact ih2 _ _ _ _ _ _)
      | (with_reducible exact trefoillaw15_awake.mono _)
      | (with_reducible exact trefoilref15_Block.mono _ _ _)
      | (with_reducible exact trefoilref15_Check.mono _ _)
      | (with_reducible exact trefoilref15_Demand.mono _ _ _)
      | (with_reducible exact trefoilref15_Horizon.mono _ _)
      | (with_reducible exact LeO.refl _)
      | (with_reducible exact LeO.none _)
      | (with_reducible refine LeO.ite ?_ ?_)
      | (with_reducible refine LeO.bind ?_ (fun _ => ?_))
      | exact ih0 _ _ _
      | exact ih1 _ _ _ _ _ _ _
      | exact ih2 _ _ _ _ _ _
      | exact trefoillaw15_awake.mono _
      | exact trefoilref15_Block.mono _ _ _
      | exact trefoilref15_Check.mono _ _
      | exact trefoilref15_Demand.mono _ _ _
      | exact trefoilref15_Horizon.mono _ _
      | exact LeO.none _
      | refine LeO.ite ?_ ?_
      | refine LeO.bind ?_ (fun _ => ?_)
theorem trefoillaw15_EdfTells.mono : ∀ a0 a1 k, LeO (trefoillaw15_EdfTells.f k a0 a1) (trefoillaw15_EdfTells.f (k + 1) a0 a1) := by
  intro a0 a1 k
  obtain ⟨ih0, ih1, ih2⟩ := trefoillaw15_EdfTells.mono_l k
  unfold trefoillaw15_EdfTells.f
  repeat' first
      | (with_reducible exact ih0 _ _ _)
      | (with_reducible exact ih1 _ _ _ _ _ _ _)
      | (with_reducible exact ih2 _ _ _ _ _ _)
      | (with_reducible exact trefoillaw15_awake.mono _)
      | (with_reducible exact trefoilref15_Block.mono _ _ _)
      | (with_reducible exact trefoilref15_Check.mono _ _)
      | (with_reducible exact trefoilref15_Demand.mono _ _ _)
      | (with_reducible exact trefoilref15_Horizon.mono _ _)
      | (with_reducible exact LeO.refl _)
      | (with_reducible exact LeO.none _)
      | (with_reducible refine LeO.ite ?_ ?_)
      | (with_reducible refine LeO.bind ?_ (fun _ => ?_))
      | exact ih0 _ _ _
      | exact ih1 _ _ _ _ _ _ _
      | exact ih2 _ _ _ _ _ _
      | exact trefoillaw15_awake.mono _
      | exact trefoilref15_Block.mono _ _ _
      | exact trefoilref15_Check.mono _ _
      | exact trefoilref15_Demand.mono _ _ _
      | exact trefoilref15_Horizon.mono _ _
      | exact LeO.none _
      | refine LeO.ite ?_ ?_
      | refine LeO.bind ?_ (fun _ => ?_)
set_option maxHeartbeats 8000000 in
set_option maxRecDepth 100000 in
theorem trefoillaw15_EdfTells.calls (k : Nat) (A0 : Option Addr) (c0 : Nat) (l0 : List (S34)) (a1 : Int) (r : Bool) (w : World) (hr0 : Kd.C k34 w A0 l0.length l0) (hc0 : l0.length ≤ c0) (h : trefoillaw15_EdfTells.f k l0 a1 = some r) (hTab : TabOK w := by first | exact hTab | exact TabOK.below hTab HB.out | exact TabOK.drewN hTab _ | exact TabOK.below hTab (by repeat (first | (with_reducible first | exact HB.out | apply below_alloc | apply pw_below_drewN | apply below_drew1) | exact HB.out)) | (repeat (first | exact hTab | apply TabOK.drewN | apply TabOK.drew | apply TabOK.alloc); done)) :
    Calls Tryd.prog 3 #[.slice A0 l0.length c0, .int .i64 a1] w fun e w' => e = .returned (.bool r) ∧ Below w.heap.size w w' := by
  have HR0 := Aside0.mk hr0
  have HC0 := Aside0.mk hc0
  clear hr0 hc0
  have HB := Aside0.mk (Below.refl w.heap.size w)
  have H : ((trefoillaw15_awake.f k).bind fun t167 => (if t167 = true then (trefoillaw15_EdfTells.j0 k l0 a1 (decide ((l0.length : Int) > 20))) else (trefoillaw15_EdfTells.j0 k l0 a1 true))) = some r := h
  clear h
  have HC3 := Aside0.mk H
  clear H
  go_enter Tryd.func3, Tryd.ntmps3
  go_upto_region 1 with (fail)
  go_cut [16] (fun v16 wc => ∃ (kq : Nat) (x16_2 : Bool), v16 = .bool x16_2 ∧ Aside0 (trefoillaw15_EdfTells.j0 kq l0 a1 x16_2 = some r) ∧ Aside0 (kq ≤ k) ∧ Aside0 (Below w.heap.size w wc))
  case first =>
    have H := HC3.out
    clear HC3
    replace H := Option.bind_eq_some_iff.mp H
    obtain ⟨t167, A40, H⟩ := H
    replace H : (if t167 = true then (trefoillaw15_EdfTells.j0 k l0 a1 (decide ((l0.length : Int) > 20))) else (trefoillaw15_EdfTells.j0 k l0 a1 true)) = some r := H
    have A4 := Aside0.mk A40
    clear A40
    by_cases c5 : t167 = true
    · subst c5
      have H1 : (trefoillaw15_EdfTells.j0 k l0 a1 (decide ((l0.length : Int) > 20))) = some r := by rw [if_pos rfl] at H; exact H
      clear H
      have H := H1
      clear H1
      have H' := Aside0.mk H
      clear H
      go_wp2_with (first | ((with_reducible refine gate_callee (f := 9) rfl ?_); refine goesL_ (some 10) rfl rfl Tryd.func9 (by kernel_rfl) rfl #[] rfl (by (try simp only [List.map_toArray, List.map_cons, List.map_nil]); first | done | rfl | (simp only [List.length_drop, List.length_take]; rfl)) ?_; (with_reducible refine (trefoillaw15_awake.calls k  true _ A4.out).mono ?_); rintro e w6 ⟨rfl, hb⟩; refine ⟨_, rfl, ?_⟩; have n0_ := Aside0.mk (below_step (by repeat (first | (with_reducible first | exact HB.out | apply below_alloc | apply pw_below_drewN | apply below_drew1) | exact HB.out)) hb); clear HB; have HB := n0_; clear n0_; (try clear hb); (try clear hb2); (try clear hk); (try clear hi)))
      go_meet
      case rel => exact ⟨_, (decide ((l0.length : Int) > 20)), (by first | rfl | (simp; done) | (simp [*]; done)), H', ⟨by first | omega | exact Nat.le_refl _⟩, ⟨by repeat (first | (with_reducible first | exact HB.out | apply below_alloc | apply pw_below_drewN | apply below_drew1) | exact HB.out)⟩⟩
    · replace c5 := Bool.eq_false_iff.mpr c5
      subst c5
      have H1 : (trefoillaw15_EdfTells.j0 k l0 a1 true) = some r := by rw [if_neg (show ¬ (false = true) by decide)] at H; exact H
      clear H
      have H := H1
      clear H1
      have H' := Aside0.mk H
      clear H
      go_wp2_with (first | ((with_reducible refine gate_callee (f := 9) rfl ?_); refine goesL_ (some 10) rfl rfl Tryd.func9 (by kernel_rfl) rfl #[] rfl (by (try simp only [List.map_toArray, List.map_cons, List.map_nil]); first | done | rfl | (simp only [List.length_drop, List.length_take]; rfl)) ?_; (with_reducible refine (trefoillaw15_awake.calls k  false _ A4.out).mono ?_); rintro e w7 ⟨rfl, hb⟩; refine ⟨_, rfl, ?_⟩; have n0_ := Aside0.mk (below_step (by repeat (first | (with_reducible first | exact HB.out | apply below_alloc | apply pw_below_drewN | apply below_drew1) | exact HB.out)) hb); clear HB; have HB := n0_; clear n0_; (try clear hb); (try clear hb2); (try clear hk); (try clear hi)))
      go_meet
      case rel => exact ⟨_, (true), (by first | rfl | (simp; done) | (simp [*]; done)), H', ⟨by first | omega | exact Nat.le_refl _⟩, ⟨by repeat (first | (with_reducible first | exact HB.out | apply below_alloc | apply pw_below_drewN | apply below_drew1) | exact HB.out)⟩⟩
  case rest =>
    clear HC3
    try clear p2
    try clear c3
    try clear c5
    obtain ⟨kq, x16_2, rfl, HA, HJ2, HB⟩ := hcut
    cases kq with
    | zero => exact absurd HA.out (by simp [trefoillaw15_EdfTells.j0])
    | succ kj2 =>
      have H := HA.out
      clear HA
      simp only [trefoillaw15_EdfTells.j0] at H
      by_cases c8 : x16_2 = true
      · subst c8
        have H1 : ((trefoillaw15_awake.f kj2).bind fun t168 => (some t168)) = some r := by rw [if_pos rfl] at H; exact H
        clear H
        have H := H1
        clear H1
        replace H := Option.bind_eq_some_iff.mp H
        obtain ⟨t168, A90, H⟩ := H
        replace H : (some t168) = some r := H
        have A9 := Aside0.mk A90
        clear A90
        obtain rfl := Option.some.inj H
        go_wp2_with (first | ((with_reducible refine gate_callee (f := 9) rfl ?_); refine goesL_ (some 17) rfl rfl Tryd.func9 (by kernel_rfl) rfl #[] rfl (by (try simp only [List.map_toArray, List.map_cons, List.map_nil]); first | done | rfl | (simp only [List.length_drop, List.length_take]; rfl)) ?_; (with_reducible refine (trefoillaw15_awake.calls kj2  t168 _ A9.out).mono ?_); rintro e w10 ⟨rfl, hb⟩; refine ⟨_, rfl, ?_⟩; have n0_ := Aside0.mk (below_step (by repeat (first | (with_reducible first | exact HB.out | apply below_alloc | apply pw_below_drewN | apply below_drew1) | exact HB.out)) hb); clear HB; have HB := n0_; clear n0_; (try clear hb); (try clear hb2); (try clear hk); (try clear hi)))
        go_ret
        exact ⟨by first | rfl | (simp [errW_none, errW_some] <;> rfl) | (simp [*, errW_none, errW_some] <;> rfl), by repeat (first | (with_reducible first | exact HB.out | apply below_alloc | apply pw_below_drewN | apply below_drew1) | exact HB.out)⟩
      · replace c8 := Bool.eq_false_iff.mpr c8
        subst c8
        have H1 : ((trefoillaw15_Own.f l0).bind fun t169 => ((edf_Demand.f t169 a1).bind fun bt172 => ((trefoillaw15_Own.f l0).bind fun t174 => ((edf_Block.f t174 a1).bind fun bt177 => ((trefoilref15_Check.f kj2 l0).bind fun t179 => (if t179 = true then (if a1 < 0 then (trefoillaw15_EdfTells.j1 kj2 l0 a1 bt172.1 bt172.2 bt177.1 bt177.2 151) else (if a1 > 1099511627775 then (trefoillaw15_EdfTells.j1 kj2 l0 a1 bt172.1 bt172.2 bt177.1 bt177.2 151) else (trefoillaw15_EdfTells.j1 kj2 l0 a1 bt172.1 bt172.2 bt177.1 bt177.2 0))) else (trefoillaw15_EdfTells.j1 kj2 l0 a1 bt172.1 bt172.2 bt177.1 bt177.2 150))))))) = some r := by rw [if_neg (show ¬ (false = true) by decide)] at H; exact H
        clear H
        have H := H1
        clear H1
        replace H := Option.bind_eq_some_iff.mp H
        obtain ⟨t169, A110, H⟩ := H
        replace H : ((edf_Demand.f t169 a1).bind fun bt172 => ((trefoillaw15_Own.f l0).bind fun t174 => ((edf_Block.f t174 a1).bind fun bt177 => ((trefoilref15_Check.f kj2 l0).bind fun t179 => (if t179 = true then (if a1 < 0 then (trefoillaw15_EdfTells.j1 kj2 l0 a1 bt172.1 bt172.2 bt177.1 bt177.2 151) else (if a1 > 1099511627775 then (trefoillaw15_EdfTells.j1 kj2 l0 a1 bt172.1 bt172.2 bt177.1 bt177.2 151) else (trefoillaw15_EdfTells.j1 kj2 l0 a1 bt172.1 bt172.2 bt177.1 bt177.2 0))) else (trefoillaw15_EdfTells.j1 kj2 l0 a1 bt172.1 bt172.2 bt177.1 bt177.2 150)))))) = some r := H
        have A11 := Aside0.mk A110
        clear A110
        replace H := Option.bind_eq_some_iff.mp H
        obtain ⟨⟨t172, t173⟩, A120, H⟩ := H
        replace H : ((trefoillaw15_Own.f l0).bind fun t174 => ((edf_Block.f t174 a1).bind fun bt177 => ((trefoilref15_Check.f kj2 l0).bind fun t179 => (if t179 = true then (if a1 < 0 then (trefoillaw15_EdfTells.j1 kj2 l0 a1 t172 t173 bt177.1 bt177.2 151) else (if a1 > 1099511627775 then (trefoillaw15_EdfTells.j1 kj2 l0 a1 t172 t173 bt177.1 bt177.2 151) else (trefoillaw15_EdfTells.j1 kj2 l0 a1 t172 t173 bt177.1 bt177.2 0))) else (trefoillaw15_EdfTells.j1 kj2 l0 a1 t172 t173 bt177.1 bt177.2 150))))) = some r := H
        have A12 := Aside0.mk A120
        clear A120
        replace H := Option.bind_eq_some_iff.mp H
        obtain ⟨t174, A130, H⟩ := H
        replace H : ((edf_Block.f t174 a1).bind fun bt177 => ((trefoilref15_Check.f kj2 l0).bind fun t179 => (if t179 = true then (if a1 < 0 then (trefoillaw15_EdfTells.j1 kj2 l0 a1 t172 t173 bt177.1 bt177.2 151) else (if a1 > 1099511627775 then (trefoillaw15_EdfTells.j1 kj2 l0 a1 t172 t173 bt177.1 bt177.2 151) else (trefoillaw15_EdfTells.j1 kj2 l0 a1 t172 t173 bt177.1 bt177.2 0))) else (trefoillaw15_EdfTells.j1 kj2 l0 a1 t172 t173 bt177.1 bt177.2 150)))) = some r := H
        have A13 := Aside0.mk A130
        clear A130
        replace H := Option.bind_eq_some_iff.mp H
        obtain ⟨⟨t177, t178⟩, A140, H⟩ := H
        replace H : ((trefoilref15_Check.f kj2 l0).bind fun t179 => (if t179 = true then (if a1 < 0 then (trefoillaw15_EdfTells.j1 kj2 l0 a1 t172 t173 t177 t178 151) else (if a1 > 1099511627775 then (trefoillaw15_EdfTells.j1 kj2 l0 a1 t172 t173 t177 t178 151) else (trefoillaw15_EdfTells.j1 kj2 l0 a1 t172 t173 t177 t178 0))) else (trefoillaw15_EdfTells.j1 kj2 l0 a1 t172 t173 t177 t178 150))) = some r := H
        have A14 := Aside0.mk A140
        clear A140
        replace H := Option.bind_eq_some_iff.mp H
        obtain ⟨t179, A150, H⟩ := H
        replace H : (if t179 = true then (if a1 < 0 then (trefoillaw15_EdfTells.j1 kj2 l0 a1 t172 t173 t177 t178 151) else (if a1 > 1099511627775 then (trefoillaw15_EdfTells.j1 kj2 l0 a1 t172 t173 t177 t178 151) else (trefoillaw15_EdfTells.j1 kj2 l0 a1 t172 t173 t177 t178 0))) else (trefoillaw15_EdfTells.j1 kj2 l0 a1 t172 t173 t177 t178 150)) = some r := H
        have A15 := Aside0.mk A150
        clear A150
        have HC16 := Aside0.mk H
        clear H
        go_upto_if 34 with (first | ((with_reducible refine gate_callee (f := 11) rfl ?_); refine goesL_ (some 20) rfl rfl Tryd.func11 (by kernel_rfl) rfl #[.slice A0 l0.length c0] rfl (by (try simp only [List.map_toArray, List.map_cons, List.map_nil]); first | done | rfl | (simp only [List.length_drop, List.length_take]; rfl)) ?_; (with_reducible refine (trefoillaw15_Own.calls _ _ l0 t169 _ ?side1 ?side2 A11.out).mono ?_); (case side1 => repeat (first | exact (Kd.C_below HR0.out HB.out) | (with_reducible refine Kd.C_alloc ?_ _) | (with_reducible refine Kd.C_drewN ?_ _) | (with_reducible refine Kd.C_drew ?_))); (case side2 => exact HC0.out); rintro e w17 ⟨v170, rfl, ho0, hb⟩; refine ⟨_, rfl, ?_⟩; have n0_ := Aside0.mk (Kd.R_lower ho0 (below_size (by repeat (first | (with_reducible first | exact HB.out | apply below_alloc | apply pw_below_drewN | apply below_drew1) | exact HB.out)))); have n1_ := Aside0.mk (below_step (by repeat (first | (with_reducible first | exact HB.out | apply below_alloc | apply pw_below_drewN | apply below_drew1) | exact HB.out)) hb); clear HB; have HO171 := n0_; have HB := n1_; clear n0_ n1_; (try clear hb); (try clear hb2); (try clear hk); (try clear hi); (try clear ho0); obtain ⟨Ao18, co18, eo18⟩ := Kd.R_slice HO171.out; subst eo18) | ((with_reducible refine gate_callee (f := 10) rfl ?_); refine goesL_ (some 22) rfl rfl Tryd.func10 (by kernel_rfl) rfl #[.slice Ao18 t169.length co18, .int .i64 a1] rfl (by (try simp only [List.map_toArray, List.map_cons, List.map_nil]); first | done | rfl | (simp only [List.length_drop, List.length_take]; rfl)) ?_; (with_reducible refine (edf_Demand.calls _ _ t169 a1 t172 t173 _ ?side1 ?side2 A12.out).mono ?_); (case side1 => repeat (first | exact (Kd.R_reads' HO171.out).2.2 | (with_reducible refine Kd.C_alloc ?_ _) | (with_reducible refine Kd.C_drewN ?_ _) | (with_reducible refine Kd.C_drew ?_))); (case side2 => exact (Kd.R_reads' HO171.out).2.1); rintro e w19 ⟨rfl, hb⟩; refine ⟨_, rfl, ?_⟩; have n0_ := Aside0.mk (Kd.R_below (by (with_reducible repeat (first | apply Kd.R_alloc | apply Kd.R_drewN | apply Kd.R_drew)); exact HO171.out) hb); have n1_ := Aside0.mk (below_step (by repeat (first | (with_reducible first | exact HB.out | apply below_alloc | apply pw_below_drewN | apply below_drew1) | exact HB.out)) hb); clear HO171; clear HB; have HO171 := n0_; have HB := n1_; clear n0_ n1_; (try clear hb); (try clear hb2); (try clear hk); (try clear hi)) | ((with_reducible refine gate_callee (f := 11) rfl ?_); refine goesL_ (some 27) rfl rfl Tryd.func11 (by kernel_rfl) rfl #[.slice A0 l0.length c0] rfl (by (try simp only [List.map_toArray, List.map_cons, List.map_nil]); first | done | rfl | (simp only [List.length_drop, List.length_take]; rfl)) ?_; (with_reducible refine (trefoillaw15_Own.calls _ _ l0 t174 _ ?side1 ?side2 A13.out).mono ?_); (case side1 => repeat (first | exact (Kd.C_below HR0.out HB.out) | (with_reducible refine Kd.C_alloc ?_ _) | (with_reducible refine Kd.C_drewN ?_ _) | (with_reducible refine Kd.C_drew ?_))); (case side2 => exact HC0.out); rintro e w20 ⟨v175, rfl, ho0, hb⟩; refine ⟨_, rfl, ?_⟩; have n0_ := Aside0.mk (Kd.R_elder' (by (with_reducible repeat (first | apply Kd.R_alloc | apply Kd.R_drewN | apply Kd.R_drew)); exact HO171.out) (Kd.R_base ho0) hb); have n1_ := Aside0.mk (Kd.R_lower (Kd.R_new' ho0 (Kd.R_lt (by (with_reducible repeat (first | apply Kd.R_alloc | apply Kd.R_drewN | apply Kd.R_drew)); exact HO171.out))) (below_size (by repeat (first | (with_reducible first | exact HB.out | apply below_alloc | apply pw_below_drewN | apply below_drew1) | exact HB.out)))); have n2_ := Aside0.mk (below_step (by repeat (first | (with_reducible first | exact HB.out | apply below_alloc | apply pw_below_drewN | apply below_drew1) | exact HB.out)) hb); clear HO171; clear HB; have HO171 := n0_; have HO176 := n1_; have HB := n2_; clear n0_ n1_ n2_; (try clear hb); (try clear hb2); (try clear hk); (try clear hi); (try clear ho0); obtain ⟨Ao21, co21, eo21⟩ := Kd.R_slice HO176.out; subst eo21) | ((with_reducible refine gate_callee (f := 12) rfl ?_); refine goesL_ (some 29) rfl rfl Tryd.func12 (by kernel_rfl) rfl #[.slice Ao21 t174.length co21, .int .i64 a1] rfl (by (try simp only [List.map_toArray, List.map_cons, List.map_nil]); first | done | rfl | (simp only [List.length_drop, List.length_take]; rfl)) ?_; (with_reducible refine (edf_Block.calls _ _ t174 a1 t177 t178 _ ?side1 ?side2 A14.out).mono ?_); (case side1 => repeat (first | exact (Kd.R_reads' HO176.out).2.2 | (with_reducible refine Kd.C_alloc ?_ _) | (with_reducible refine Kd.C_drewN ?_ _) | (with_reducible refine Kd.C_drew ?_))); (case side2 => exact (Kd.R_reads' HO176.out).2.1); rintro e w22 ⟨rfl, hb⟩; refine ⟨_, rfl, ?_⟩; have n0_ := Aside0.mk (Kd.R_below (by (with_reducible repeat (first | apply Kd.R_alloc | apply Kd.R_drewN | apply Kd.R_drew)); exact HO171.out) hb); have n1_ := Aside0.mk (Kd.R_below (by (with_reducible repeat (first | apply Kd.R_alloc | apply Kd.R_drewN | apply Kd.R_drew)); exact HO176.out) hb); have n2_ := Aside0.mk (below_step (by repeat (first | (with_reducible first | exact HB.out | apply below_alloc | apply pw_below_drewN | apply below_drew1) | exact HB.out)) hb); clear HO171; clear HO176; clear HB; have HO171 := n0_; have HO176 := n1_; have HB := n2_; clear n0_ n1_ n2_; (try clear hb); (try clear hb2); (try clear hk); (try clear hi)) | ((with_reducible refine gate_callee (f := 13) rfl ?_); refine goesL_ (some 33) rfl rfl Tryd.func13 (by kernel_rfl) rfl #[.slice A0 l0.length c0] rfl (by (try simp only [List.map_toArray, List.map_cons, List.map_nil]); first | done | rfl | (simp only [List.length_drop, List.length_take]; rfl)) ?_; (with_reducible refine (trefoilref15_Check.calls kj2 _ _ l0 t179 _ ?side1 ?side2 A15.out).mono ?_); (case side1 => repeat (first | exact (Kd.C_below HR0.out HB.out) | (with_reducible refine Kd.C_alloc ?_ _) | (with_reducible refine Kd.C_drewN ?_ _) | (with_reducible refine Kd.C_drew ?_))); (case side2 => exact HC0.out); rintro e w23 ⟨rfl, hb⟩; refine ⟨_, rfl, ?_⟩; have n0_ := Aside0.mk (Kd.R_below (by (with_reducible repeat (first | apply Kd.R_alloc | apply Kd.R_drewN | apply Kd.R_drew)); exact HO171.out) hb); have n1_ := Aside0.mk (Kd.R_below (by (with_reducible repeat (first | apply Kd.R_alloc | apply Kd.R_drewN | apply Kd.R_drew)); exact HO176.out) hb); have n2_ := Aside0.mk (below_step (by repeat (first | (with_reducible first | exact HB.out | apply below_alloc | apply pw_below_drewN | apply below_drew1) | exact HB.out)) hb); clear HO171; clear HO176; clear HB; have HO171 := n0_; have HO176 := n1_; have HB := n2_; clear n0_ n1_ n2_; (try clear hb); (try clear hb2); (try clear hk); (try clear hi)))
        (try simp only [Act.put, List.setIfInBounds_toArray, List.set_cons_zero, List.set_cons_succ])
        go_cut [9] (fun v9 wc => ∃ (kq : Nat) (x9_15 : Int), v9 = .int .i64 x9_15 ∧ Aside0 (trefoillaw15_EdfTells.j1 kq l0 a1 t172 t173 t177 t178 x9_15 = some r) ∧ Aside0 (kq ≤ kj2) ∧ Aside0 (Below w.heap.size w wc))
        case first =>
          have H := HC16.out
          clear HC16
          by_cases c24 : t179 = true
          · subst c24
            have H1 : (if a1 < 0 then (trefoillaw15_EdfTells.j1 kj2 l0 a1 t172 t173 t177 t178 151) else (if a1 > 1099511627775 then (trefoillaw15_EdfTells.j1 kj2 l0 a1 t172 t173 t177 t178 151) else (trefoillaw15_EdfTells.j1 kj2 l0 a1 t172 t173 t177 t178 0))) = some r := by rw [if_pos rfl] at H; exact H
            clear H
            have H := H1
            clear H1
            by_cases c25 : a1 < 0
            · rw [if_pos c25] at H
              have c25b0 : decide (a1 < 0) = true := decide_eq_true c25
              clear c25
              (first | rw [c25b0] | (simp only [i64_w, i32_w]; rw [c25b0]) | skip)
              have H' := Aside0.mk H
              clear H
              go_wp2
              go_meet
              case rel => exact ⟨_, (151), (by first | rfl | (simp; done) | (simp [*]; done)), H', ⟨by have := HJ2.out; first | omega | exact Nat.le_refl _⟩, ⟨by repeat (first | (with_reducible first | exact HB.out | apply below_alloc | apply pw_below_drewN | apply below_drew1) | exact HB.out)⟩⟩
            · rw [if_neg c25] at H
              have c25b0 : decide (a1 < 0) = false := decide_eq_false c25
              clear c25
              (first | rw [c25b0] | (simp only [i64_w, i32_w]; rw [c25b0]) | skip)
              by_cases c26 : a1 > 1099511627775
              · rw [if_pos c26] at H
                have c26b0 : decide (1099511627775 < a1) = true := decide_eq_true c26
                clear c26
                have H' := Aside0.mk H
                clear H
                go_wp2
                go_meet
                case rel => exact ⟨_, (151), (by first | rfl | (simp; done) | (simp [*]; done)), H', ⟨by have := HJ2.out; first | omega | exact Nat.le_refl _⟩, ⟨by repeat (first | (with_reducible first | exact HB.out | apply below_alloc | apply pw_below_drewN | apply below_drew1) | exact HB.out)⟩⟩
              · rw [if_neg c26] at H
                have c26b0 : decide (1099511627775 < a1) = false := decide_eq_false c26
                clear c26
                have H' := Aside0.mk H
                clear H
                go_wp2
                go_meet
                case rel => exact ⟨_, (0), (by first | rfl | (simp; done) | (simp [*]; done)), H', ⟨by have := HJ2.out; first | omega | exact Nat.le_refl _⟩, ⟨by repeat (first | (with_reducible first | exact HB.out | apply below_alloc | apply pw_below_drewN | apply below_drew1) | exact HB.out)⟩⟩
          · replace c24 := Bool.eq_false_iff.mpr c24
            subst c24
            have H1 : (trefoillaw15_EdfTells.j1 kj2 l0 a1 t172 t173 t177 t178 150) = some r := by rw [if_neg (show ¬ (false = true) by decide)] at H; exact H
            clear H
            have H := H1
            clear H1
            have H' := Aside0.mk H
            clear H
            go_wp2
            go_meet
            case rel => exact ⟨_, (150), (by first | rfl | (simp; done) | (simp [*]; done)), H', ⟨by have := HJ2.out; first | omega | exact Nat.le_refl _⟩, ⟨by repeat (first | (with_reducible first | exact HB.out | apply below_alloc | apply pw_below_drewN | apply below_drew1) | exact HB.out)⟩⟩
        case rest =>
          clear HC16
          try clear c1
          try clear c2
          try clear p2
          try clear c3
          try clear c5
          try clear c8
          try clear c9
          try clear c10
          try clear c11
          try clear c12
          try clear c13
          try clear c24
          try clear c25
          try clear c25b0
          try clear c26
          try clear c26b0
          try clear p2
          obtain ⟨kq, x9_15, rfl, HA, HJ15, HB⟩ := hcut
          cases kq with
          | zero => exact absurd HA.out (by simp [trefoillaw15_EdfTells.j1])
          | succ kj15 =>
            have H := HA.out
            clear HA
            simp only [trefoillaw15_EdfTells.j1] at H
            have HC27 := Aside0.mk H
            clear H
            go_upto_region 10 with (fail)
            go_cut [65] (fun v65 wc => ∃ (kq : Nat) (x65_26 : Bool), v65 = .bool x65_26 ∧ Aside0 (trefoillaw15_EdfTells.j2 kq l0 a1 t172 t177 x9_15 x65_26 = some r) ∧ Aside0 (kq ≤ kj15) ∧ Aside0 (Below w.heap.size w wc))
            case first =>
              have H := HC27.out
              clear HC27
              by_cases c28 : t173 = x9_15
              · rw [if_pos c28] at H
                have c28b0 : (t173 == x9_15) = true := beq_iff_eq.mpr c28
                have c28b1 : (t173 != x9_15) = false := bne_eq_false_iff_eq.mpr c28
                clear c28
                (first | rw [c28b0] | (simp only [i64_w, i32_w]; rw [c28b0]) | skip)
                by_cases c29 : t178 = x9_15
                · rw [if_pos c29] at H
                  have c29b0 : (t178 == x9_15) = true := beq_iff_eq.mpr c29
                  have c29b1 : (t178 != x9_15) = false := bne_eq_false_iff_eq.mpr c29
                  clear c29
                  replace H := Option.bind_eq_some_iff.mp H
                  obtain ⟨t180, A300, H⟩ := H
                  replace H : ((edf_Check.f t180).bind fun t183 => ((trefoilref15_Check.f kj15 l0).bind fun t184 => (if ((t183 == 0) != t184) = true then (trefoillaw15_EdfTells.j2 kj15 l0 a1 t172 t177 x9_15 true) else ((trefoillaw15_Own.f l0).bind fun t185 => ((edf_Horizon.f t185).bind fun t188 => ((trefoilref15_Horizon.f kj15 l0).bind fun t189 => (trefoillaw15_EdfTells.j2 kj15 l0 a1 t172 t177 x9_15 (t188 != t189)))))))) = some r := H
                  have A30 := Aside0.mk A300
                  clear A300
                  replace H := Option.bind_eq_some_iff.mp H
                  obtain ⟨t183, A310, H⟩ := H
                  replace H : ((trefoilref15_Check.f kj15 l0).bind fun t184 => (if ((t183 == 0) != t184) = true then (trefoillaw15_EdfTells.j2 kj15 l0 a1 t172 t177 x9_15 true) else ((trefoillaw15_Own.f l0).bind fun t185 => ((edf_Horizon.f t185).bind fun t188 => ((trefoilref15_Horizon.f kj15 l0).bind fun t189 => (trefoillaw15_EdfTells.j2 kj15 l0 a1 t172 t177 x9_15 (t188 != t189))))))) = some r := H
                  have A31 := Aside0.mk A310
                  clear A310
                  replace H := Option.bind_eq_some_iff.mp H
                  obtain ⟨t184, A320, H⟩ := H
                  replace H : (if ((t183 == 0) != t184) = true then (trefoillaw15_EdfTells.j2 kj15 l0 a1 t172 t177 x9_15 true) else ((trefoillaw15_Own.f l0).bind fun t185 => ((edf_Horizon.f t185).bind fun t188 => ((trefoilref15_Horizon.f kj15 l0).bind fun t189 => (trefoillaw15_EdfTells.j2 kj15 l0 a1 t172 t177 x9_15 (t188 != t189)))))) = some r := H
                  have A32 := Aside0.mk A320
                  clear A320
                  by_cases c33 : ((t183 == 0) != t184) = true
                  · rw [if_pos c33] at H
                    have c33b0 : ((t183 == 0) != t184) = true := c33
                    (try (have c33b1 : decide ((t183 == 0) = t184) = false := by simpa using c33))
                    (try (have c33b2 : ((t183 == 0) == t184) = false := by simpa using c33))
                    (try (have c33b3 : ¬ ((t183 == 0) = t184) := by simpa using c33))
                    clear c33
                    have H' := Aside0.mk H
                    clear H
                    go_wp2_with (first | (go_at_call 11; (with_reducible refine (trefoillaw15_Own.calls _ _ l0 t180 _ ?side1 ?side2 A30.out).mono ?_); (case side1 => repeat (first | exact (Kd.C_below HR0.out HB.out) | (with_reducible refine Kd.C_alloc ?_ _) | (with_reducible refine Kd.C_drewN ?_ _) | (with_reducible refine Kd.C_drew ?_))); (case side2 => exact HC0.out); rintro e w34 ⟨v181, rfl, ho0, hb⟩; have n0_ := Aside0.mk (Kd.R_lower ho0 (below_size (by repeat (first | (with_reducible first | exact HB.out | apply below_alloc | apply pw_below_drewN | apply below_drew1) | exact HB.out)))); have n1_ := Aside0.mk (below_step (by repeat (first | (with_reducible first | exact HB.out | apply below_alloc | apply pw_below_drewN | apply below_drew1) | exact HB.out)) hb); clear HB; have HO182 := n0_; have HB := n1_; clear n0_ n1_; (try clear hb); (try clear hb2); (try clear hk); (try clear hi); (try clear ho0); obtain ⟨Ao35, co35, eo35⟩ := Kd.R_slice HO182.out; subst eo35) | (go_at_call 14; (with_reducible refine (edf_Check.calls _ _ t180 t183 _ ?side1 ?side2 A31.out).mono ?_); (case side1 => repeat (first | exact (Kd.R_reads' HO182.out).2.2 | (with_reducible refine Kd.C_alloc ?_ _) | (with_reducible refine Kd.C_drewN ?_ _) | (with_reducible refine Kd.C_drew ?_))); (case side2 => exact (Kd.R_reads' HO182.out).2.1); rintro e w36 ⟨rfl, hb⟩; have n0_ := Aside0.mk (Kd.R_below (by (with_reducible repeat (first | apply Kd.R_alloc | apply Kd.R_drewN | apply Kd.R_drew)); exact HO182.out) hb); have n1_ := Aside0.mk (below_step (by repeat (first | (with_reducible first | exact HB.out | apply below_alloc | apply pw_below_drewN | apply below_drew1) | exact HB.out)) hb); clear HO182; clear HB; have HO182 := n0_; have HB := n1_; clear n0_ n1_; (try clear hb); (try clear hb2); (try clear hk); (try clear hi)) | (go_at_call 13; (with_reducible refine (trefoilref15_Check.calls kj15 _ _ l0 t184 _ ?side1 ?side2 A32.out).mono ?_); (case side1 => repeat (first | exact (Kd.C_below HR0.out HB.out) | (with_reducible refine Kd.C_alloc ?_ _) | (with_reducible refine Kd.C_drewN ?_ _) | (with_reducible refine Kd.C_drew ?_))); (case side2 => exact HC0.out); rintro e w37 ⟨rfl, hb⟩; have n0_ := Aside0.mk (Kd.R_below (by (with_reducible repeat (first | apply Kd.R_alloc | apply Kd.R_drewN | apply Kd.R_drew)); exact HO182.out) hb); have n1_ := Aside0.mk (below_step (by repeat (first | (with_reducible first | exact HB.out | apply below_alloc | apply pw_below_drewN | apply below_drew1) | exact HB.out)) hb); clear HO182; clear HB; have HO182 := n0_; have HB := n1_; clear n0_ n1_; (try clear hb); (try clear hb2); (try clear hk); (try clear hi)))
                    go_meet
                    case rel => exact ⟨_, (true), (by first | rfl | (simp; done) | (simp [*]; done)), H', ⟨by have := HJ2.out; have := HJ15.out; first | omega | exact Nat.le_refl _⟩, ⟨by repeat (first | (with_reducible first | exact HB.out | apply below_alloc | apply pw_below_drewN | apply below_drew1) | exact HB.out)⟩⟩
                  · rw [if_neg c33] at H
                    have c33b0 : ((t183 == 0) != t184) = false := by simpa using c33
                    (try (have c33b1 : decide ((t183 == 0) = t184) = true := by simpa using c33))
                    (try (have c33b2 : ((t183 == 0) == t184) = true := by simpa using c33))
                    clear c33
                    replace H := Option.bind_eq_some_iff.mp H
                    obtain ⟨t185, A380, H⟩ := H
                    replace H : ((edf_Horizon.f t185).bind fun t188 => ((trefoilref15_Horizon.f kj15 l0).bind fun t189 => (trefoillaw15_EdfTells.j2 kj15 l0 a1 t172 t177 x9_15 (t188 != t189)))) = some r := H
                    have A38 := Aside0.mk A380
                    clear A380
                    replace H := Option.bind_eq_some_iff.mp H
                    obtain ⟨t188, A390, H⟩ := H
                    replace H : ((trefoilref15_Horizon.f kj15 l0).bind fun t189 => (trefoillaw15_EdfTells.j2 kj15 l0 a1 t172 t177 x9_15 (t188 != t189))) = some r := H
                    have A39 := Aside0.mk A390
                    clear A390
                    replace H := Option.bind_eq_some_iff.mp H
                    obtain ⟨t189, A400, H⟩ := H
                    replace H : (trefoillaw15_EdfTells.j2 kj15 l0 a1 t172 t177 x9_15 (t188 != t189)) = some r := H
                    have A40 := Aside0.mk A400
                    clear A400
                    have H' := Aside0.mk H
                    clear H
                    have tokA : True := trivial
                    go_wp2_with (first | (go_at_call 11; clear tokA; (with_reducible refine (trefoillaw15_Own.calls _ _ l0 t180 _ ?side1 ?side2 A30.out).mono ?_); (case side1 => repeat (first | exact (Kd.C_below HR0.out HB.out) | (with_reducible refine Kd.C_alloc ?_ _) | (with_reducible refine Kd.C_drewN ?_ _) | (with_reducible refine Kd.C_drew ?_))); (case side2 => exact HC0.out); rintro e w41 ⟨v181, rfl, ho0, hb⟩; have n0_ := Aside0.mk (Kd.R_lower ho0 (below_size (by repeat (first | (with_reducible first | exact HB.out | apply below_alloc | apply pw_below_drewN | apply below_drew1) | exact HB.out)))); have n1_ := Aside0.mk (below_step (by repeat (first | (with_reducible first | exact HB.out | apply below_alloc | apply pw_below_drewN | apply below_drew1) | exact HB.out)) hb); clear HB; have HO182 := n0_; have HB := n1_; clear n0_ n1_; (try clear hb); (try clear hb2); (try clear hk); (try clear hi); (try clear ho0); obtain ⟨Ao42, co42, eo42⟩ := Kd.R_slice HO182.out; subst eo42) | (go_at_call 14; (with_reducible refine (edf_Check.calls _ _ t180 t183 _ ?side1 ?side2 A31.out).mono ?_); (case side1 => repeat (first | exact (Kd.R_reads' HO182.out).2.2 | (with_reducible refine Kd.C_alloc ?_ _) | (with_reducible refine Kd.C_drewN ?_ _) | (with_reducible refine Kd.C_drew ?_))); (case side2 => exact (Kd.R_reads' HO182.out).2.1); rintro e w43 ⟨rfl, hb⟩; have n0_ := Aside0.mk (Kd.R_below (by (with_reducible repeat (first | apply Kd.R_alloc | apply Kd.R_drewN | apply Kd.R_drew)); exact HO182.out) hb); have n1_ := Aside0.mk (below_step (by repeat (first | (with_reducible first | exact HB.out | apply below_alloc | apply pw_below_drewN | apply below_drew1) | exact HB.out)) hb); clear HO182; clear HB; have HO182 := n0_; have HB := n1_; clear n0_ n1_; (try clear hb); (try clear hb2); (try clear hk); (try clear hi)) | (go_at_call 13; (with_reducible refine (trefoilref15_Check.calls kj15 _ _ l0 t184 _ ?side1 ?side2 A32.out).mono ?_); (case side1 => repeat (first | exact (Kd.C_below HR0.out HB.out) | (with_reducible refine Kd.C_alloc ?_ _) | (with_reducible refine Kd.C_drewN ?_ _) | (with_reducible refine Kd.C_drew ?_))); (case side2 => exact HC0.out); rintro e w44 ⟨rfl, hb⟩; have n0_ := Aside0.mk (Kd.R_below (by (with_reducible repeat (first | apply Kd.R_alloc | apply Kd.R_drewN | apply Kd.R_drew)); exact HO182.out) hb); have n1_ := Aside0.mk (below_step (by repeat (first | (with_reducible first | exact HB.out | apply below_alloc | apply pw_below_drewN | apply below_drew1) | exact HB.out)) hb); clear HO182; clear HB; have HO182 := n0_; have HB := n1_; clear n0_ n1_; (try clear hb); (try clear hb2); (try clear hk); (try clear hi)) | (go_at_call 11; (with_reducible refine (trefoillaw15_Own.calls _ _ l0 t185 _ ?side1 ?side2 A38.out).mono ?_); (case side1 => repeat (first | exact (Kd.C_below HR0.out HB.out) | (with_reducible refine Kd.C_alloc ?_ _) | (with_reducible refine Kd.C_drewN ?_ _) | (with_reducible refine Kd.C_drew ?_))); (case side2 => exact HC0.out); rintro e w45 ⟨v186, rfl, ho0, hb⟩; have n0_ := Aside0.mk (Kd.R_elder' (by (with_reducible repeat (first | apply Kd.R_alloc | apply Kd.R_drewN | apply Kd.R_drew)); exact HO182.out) (Kd.R_base ho0) hb); have n1_ := Aside0.mk (Kd.R_lower (Kd.R_new' ho0 (Kd.R_lt (by (with_reducible repeat (first | apply Kd.R_alloc | apply Kd.R_drewN | apply Kd.R_drew)); exact HO182.out))) (below_size (by repeat (first | (with_reducible first | exact HB.out | apply below_alloc | apply pw_below_drewN | apply below_drew1) | exact HB.out)))); have n2_ := Aside0.mk (below_step (by repeat (first | (with_reducible first | exact HB.out | apply below_alloc | apply pw_below_drewN | apply below_drew1) | exact HB.out)) hb); clear HO182; clear HB; have HO182 := n0_; have HO187 := n1_; have HB := n2_; clear n0_ n1_ n2_; (try clear hb); (try clear hb2); (try clear hk); (try clear hi); (try clear ho0); obtain ⟨Ao46, co46, eo46⟩ := Kd.R_slice HO187.out; subst eo46) | (go_at_call 15; (with_reducible refine (edf_Horizon.calls _ _ t185 t188 _ ?side1 ?side2 A39.out).mono ?_); (case side1 => repeat (first | exact (Kd.R_reads' HO187.out).2.2 | (with_reducible refine Kd.C_alloc ?_ _) | (with_reducible refine Kd.C_drewN ?_ _) | (with_reducible refine Kd.C_drew ?_))); (case side2 => exact (Kd.R_reads' HO187.out).2.1); rintro e w47 ⟨rfl, hb⟩; have n0_ := Aside0.mk (Kd.R_below (by (with_reducible repeat (first | apply Kd.R_alloc | apply Kd.R_drewN | apply Kd.R_drew)); exact HO182.out) hb); have n1_ := Aside0.mk (Kd.R_below (by (with_reducible repeat (first | apply Kd.R_alloc | apply Kd.R_drewN | apply Kd.R_drew)); exact HO187.out) hb); have n2_ := Aside0.mk (below_step (by repeat (first | (with_reducible first | exact HB.out | apply below_alloc | apply pw_below_drewN | apply below_drew1) | exact HB.out)) hb); clear HO182; clear HO187; clear HB; have HO182 := n0_; have HO187 := n1_; have HB := n2_; clear n0_ n1_ n2_; (try clear hb); (try clear hb2); (try clear hk); (try clear hi)) | (go_at_call 16; (with_reducible refine (trefoilref15_Horizon.calls kj15 _ _ l0 t189 _ ?side1 ?side2 A40.out).mono ?_); (case side1 => repeat (first | exact (Kd.C_below HR0.out HB.out) | (with_reducible refine Kd.C_alloc ?_ _) | (with_reducible refine Kd.C_drewN ?_ _) | (with_reducible refine Kd.C_drew ?_))); (case side2 => exact HC0.out); rintro e w48 ⟨rfl, hb⟩; have n0_ := Aside0.mk (Kd.R_below (by (with_reducible repeat (first | apply Kd.R_alloc | apply Kd.R_drewN | apply Kd.R_drew)); exact HO182.out) hb); have n1_ := Aside0.mk (Kd.R_below (by (with_reducible repeat (first | apply Kd.R_alloc | apply Kd.R_drewN | apply Kd.R_drew)); exact HO187.out) hb); have n2_ := Aside0.mk (below_step (by repeat (first | (with_reducible first | exact HB.out | apply below_alloc | apply pw_below_drewN | apply below_drew1) | exact HB.out)) hb); clear HO182; clear HO187; clear HB; have HO182 := n0_; have HO187 := n1_; have HB := n2_; clear n0_ n1_ n2_; (try clear hb); (try clear hb2); (try clear hk); (try clear hi)))
                    go_meet
                    case rel => exact ⟨_, ((t188 != t189)), (by first | rfl | (simp; done) | (simp [*]; done)), H', ⟨by have := HJ2.out; have := HJ15.out; first | omega | exact Nat.le_refl _⟩, ⟨by repeat (first | (with_reducible first | exact HB.out | apply below_alloc | apply pw_below_drewN | apply below_drew1) | exact HB.out)⟩⟩
                · rw [if_neg c29] at H
                  have c29b0 : (t178 == x9_15) = false := beq_eq_false_iff_ne.mpr c29
                  have c29b1 : (t178 != x9_15) = true := bne_iff_ne.mpr c29
                  have H' := Aside0.mk H
                  clear H
                  go_wp2
                  go_meet
                  case rel => exact ⟨_, (true), (by first | rfl | (simp; done) | (simp [*]; done)), H', ⟨by have := HJ2.out; have := HJ15.out; first | omega | exact Nat.le_refl _⟩, ⟨by repeat (first | (with_reducible first | exact HB.out | apply below_alloc | apply pw_below_drewN | apply below_drew1) | exact HB.out)⟩⟩
              · rw [if_neg c28] at H
                have c28b0 : (t173 == x9_15) = false := beq_eq_false_iff_ne.mpr c28
                have c28b1 : (t173 != x9_15) = true := bne_iff_ne.mpr c28
                (first | rw [c28b0] | (simp only [i64_w, i32_w]; rw [c28b0]) | skip)
                have H' := Aside0.mk H
                clear H
                go_wp2
                go_meet
                case rel => exact ⟨_, (true), (by first | rfl | (simp; done) | (simp [*]; done)), H', ⟨by have := HJ2.out; have := HJ15.out; first | omega | exact Nat.le_refl _⟩, ⟨by repeat (first | (with_reducible first | exact HB.out | apply below_alloc | apply pw_below_drewN | apply below_drew1) | exact HB.out)⟩⟩
            case rest =>
              clear HC27
              try clear c1
              try clear c2
              try clear p2
              try clear c3
              try clear c5
              try clear c8
              try clear c9
              try clear c10
              try clear c11
              try clear c12
              try clear c13
              try clear c24
              try clear c25
              try clear c25b0
              try clear c26
              try clear c26b0
              try clear c28
              try clear c28b0
              try clear c28b1
              try clear c29
              try clear c29b0
              try clear c29b1
              try clear c33
              try clear c33b0
              try clear c33b1
              try clear c33b2
              try clear p2
              obtain ⟨kq, x65_26, rfl, HA, HJ26, HB⟩ := hcut
              cases kq with
              | zero => exact absurd HA.out (by simp [trefoillaw15_EdfTells.j2])
              | succ kj26 =>
                have H := HA.out
                clear HA
                simp only [trefoillaw15_EdfTells.j2] at H
                by_cases c49 : x65_26 = true
                · subst c49
                  have H1 : (some false) = some r := by rw [if_pos rfl] at H; exact H
                  clear H
                  have H := H1
                  clear H1
                  obtain rfl := Option.some.inj H
                  go_wp2
                  go_ret
                  exact ⟨by first | rfl | (simp [errW_none, errW_some] <;> rfl) | (simp [*, errW_none, errW_some] <;> rfl), by repeat (first | (with_reducible first | exact HB.out | apply below_alloc | apply pw_below_drewN | apply below_drew1) | exact HB.out)⟩
                · replace c49 := Bool.eq_false_iff.mpr c49
                  subst c49
                  have H1 : (if x9_15 = 0 then ((trefoilref15_Demand.f kj26 l0 a1).bind fun t190 => (if t172 = t190 then ((trefoilref15_Block.f kj26 l0 a1).bind fun t191 => (some (t177 == t191))) else (some false))) else (if t172 = 0 then (if t177 = 0 then (some true) else (some false)) else (some false))) = some r := by rw [if_neg (show ¬ (false = true) by decide)] at H; exact H
                  clear H
                  have H := H1
                  clear H1
                  by_cases c50 : x9_15 = 0
                  · rw [if_pos c50] at H
                    have c50b0 : (x9_15 == 0) = true := beq_iff_eq.mpr c50
                    have c50b1 : (x9_15 != 0) = false := bne_eq_false_iff_eq.mpr c50
                    clear c50
                    replace H := Option.bind_eq_some_iff.mp H
                    obtain ⟨t190, A510, H⟩ := H
                    replace H : (if t172 = t190 then ((trefoilref15_Block.f kj26 l0 a1).bind fun t191 => (some (t177 == t191))) else (some false)) = some r := H
                    have A51 := Aside0.mk A510
                    clear A510
                    by_cases c52 : t172 = t190
                    · rw [if_pos c52] at H
                      have c52b0 : (t172 == t190) = true := beq_iff_eq.mpr c52
                      have c52b1 : (t172 != t190) = false := bne_eq_false_iff_eq.mpr c52
                      clear c52
                      replace H := Option.bind_eq_some_iff.mp H
                      obtain ⟨t191, A530, H⟩ := H
                      replace H : (some (t177 == t191)) = some r := H
                      have A53 := Aside0.mk A530
                      clear A530
                      obtain rfl := Option.some.inj H
                      go_wp2_with (first | (go_at_call 17; (with_reducible refine (trefoilref15_Demand.calls kj26 _ _ l0 a1 t190 _ ?side1 ?side2 A51.out).mono ?_); (case side1 => repeat (first | exact (Kd.C_below HR0.out HB.out) | (with_reducible refine Kd.C_alloc ?_ _) | (with_reducible refine Kd.C_drewN ?_ _) | (with_reducible refine Kd.C_drew ?_))); (case side2 => exact HC0.out); rintro e w' ⟨rfl, ⟨nd, rfl⟩⟩) | (go_at_call 18; (with_reducible refine (trefoilref15_Block.calls kj26 _ _ l0 a1 t191 _ ?side1 ?side2 A53.out).mono ?_); (case side1 => repeat (first | exact (Kd.C_below HR0.out (by repeat (first | (with_reducible first | exact HB.out | apply below_alloc | apply pw_below_drewN | apply below_drew1) | exact HB.out))) | (with_reducible refine Kd.C_alloc ?_ _) | (with_reducible refine Kd.C_drewN ?_ _) | (with_reducible refine Kd.C_drew ?_))); (case side2 => exact HC0.out); rintro e w54 ⟨rfl, hb⟩; have n0_ := Aside0.mk (below_step (by repeat (first | (with_reducible first | exact HB.out | apply below_alloc | apply pw_below_drewN | apply below_drew1) | exact HB.out)) hb); clear HB; have HB := n0_; clear n0_; (try clear hb); (try clear hb2); (try clear hk); (try clear hi)))
                      go_ret
                      exact ⟨by first | rfl | (simp [errW_none, errW_some] <;> rfl) | (simp [*, errW_none, errW_some] <;> rfl), by repeat (first | (with_reducible first | exact HB.out | apply below_alloc | apply pw_below_drewN | apply below_drew1) | exact HB.out)⟩
                    · rw [if_neg c52] at H
                      have c52b0 : (t172 == t190) = false := beq_eq_false_iff_ne.mpr c52
                      have c52b1 : (t172 != t190) = true := bne_iff_ne.mpr c52
                      obtain rfl := Option.some.inj H
                      go_wp2_with (first | (go_at_call 17; (with_reducible refine (trefoilref15_Demand.calls kj26 _ _ l0 a1 t190 _ ?side1 ?side2 A51.out).mono ?_); (case side1 => repeat (first | exact (Kd.C_below HR0.out HB.out) | (with_reducible refine Kd.C_alloc ?_ _) | (with_reducible refine Kd.C_drewN ?_ _) | (with_reducible refine Kd.C_drew ?_))); (case side2 => exact HC0.out); rintro e w' ⟨rfl, ⟨nd, rfl⟩⟩))
                      go_ret
                      exact ⟨by first | rfl | (simp [errW_none, errW_some] <;> rfl) | (simp [*, errW_none, errW_some] <;> rfl), by repeat (first | (with_reducible first | exact HB.out | apply below_alloc | apply pw_below_drewN | apply below_drew1) | exact HB.out)⟩
                  · rw [if_neg c50] at H
                    have c50b0 : (x9_15 == 0) = false := beq_eq_false_iff_ne.mpr c50
                    have c50b1 : (x9_15 != 0) = true := bne_iff_ne.mpr c50
                    by_cases c55 : t172 = 0
                    · rw [if_pos c55] at H
                      have c55b0 : (t172 == 0) = true := beq_iff_eq.mpr c55
                      have c55b1 : (t172 != 0) = false := bne_eq_false_iff_eq.mpr c55
                      clear c55
                      by_cases c56 : t177 = 0
                      · rw [if_pos c56] at H
                        have c56b0 : (t177 == 0) = true := beq_iff_eq.mpr c56
                        have c56b1 : (t177 != 0) = false := bne_eq_false_iff_eq.mpr c56
                        clear c56
                        obtain rfl := Option.some.inj H
                        go_wp2
                        go_ret
                        exact ⟨by first | rfl | (simp [errW_none, errW_some] <;> rfl) | (simp [*, errW_none, errW_some] <;> rfl), by repeat (first | (with_reducible first | exact HB.out | apply below_alloc | apply pw_below_drewN | apply below_drew1) | exact HB.out)⟩
                      · rw [if_neg c56] at H
                        have c56b0 : (t177 == 0) = false := beq_eq_false_iff_ne.mpr c56
                        have c56b1 : (t177 != 0) = true := bne_iff_ne.mpr c56
                        obtain rfl := Option.some.inj H
                        go_wp2
                        go_ret
                        exact ⟨by first | rfl | (simp [errW_none, errW_some] <;> rfl) | (simp [*, errW_none, errW_some] <;> rfl), by repeat (first | (with_reducible first | exact HB.out | apply below_alloc | apply pw_below_drewN | apply below_drew1) | exact HB.out)⟩
                    · rw [if_neg c55] at H
                      have c55b0 : (t172 == 0) = false := beq_eq_false_iff_ne.mpr c55
                      have c55b1 : (t172 != 0) = true := bne_iff_ne.mpr c55
                      obtain rfl := Option.some.inj H
                      go_wp2
                      go_ret
                      exact ⟨by first | rfl | (simp [errW_none, errW_some] <;> rfl) | (simp [*, errW_none, errW_some] <;> rfl), by repeat (first | (with_reducible first | exact HB.out | apply below_alloc | apply pw_below_drewN | apply below_drew1) | exact HB.out)⟩

end Go.Proofs.YtjbmogipdoiebaaDoor.Q
