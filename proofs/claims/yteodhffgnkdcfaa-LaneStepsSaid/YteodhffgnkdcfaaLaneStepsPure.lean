/- Plain facts for the law of the steps. -/
import Derived.Test.YteodhffgnkdcfaaLaneRTick
import Derived.Test.YteodhffgnkdcfaaLaneRSame
import Derived.Test.YteodhffgnkdcfaaQx17
set_option linter.unusedVariables false
set_option linter.unusedSimpArgs false
namespace Go.Proofs.Yteodhffgnkdcfaa.Q
open Go.RowKit Go.Proofs.YteodhffgnkdcfaaW.PrintWords Go.Proofs.YteodhffgnkdcfaaW.PrintLast Go.Proofs.YteodhffgnkdcfaaW.PrintMore
attribute [local go_sem] max2_int min2_int max_two min_two max_three min_three max_four min_four
theorem lsame_eq {l m : List J3} {a b : Int} {k : Nat} (h2 : ∀ x ∈ l, x.f2.length ≤ 1000) (hk : 1000 < k) : lane_Same.f k l a m b = some (sameL l a m b) := by
  have e : ∀ x ∈ l, ∀ y ∈ m, lane_Same_1.f k x.f0 x.f1 x.f2 y.f0 y.f1 y.f2 = some (sameB k x y) := fun x hx y hy => by
    unfold sameB
    rw [jobs_same (h2 x hx) hk]; rfl
  unfold lane_Same.f
  by_cases c : a = b
  · rw [if_pos c, if_pos e]
    congr 1
    by_cases d : l.length = m.length
    · by_cases hq : l = m
      · rw [sameL_yes hq c]
        subst hq
        refine eqP_all (z := z27) rfl (fun q hq => ?_)
        have hm := mem_getD (z := z27) hq
        unfold sameB
        rw [jobs_same (h2 _ hm) hk]
        simp
      · rw [sameL_no (fun h => hq h.1)]
        obtain ⟨q, hq1, hq2⟩ : ∃ q, q < l.length ∧ l.getD q z27 ≠ m.getD q z27 := by
          apply Classical.byContradiction
          intro hn
          refine hq (List.ext_getElem d (fun q h1 h3 => ?_))
          have := Classical.byContradiction (fun h4 => hn ⟨q, h1, h4⟩)
          rwa [getD_lt h1, getD_lt h3] at this
        refine eqP_at (z := z27) hq1 (by omega) ?_
        unfold sameB
        rw [jobs_same (h2 _ (mem_getD hq1)) hk]
        show decide _ = false
        exact decide_eq_false (fun h => hq2 (job_ext h.1 h.2.1 h.2.2))
    · rw [sameL_no (fun h => d (by rw [h.1]))]
      exact eqP_len d
  · rw [if_neg c, sameL_no (fun h => c h.2)]
theorem lnext_no {l : List J3} {run : Int} {k : Nat} (hl : l.length ≤ 1000) (hk : 1000 < k) (h : ¬ okL l run) : lane_Next.f k l run = some (-1) := by
  unfold lane_Next.f
  rw [check_no hl hk h]
  rfl
/-- Whether it may be, and who is next. -/
theorem lane_tells {l : List J3} {run : Int} {k : Nat} (hl : l.length ≤ 500) (h2 : ∀ x ∈ l, x.f2.length ≤ 1000) (hk : 2000 < k) : ∃ (c : Int) (is : Bool) (n : Int), lane_Check.f k l run = some c ∧ trefoilref18_Check.f k l run = some is ∧ lane_Next.f k l run = some n ∧ (c == 0) = is ∧ (is = true → trefoilref18_Next.f k l run = some n) ∧ (is = false → n = -1) := by
  by_cases h : okL l run
  · exact ⟨0, true, nextV l run, check_yes (by omega) (by omega) h, rcheck_yes hl h2 hk h, lnext_yes (by omega) h, rfl, fun _ => rnext h (by omega), fun e => by cases e⟩
  · exact ⟨180, false, -1, check_no (by omega) (by omega) h, rcheck_no hl h2 hk h, lnext_no (by omega) (by omega) h, rfl, fun e => (by cases e), fun _ => rfl⟩
theorem tick_some {l : List J3} {run : Int} {k : Nat} (hl : l.length ≤ 500) (hk : 2000 < k) : ∃ X R s nd al E, lane_Tick.f k l run = some (X, R, s, nd, al, E) ∧ ∀ x ∈ X, x.f2.length ≤ 1000 := by
  by_cases h : okL l run
  · by_cases hne : l = []
    · subst hne
      have ha : run = -1 := by
        rcases h.2.2 with h3 | ⟨x, hx, _⟩
        · exact h3
        · cases hx
      subst ha
      exact ⟨_, _, _, _, _, _, tick_none (by omega) h, fun x hx => by cases hx⟩
    · obtain ⟨n, x0, x1, g, tl, y, r', nd, al, hT, hy, -⟩ := tick_tells (k := k) (by omega) h hne
      exact ⟨_, _, _, _, _, _, hT, hy.left⟩
  · exact ⟨[], 0, 0, false, false, 180, by unfold lane_Tick.f; rw [check_no (by omega) (by omega) h]; rfl, fun x hx => by cases hx⟩
theorem rsame_true {A0 : Option Addr} {c0 : Nat} {l : List J3} {a : Int} {A1 : Option Addr} {c1 : Nat} (w : World) (hr0 : Kd.C k27 w A0 l.length l) (hr1 : Kd.C k27 w A1 l.length l) (hl : ∀ x ∈ l, x.f2.length ≤ 1000) :
    Calls Try.prog 19 #[.agg #[.slice A0 l.length c0, .int .i64 a], .agg #[.slice A1 l.length c1, .int .i64 a]] w fun e w' => e = .returned (.bool true) ∧ Below w.heap.size w w' := by
  have h := rsame_calls A0 c0 l a A1 c1 l a w hr0 hr1 hl
  rw [sameL_yes rfl rfl] at h
  exact h
/-- What the document gave: it leads to old memory and to new. -/
theorem Sx.val2 {α : Type} {d : Kd α} {w W W' : World} {L : List (Nat × Array Value × Nat)} {Fs : List (World → Prop)} {e base : Nat} {v : Value} {xs : List α} (s : Sx w L Fs W) (b : Below W.heap.size W W') (h : Kd.V d e W' base (fun k => k < w.heap.size ∨ W.heap.size ≤ k) v xs) : ∃ A c, v = .slice A xs.length c ∧ xs.length ≤ c ∧ Sx w L ((fun W_ => Kd.C d W_ A xs.length xs) :: Fs) W' := by
  obtain ⟨A, c, hv, hl, hf⟩ := h
  refine ⟨A, c, hv, hl, s.foot b (Foot.mono hf (fun k hk => hk.elim (fun h => .inl (fun i x hx e => ?_)) .inr))⟩
  have := (s.bx i x hx).2
  omega
theorem old_V {w W : World} {A : Option Addr} {c : Nat} {l : List J3} (h : Kd.C k27 w A l.length l) (hc : l.length ≤ c) (b : Below w.heap.size w W) : Kd.V k27 27 W W.heap.size (fun k => k < w.heap.size) (.slice A l.length c) l :=
  ⟨A, c, rfl, hc, (Kd.C_F k27_heap h).step (fun k hk _ => b.block k hk)⟩
theorem old_VI {w W : World} {A : Option Addr} {c : Nat} {l : List Int} (h : Kd.C (Kd.int .i64) w A l.length l) (hc : l.length ≤ c) (b : Below w.heap.size w W) : Kd.V (Kd.int .i64) 3 W W.heap.size (fun k => k < w.heap.size) (.slice A l.length c) l :=
  ⟨A, c, rfl, hc, (Kd.C_F (Kd.heap_int .i64) h).step (fun k hk _ => b.block k hk)⟩
end Go.Proofs.Yteodhffgnkdcfaa.Q
