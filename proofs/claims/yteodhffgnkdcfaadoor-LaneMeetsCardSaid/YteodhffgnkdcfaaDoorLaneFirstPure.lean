/- Plain facts: who runs next is due first. No memory and no Go in it. -/
import Derived.Test.YteodhffgnkdcfaaDoorLaneTickPure
set_option linter.unusedVariables false
set_option linter.unusedSimpArgs false
namespace Go.Proofs.YteodhffgnkdcfaaDoor.Q
open Go.RowKit Go.Proofs.YteodhffgnkdcfaaDoorW.PrintWords Go.Proofs.YteodhffgnkdcfaaDoorW.PrintLast Go.Proofs.YteodhffgnkdcfaaDoorW.PrintMore

/-- Due ahead. -/
def ahead (x y : J3) : Prop := x.f1 < y.f1 ∨ x.f1 = y.f1 ∧ x.f0 < y.f0
theorem cmpJ_neg {x y : J3} (hx : 0 ≤ x.f0 ∧ x.f0 < 8) (hy : 0 ≤ y.f0 ∧ y.f0 < 8) : cmpJ x y < 0 ↔ ahead x y := by
  unfold cmpJ ahead
  by_cases c1 : x.f1 < y.f1
  · rw [if_pos c1]; exact ⟨fun _ => .inl c1, fun _ => by decide⟩
  · rw [if_neg c1]
    by_cases c2 : x.f1 > y.f1
    · rw [if_pos c2]
      exact ⟨fun h => absurd h (by decide), fun h => by omega⟩
    · rw [if_neg c2, lw64 (by omega) (by omega)]
      exact ⟨fun h => .inr ⟨by omega, by omega⟩, fun h => by omega⟩
theorem min_first {l : List J3} (hok : ∀ x ∈ l, 0 ≤ x.f0 ∧ x.f0 < 8) (hne : l ≠ []) : ∀ y ∈ l, ¬ ahead y (minP z41 cmpJ l) := by
  have key : ∀ (ys : List J3) (m : J3), (0 ≤ m.f0 ∧ m.f0 < 8) → (∀ x ∈ ys, 0 ≤ x.f0 ∧ x.f0 < 8) → ¬ ahead m (ys.foldl (fun m y => if cmpJ y m < 0 then y else m) m) ∧ ∀ y ∈ ys, ¬ ahead y (ys.foldl (fun m y => if cmpJ y m < 0 then y else m) m) := by
    intro ys
    induction ys with
    | nil => intro m _ _; exact ⟨fun h => by unfold ahead at h; simp only [List.foldl_nil] at h; omega, fun y hy => by cases hy⟩
    | cons y ys ih =>
      intro m hm hys
      have hy := hys y List.mem_cons_self
      rw [List.foldl_cons]
      by_cases c : cmpJ y m < 0
      · rw [if_pos c]
        have hc := (cmpJ_neg hy hm).1 c
        obtain ⟨h1, h2⟩ := ih y hy (fun x hx => hys x (List.mem_cons_of_mem _ hx))
        generalize ys.foldl (fun m y => if cmpJ y m < 0 then y else m) y = r at *
        refine ⟨fun h => h1 ?_, fun x hx => ?_⟩
        · unfold ahead at *; omega
        · rcases List.mem_cons.1 hx with rfl | hx
          · exact h1
          · exact h2 x hx
      · rw [if_neg c]
        have hc : ¬ ahead y m := fun h => c ((cmpJ_neg hy hm).2 h)
        obtain ⟨h1, h2⟩ := ih m hm (fun x hx => hys x (List.mem_cons_of_mem _ hx))
        generalize ys.foldl (fun m y => if cmpJ y m < 0 then y else m) m = r at *
        refine ⟨h1, fun x hx => ?_⟩
        rcases List.mem_cons.1 hx with rfl | hx
        · intro h; apply h1; unfold ahead at *; omega
        · exact h2 x hx
  match l, hne with
  | x :: xs, _ =>
    intro y hy
    obtain ⟨h1, h2⟩ := key xs x (hok x List.mem_cons_self) (fun y hy => hok y (List.mem_cons_of_mem _ hy))
    unfold minP
    rcases List.mem_cons.1 hy with rfl | hy
    · exact h1
    · exact h2 y hy
/-- Two jobs of one task are one. -/
theorem same_task {l : List J3} (h : l.Pairwise (fun a b => a.f0 < b.f0)) {x y : J3} (hx : x ∈ l) (hy : y ∈ l) (e : x.f0 = y.f0) : x = y := by
  obtain ⟨i, hi, rfl⟩ := List.mem_iff_getElem.1 hx
  obtain ⟨j, hj, rfl⟩ := List.mem_iff_getElem.1 hy
  rw [List.pairwise_iff_getElem] at h
  rcases Nat.lt_trichotomy i j with c | c | c
  · have := h i j hi hj c; omega
  · subst c; rfl
  · have := h j i hj hi c; omega
/-- Nobody is due ahead of who runs next. -/
theorem first_law {l : List J3} {run : Int} (h : okL l run) {a b : J3} (ha : a ∈ l) (hb : b ∈ l) (hr : run = -1) (hn : a.f0 = nextV l run) : ¬ ahead b a := by
  have hne : l ≠ [] := fun e => by rw [e] at ha; cases ha
  have hm : nextV l run = (minP z41 cmpJ l).f0 := by unfold nextV; rw [if_pos ⟨hr, hne⟩]
  have := same_task h.2.1 ha (minP_mem z41 cmpJ l hne) (by rw [hn, hm])
  rw [this]
  exact min_first (fun x hx => ⟨(h.1 x hx).1, (h.1 x hx).2.1⟩) hne b hb
end Go.Proofs.YteodhffgnkdcfaaDoor.Q
