/- Plain facts: a tick takes one from what is left. No memory and no Go in it. -/
import Derived.Test.YteodhffgnkdcfaaDoorQx17
import Derived.Test.YteodhffgnkdcfaaDoorLanePure
set_option linter.unusedVariables false
set_option linter.unusedSimpArgs false
namespace Go.Proofs.YteodhffgnkdcfaaDoor.Q
open Go.RowKit Go.Proofs.YteodhffgnkdcfaaDoorW.PrintWords Go.Proofs.YteodhffgnkdcfaaDoorW.PrintLast Go.Proofs.YteodhffgnkdcfaaDoorW.PrintMore

/-- All that is left. -/
def totL (l : List J3) : Int := (l.map (fun x => x.f2.sum)).sum
theorem totL_cons (x : J3) (l : List J3) : totL (x :: l) = x.f2.sum + totL l := by unfold totL; rw [List.map_cons, List.sum_cons]
theorem sum_bounds : ∀ {l : List Int}, (∀ n ∈ l, 1 ≤ n ∧ n ≤ 1000) → (l.length : Int) ≤ l.sum ∧ l.sum ≤ 1000 * l.length
  | [], _ => by simp
  | a :: l, h => by
    have h1 := h a List.mem_cons_self
    have h2 := sum_bounds (l := l) (fun n hn => h n (List.mem_cons_of_mem _ hn))
    rw [List.sum_cons, List.length_cons]
    omega
theorem okJ.sum {x : J3} (h : okJ x) : 1 ≤ x.f2.sum ∧ x.f2.sum ≤ 64000 := by
  unfold okJ at h
  have := sum_bounds h.2.2.2.2.2.2
  omega
theorem totL_bounds : ∀ {l : List J3}, (∀ x ∈ l, okJ x) → (l.length : Int) ≤ totL l ∧ totL l ≤ 64000 * l.length
  | [], _ => by simp [totL]
  | a :: l, h => by
    have h1 := (h a List.mem_cons_self).sum
    have h2 := totL_bounds (l := l) (fun n hn => h n (List.mem_cons_of_mem _ hn))
    rw [totL_cons, List.length_cons]
    omega
theorem drop_sum {l : List Int} {q : Nat} (h : q < l.length) : (l.drop q).sum = l.getD q 0 + (l.drop (q + 1)).sum := by
  rw [List.drop_eq_getElem_cons h, List.sum_cons, List.getD_eq_getElem?_getD, List.getElem?_eq_getElem h]; rfl
theorem drop_tot {l : List J3} {q : Nat} (h : q < l.length) : totL (l.drop q) = (l.getD q z41).f2.sum + totL (l.drop (q + 1)) := by
  rw [List.drop_eq_getElem_cons h, totL_cons, getD_lt h]
theorem set_ok {l : List J3} {n : Nat} {x : J3} (hn : n < l.length) (hl : (∀ x ∈ l, okJ x) ∧ l.Pairwise (fun a b => a.f0 < b.f0)) (hx : okJ x) (h0 : x.f0 = (l.getD n z41).f0) : (∀ y ∈ l.set n x, okJ y) ∧ (l.set n x).Pairwise (fun a b => a.f0 < b.f0) := by
  refine ⟨fun y hy => ?_, ?_⟩
  · rcases List.mem_or_eq_of_mem_set hy with h | h
    · exact hl.1 y h
    · rw [h]; exact hx
  · have e : (l.set n x).map (·.f0) = l.map (·.f0) := by
      rw [List.map_set]
      refine List.ext_getElem (by simp) (fun q h1 h2 => ?_)
      rw [List.getElem_set]
      split
      · next h =>
        subst h
        rw [h0, getD_lt hn, List.getElem_map]
      · rfl
    have h2 := hl.2
    rw [← List.pairwise_map (f := fun a : J3 => a.f0) (R := fun a b => a < b)] at h2 ⊢
    rw [e]
    exact h2
theorem hasT_set {l : List J3} {n : Nat} {x : J3} (hn : n < l.length) : hasT (l.set n x) x.f0 := ⟨x, by
  rw [List.mem_iff_getElem]
  exact ⟨n, by rw [List.length_set]; exact hn, by rw [List.getElem_set_self]⟩, rfl⟩
theorem tot_set : ∀ {l : List J3} {n : Nat} {x : J3}, n < l.length → totL (l.set n x) = totL l - (l.getD n z41).f2.sum + x.f2.sum
  | [], n, x, h => by simp at h
  | y :: l, 0, x, h => by
    rw [List.set_cons_zero, totL_cons, totL_cons]
    show _ = y.f2.sum + totL l - y.f2.sum + _
    omega
  | y :: l, n + 1, x, h => by
    rw [List.set_cons_succ, totL_cons, totL_cons, tot_set (l := l) (n := n) (x := x) (by simpa using h)]
    show _ = y.f2.sum + totL l - (l.getD n z41).f2.sum + x.f2.sum
    omega
theorem tot_erase : ∀ {l : List J3} {n : Nat}, n < l.length → totL (l.eraseIdx n) = totL l - (l.getD n z41).f2.sum
  | [], n, h => by simp at h
  | y :: l, 0, h => by
    rw [List.eraseIdx_cons_zero, totL_cons]
    show _ = y.f2.sum + totL l - y.f2.sum
    omega
  | y :: l, n + 1, h => by
    rw [List.eraseIdx_cons_succ, totL_cons, totL_cons, tot_erase (l := l) (n := n) (by simpa using h)]
    show _ = y.f2.sum + totL l - (l.getD n z41).f2.sum
    omega
theorem erase_ok {l : List J3} {n : Nat} (hl : (∀ x ∈ l, okJ x) ∧ l.Pairwise (fun a b => a.f0 < b.f0)) : (∀ y ∈ l.eraseIdx n, okJ y) ∧ (l.eraseIdx n).Pairwise (fun a b => a.f0 < b.f0) :=
  ⟨fun y hy => hl.1 y (List.mem_of_mem_eraseIdx hy), hl.2.sublist (List.eraseIdx_sublist l n)⟩
theorem nextV_has {l : List J3} {run : Int} (h : okL l run) (hne : l ≠ []) : hasT l (nextV l run) := by
  unfold nextV
  by_cases c : run = -1 ∧ l ≠ []
  · rw [if_pos c]
    exact ⟨_, minP_mem _ _ _ hne, rfl⟩
  · rw [if_neg c]
    rcases h.2.2 with h2 | h2
    · exact absurd ⟨h2, hne⟩ c
    · exact h2
theorem okL.run {l : List J3} {run : Int} (h : okL l run) : run = -1 ∨ 0 ≤ run := by
  rcases h.2.2 with h2 | ⟨x, hx, e⟩
  · exact .inl h2
  · have := (h.1 x hx).1
    exact .inr (by omega)
theorem tick_none {run : Int} {k : Nat} (hk : 1000 < k) (h : okL [] run) : lane_Tick.f k [] run = some ([], -1, -1, false, false, 0) := by
  have hr : run = -1 := by
    rcases h.2.2 with h2 | ⟨x, hx, e⟩
    · exact h2
    · cases hx
  subst hr
  unfold lane_Tick.f
  rw [check_yes (by simp) hk h]
  simp only [Option.bind_some, if_true]
  rw [if_pos h.own, if_pos (by unfold nextV; simp)]
/-- A tick of a lane in which something is left. -/
theorem tick_step {l : List J3} {run : Int} {k : Nat} (hk : 1000 < k) (h : okL l run) (hne : l ≠ []) : ∃ y r' s nd al, lane_Tick.f k l run = some (y, r', s, nd, al, 0) ∧ okL y r' ∧ totL y = totL l - 1 ∧ 0 ≤ s ∧ (0 ≤ run → s = run) ∧ r' = (if nd = true then -1 else s) ∧ (al = true ↔ y.length + 1 = l.length) ∧ (al = true → nd = true) ∧ y.length ≤ l.length := by
  have hs := nextV_has h hne
  obtain ⟨s, hse⟩ : ∃ s, nextV l run = s := ⟨_, rfl⟩
  rw [hse] at hs
  have hs0 : 0 ≤ s := by
    obtain ⟨x, hx, e⟩ := hs
    have := (h.1 x hx).1
    omega
  have hsr : 0 ≤ run → s = run := fun h2 => by
    rw [← hse]
    unfold nextV
    rw [if_neg (fun h3 => by omega)]
  have hf : ¬ findI l s < 0 := fun h2 => (findI_neg l s).1 h2 hs
  obtain ⟨n, hnf, hnl, hnt⟩ := findI_at hf
  have hx := h.1 _ (mem_getD (z := z41) hnl)
  obtain ⟨x0, x1, g, tl, hxe⟩ : ∃ x0 x1 g tl, l.getD n z41 = ⟨x0, x1, g :: tl⟩ := by
    have h1 := hx.2.2.2.2.1
    match hh : l.getD n z41, h1 with
    | ⟨x0, x1, g :: tl⟩, _ => exact ⟨x0, x1, g, tl, rfl⟩
  have hsum : (l.getD n z41).f2.sum = g + tl.sum := by rw [hxe]; exact List.sum_cons
  have hx' := hx
  rw [hxe] at hx' hnt
  have hnt : x0 = s := hnt
  subst hnt
  have hg : 1 ≤ g ∧ g ≤ 1000 := hx'.2.2.2.2.2.2 g List.mem_cons_self
  have htl : ∀ q ∈ tl, 1 ≤ q ∧ q ≤ 1000 := fun q hq => hx'.2.2.2.2.2.2 q (List.mem_cons_of_mem _ hq)
  have hlen : tl.length + 1 ≤ 64 := hx'.2.2.2.2.2.1
  have hw : wrap64 (g - 1) = g - 1 := lw64 (by omega) (by omega)
  have hT : lane_Tick.f k l run = some (tickV l x0 n) := by
    unfold lane_Tick.f
    rw [check_yes (by have := h.len; omega) hk h]
    simp only [Option.bind_some, if_true]
    rw [if_pos h.own, hse, if_neg (by omega), if_neg hf, hnf, Int.toNat_natCast]
  have hb := totL_bounds h.1
  by_cases c1 : g - 1 = 0
  · by_cases c2 : tl = []
    · refine ⟨l.eraseIdx n, -1, x0, true, true, ?_, ⟨(erase_ok ⟨h.1, h.2.1⟩).1, (erase_ok ⟨h.1, h.2.1⟩).2, .inl rfl⟩, ?_, hs0, hsr, rfl, ?_, fun _ => rfl, ?_⟩
      · rw [hT]
        unfold tickV
        rw [hxe]
        show some (if wrap64 (g - 1) = 0 then (if tl = [] then _ else _) else _) = _
        rw [hw, if_pos c1, if_pos c2]
      · rw [tot_erase hnl, hsum, c2]
        simp
        omega
      · rw [List.length_eraseIdx_of_lt hnl]
        exact ⟨fun _ => by omega, fun _ => rfl⟩
      · rw [List.length_eraseIdx_of_lt hnl]; omega
    · have hok : okJ ⟨x0, x1, tl⟩ := ⟨hx'.1, hx'.2.1, hx'.2.2.1, hx'.2.2.2.1, by have := List.length_pos_iff.2 c2; show 1 ≤ tl.length; omega, by show tl.length ≤ 64; omega, htl⟩
      have hs2 := set_ok hnl ⟨h.1, h.2.1⟩ hok (by rw [hxe])
      refine ⟨l.set n ⟨x0, x1, tl⟩, -1, x0, true, false, ?_, ⟨hs2.1, hs2.2, .inl rfl⟩, ?_, hs0, hsr, rfl, ?_, fun _ => rfl, ?_⟩
      · rw [hT]
        unfold tickV
        rw [hxe]
        show some (if wrap64 (g - 1) = 0 then (if tl = [] then _ else _) else _) = _
        rw [hw, if_pos c1, if_neg c2]
        rfl
      · rw [tot_set hnl, hsum]
        show _ - _ + tl.sum = _
        omega
      · rw [List.length_set]
        exact ⟨fun h2 => (by cases h2), fun h2 => by omega⟩
      · rw [List.length_set]; exact Nat.le_refl _
  · have hok : okJ ⟨x0, x1, (g - 1) :: tl⟩ := ⟨hx'.1, hx'.2.1, hx'.2.2.1, hx'.2.2.2.1, by show 1 ≤ tl.length + 1; omega, by show tl.length + 1 ≤ 64; omega, fun q hq => by
      rcases List.mem_cons.1 hq with rfl | hq
      · omega
      · exact htl q hq⟩
    have hs2 := set_ok hnl ⟨h.1, h.2.1⟩ hok (by rw [hxe])
    refine ⟨l.set n ⟨x0, x1, (g - 1) :: tl⟩, x0, x0, false, false, ?_, ⟨hs2.1, hs2.2, .inr (hasT_set (x := ⟨x0, x1, (g - 1) :: tl⟩) hnl)⟩, ?_, hs0, hsr, rfl, ?_, fun h2 => (by cases h2), ?_⟩
    · rw [hT]
      unfold tickV
      rw [hxe]
      show some (if wrap64 (g - 1) = 0 then _ else (l.set n ⟨x0, x1, wrap64 (g - 1) :: tl⟩, x0, x0, false, false, 0)) = _
      rw [hw, if_neg c1]
    · rw [tot_set hnl, hsum]
      show _ - _ + ((g - 1) :: tl).sum = _
      rw [List.sum_cons]
      omega
    · rw [List.length_set]
      exact ⟨fun h2 => (by cases h2), fun h2 => by omega⟩
    · rw [List.length_set]; exact Nat.le_refl _
end Go.Proofs.YteodhffgnkdcfaaDoor.Q
