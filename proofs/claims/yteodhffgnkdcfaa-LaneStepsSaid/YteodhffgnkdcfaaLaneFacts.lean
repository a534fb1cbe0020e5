/- Plain facts, of several texts. -/
import Derived.Test.YteodhffgnkdcfaaQx24
import Derived.Test.YteodhffgnkdcfaaQx16
import Derived.Test.YteodhffgnkdcfaaLanePure
import Derived.Test.YteodhffgnkdcfaaQx20
import Derived.Test.YteodhffgnkdcfaaQx21
import Derived.Test.YteodhffgnkdcfaaLaneMore2
/- Plain facts: a tick takes one from what is left. No memory and no Go in it. -/
set_option linter.unusedVariables false
set_option linter.unusedSimpArgs false
namespace Go.Proofs.Yteodhffgnkdcfaa.Q
open Go.RowKit Go.Proofs.YteodhffgnkdcfaaW.PrintWords Go.Proofs.YteodhffgnkdcfaaW.PrintLast Go.Proofs.YteodhffgnkdcfaaW.PrintMore

/-- All that is left. -/
def totL (l : List J3) : Int := (l.map (fun x => x.f2.sum)).sum
theorem totL_cons (x : J3) (l : List J3) : totL (x :: l) = x.f2.sum + totL l := by unfold totL; rw [List.map_cons, List.sum_cons]
theorem sum_bounds : ∀ {l : List Int}, (∀ n ∈ l, 1 ≤ n ∧ n ≤ 1000) → (l.length : Int) ≤ l.sum ∧ l.sum ≤ 1000 * l.length
  | [], _ => by simp
  | a :: l, h => by
    have h1 := h a List.mem_cons_self
    have h2 := sum_bounds (l := l) (fun n hn => h n (List.mem_cons_of_mem _ hn))
    rw [List.sum_cons, List.length_cons]
    omega
theorem okJ.sum {x : J3} (h : okJ x) : 1 ≤ x.f2.sum ∧ x.f2.sum ≤ 64000 := by
  unfold okJ at h
  have := sum_bounds h.2.2.2.2.2.2
  omega
theorem totL_bounds : ∀ {l : List J3}, (∀ x ∈ l, okJ x) → (l.length : Int) ≤ totL l ∧ totL l ≤ 64000 * l.length
  | [], _ => by simp [totL]
  | a :: l, h => by
    have h1 := (h a List.mem_cons_self).sum
    have h2 := totL_bounds (l := l) (fun n hn => h n (List.mem_cons_of_mem _ hn))
    rw [totL_cons, List.length_cons]
    omega
theorem drop_sum {l : List Int} {q : Nat} (h : q < l.length) : (l.drop q).sum = l.getD q 0 + (l.drop (q + 1)).sum := by
  rw [List.drop_eq_getElem_cons h, List.sum_cons, List.getD_eq_getElem?_getD, List.getElem?_eq_getElem h]; rfl
theorem drop_tot {l : List J3} {q : Nat} (h : q < l.length) : totL (l.drop q) = (l.getD q z27).f2.sum + totL (l.drop (q + 1)) := by
  rw [List.drop_eq_getElem_cons h, totL_cons, getD_lt h]
theorem much_inner (l : List J3) (a : Int) (i : Nat) (hi : i < l.length) (hil : l.length ≤ 1000) (hx : okJ (l.getD i z27)) : ∀ (d k q : Nat) (acc : Int), q + d = (l.getD i z27).f2.length → 0 ≤ acc → acc + 1000 * d ≤ 1000000000 → trefoillaw18_much.l1 (k + (d + 1)) acc (i : Int) (q : Int) l a = trefoillaw18_much.l0 k (acc + ((l.getD i z27).f2.drop q).sum) ((i + 1 : Nat) : Int) l a
  | 0, k, q, acc, hq, h0, h1 => by
    have hr : rd_T27 l (i : Int) = l.getD i z27 := by unfold rd_T27; rw [Int.toNat_natCast]
    have hw : wrap64 ((i : Int) + 1) = ((i + 1 : Nat) : Int) := by rw [lw64 (by omega) (by omega)]; omega
    show trefoillaw18_much.l1 (k + 1) acc (i : Int) (q : Int) l a = _
    unfold trefoillaw18_much.l1
    rw [if_pos (by omega), if_pos (by omega), hr, if_neg (by omega), hw, List.drop_eq_nil_of_le (by omega)]
    simp
  | d + 1, k, q, acc, hq, h0, h1 => by
    have hr : rd_T27 l (i : Int) = l.getD i z27 := by unfold rd_T27; rw [Int.toNat_natCast]
    have hw : wrap64 ((q : Int) + 1) = ((q + 1 : Nat) : Int) := by
      have := hx.2.2.2.2.2.1
      rw [lw64 (by omega) (by omega)]; omega
    have hlt : q < (l.getD i z27).f2.length := by omega
    have hm : rd (l.getD i z27).f2 (q : Int) = (l.getD i z27).f2.getD q 0 := by unfold rd; rw [Int.toNat_natCast]
    have hb : 1 ≤ (l.getD i z27).f2.getD q 0 ∧ (l.getD i z27).f2.getD q 0 ≤ 1000 := by
      exact hx.2.2.2.2.2.2 _ (mem_getD (z := 0) hlt)
    show trefoillaw18_much.l1 ((k + (d + 1)) + 1) acc (i : Int) (q : Int) l a = _
    rw [drop_sum hlt]
    generalize hg : (l.getD i z27).f2.getD q 0 = g at *
    unfold trefoillaw18_much.l1
    rw [if_pos (by omega), if_pos (by omega), hr, if_pos (by omega), if_pos (by omega), hw, hm, lw64 (by omega) (by omega)]
    rw [much_inner l a i hi hil hx d k (q + 1) (acc + g) (by omega) (by omega) (by omega)]
    congr 1
    omega
theorem much_outer (l : List J3) (a : Int) (hl : l.length ≤ 1000) (hok : ∀ x ∈ l, okJ x) : ∀ (d k i : Nat) (acc : Int), i + d = l.length → 66 * d + 1 ≤ k → 0 ≤ acc → acc + 64000 * d ≤ 900000000 → trefoillaw18_much.l0 k acc (i : Int) l a = some (acc + totL (l.drop i))
  | 0, k, i, acc, hi, hk, h0, h1 => by
    obtain ⟨k, rfl⟩ : ∃ k', k = k' + 1 := ⟨k - 1, by omega⟩
    unfold trefoillaw18_much.l0
    rw [if_neg (by omega), List.drop_eq_nil_of_le (by omega)]
    simp [totL]
  | d + 1, k, i, acc, hi, hk, h0, h1 => by
    have hlt : i < l.length := by omega
    have hx := hok _ (mem_getD (z := z27) hlt)
    have hxs := hx.sum
    have hx64 := hx.2.2.2.2.2.1
    obtain ⟨k, rfl⟩ : ∃ k', k = (k' + ((l.getD i z27).f2.length + 1)) + 1 := ⟨k - ((l.getD i z27).f2.length + 1) - 1, by omega⟩
    unfold trefoillaw18_much.l0
    rw [if_pos (by omega)]
    have := much_inner l a i hlt hl hx (l.getD i z27).f2.length k 0 acc (by omega) h0 (by omega)
    rw [Int.ofNat_zero] at this
    rw [this, List.drop_zero, much_outer l a hl hok d k (i + 1) _ (by omega) (by omega) (by omega) (by omega), drop_tot hlt]
    congr 1
    omega
theorem much_eq {l : List J3} {run : Int} {k : Nat} (h : okL l run) (hk : 1000 < k) : trefoillaw18_much.f k l run = some (totL l) := by
  have hl := h.len
  have := much_outer l run (by omega) h.1 l.length k 0 0 (by omega) (by omega) (by omega) (by omega)
  rw [List.drop_zero, Int.zero_add] at this
  exact this
theorem set_ok {l : List J3} {n : Nat} {x : J3} (hn : n < l.length) (hl : (∀ x ∈ l, okJ x) ∧ l.Pairwise (fun a b => a.f0 < b.f0)) (hx : okJ x) (h0 : x.f0 = (l.getD n z27).f0) : (∀ y ∈ l.set n x, okJ y) ∧ (l.set n x).Pairwise (fun a b => a.f0 < b.f0) := by
  refine ⟨fun y hy => ?_, ?_⟩
  · rcases List.mem_or_eq_of_mem_set hy with h | h
    · exact hl.1 y h
    · rw [h]; exact hx
  · have e : (l.set n x).map (·.f0) = l.map (·.f0) := by
      rw [List.map_set]
      refine List.ext_getElem (by simp) (fun q h1 h2 => ?_)
      rw [List.getElem_set]
      split
      · next h =>
        subst h
        rw [h0, getD_lt hn, List.getElem_map]
      · rfl
    have h2 := hl.2
    rw [← List.pairwise_map (f := fun a : J3 => a.f0) (R := fun a b => a < b)] at h2 ⊢
    rw [e]
    exact h2
theorem hasT_set {l : List J3} {n : Nat} {x : J3} (hn : n < l.length) : hasT (l.set n x) x.f0 := ⟨x, by
  rw [List.mem_iff_getElem]
  exact ⟨n, by rw [List.length_set]; exact hn, by rw [List.getElem_set_self]⟩, rfl⟩
theorem tot_set : ∀ {l : List J3} {n : Nat} {x : J3}, n < l.length → totL (l.set n x) = totL l - (l.getD n z27).f2.sum + x.f2.sum
  | [], n, x, h => by simp at h
  | y :: l, 0, x, h => by
    rw [List.set_cons_zero, totL_cons, totL_cons]
    show _ = y.f2.sum + totL l - y.f2.sum + _
    omega
  | y :: l, n + 1, x, h => by
    rw [List.set_cons_succ, totL_cons, totL_cons, tot_set (l := l) (n := n) (x := x) (by simpa using h)]
    show _ = y.f2.sum + totL l - (l.getD n z27).f2.sum + x.f2.sum
    omega
theorem tot_erase : ∀ {l : List J3} {n : Nat}, n < l.length → totL (l.eraseIdx n) = totL l - (l.getD n z27).f2.sum
  | [], n, h => by simp at h
  | y :: l, 0, h => by
    rw [List.eraseIdx_cons_zero, totL_cons]
    show _ = y.f2.sum + totL l - y.f2.sum
    omega
  | y :: l, n + 1, h => by
    rw [List.eraseIdx_cons_succ, totL_cons, totL_cons, tot_erase (l := l) (n := n) (by simpa using h)]
    show _ = y.f2.sum + totL l - (l.getD n z27).f2.sum
    omega
theorem erase_ok {l : List J3} {n : Nat} (hl : (∀ x ∈ l, okJ x) ∧ l.Pairwise (fun a b => a.f0 < b.f0)) : (∀ y ∈ l.eraseIdx n, okJ y) ∧ (l.eraseIdx n).Pairwise (fun a b => a.f0 < b.f0) :=
  ⟨fun y hy => hl.1 y (List.mem_of_mem_eraseIdx hy), hl.2.sublist (List.eraseIdx_sublist l n)⟩
theorem nextV_has {l : List J3} {run : Int} (h : okL l run) (hne : l ≠ []) : hasT l (nextV l run) := by
  unfold nextV
  by_cases c : run = -1 ∧ l ≠ []
  · rw [if_pos c]
    exact ⟨_, minP_mem _ _ _ hne, rfl⟩
  · rw [if_neg c]
    rcases h.2.2 with h2 | h2
    · exact absurd ⟨h2, hne⟩ c
    · exact h2
theorem okL.run {l : List J3} {run : Int} (h : okL l run) : run = -1 ∨ 0 ≤ run := by
  rcases h.2.2 with h2 | ⟨x, hx, e⟩
  · exact .inl h2
  · have := (h.1 x hx).1
    exact .inr (by omega)
theorem tick_none {run : Int} {k : Nat} (hk : 1000 < k) (h : okL [] run) : lane_Tick.f k [] run = some ([], -1, -1, false, false, 0) := by
  have hr : run = -1 := by
    rcases h.2.2 with h2 | ⟨x, hx, e⟩
    · exact h2
    · cases hx
  subst hr
  unfold lane_Tick.f
  rw [check_yes (by simp) hk h]
  simp only [Option.bind_some, if_true]
  rw [if_pos h.own, if_pos (by unfold nextV; simp)]
/-- A tick of a lane in which something is left. -/
theorem tick_step {l : List J3} {run : Int} {k : Nat} (hk : 1000 < k) (h : okL l run) (hne : l ≠ []) : ∃ y r' s nd al, lane_Tick.f k l run = some (y, r', s, nd, al, 0) ∧ okL y r' ∧ totL y = totL l - 1 ∧ 0 ≤ s ∧ (0 ≤ run → s = run) ∧ r' = (if nd = true then -1 else s) ∧ (al = true ↔ y.length + 1 = l.length) ∧ (al = true → nd = true) ∧ y.length ≤ l.length := by
  have hs := nextV_has h hne
  obtain ⟨s, hse⟩ : ∃ s, nextV l run = s := ⟨_, rfl⟩
  rw [hse] at hs
  have hs0 : 0 ≤ s := by
    obtain ⟨x, hx, e⟩ := hs
    have := (h.1 x hx).1
    omega
  have hsr : 0 ≤ run → s = run := fun h2 => by
    rw [← hse]
    unfold nextV
    rw [if_neg (fun h3 => by omega)]
  have hf : ¬ findI l s < 0 := fun h2 => (findI_neg l s).1 h2 hs
  obtain ⟨n, hnf, hnl, hnt⟩ := findI_at hf
  have hx := h.1 _ (mem_getD (z := z27) hnl)
  obtain ⟨x0, x1, g, tl, hxe⟩ : ∃ x0 x1 g tl, l.getD n z27 = ⟨x0, x1, g :: tl⟩ := by
    have h1 := hx.2.2.2.2.1
    match hh : l.getD n z27, h1 with
    | ⟨x0, x1, g :: tl⟩, _ => exact ⟨x0, x1, g, tl, rfl⟩
  have hsum : (l.getD n z27).f2.sum = g + tl.sum := by rw [hxe]; exact List.sum_cons
  have hx' := hx
  rw [hxe] at hx' hnt
  have hnt : x0 = s := hnt
  subst hnt
  have hg : 1 ≤ g ∧ g ≤ 1000 := hx'.2.2.2.2.2.2 g List.mem_cons_self
  have htl : ∀ q ∈ tl, 1 ≤ q ∧ q ≤ 1000 := fun q hq => hx'.2.2.2.2.2.2 q (List.mem_cons_of_mem _ hq)
  have hlen : tl.length + 1 ≤ 64 := hx'.2.2.2.2.2.1
  have hw : wrap64 (g - 1) = g - 1 := lw64 (by omega) (by omega)
  have hT : lane_Tick.f k l run = some (tickV l x0 n) := by
    unfold lane_Tick.f
    rw [check_yes (by have := h.len; omega) hk h]
    simp only [Option.bind_some, if_true]
    rw [if_pos h.own, hse, if_neg (by omega), if_neg hf, hnf, Int.toNat_natCast]
  have hb := totL_bounds h.1
  by_cases c1 : g - 1 = 0
  · by_cases c2 : tl = []
    · refine ⟨l.eraseIdx n, -1, x0, true, true, ?_, ⟨(erase_ok ⟨h.1, h.2.1⟩).1, (erase_ok ⟨h.1, h.2.1⟩).2, .inl rfl⟩, ?_, hs0, hsr, rfl, ?_, fun _ => rfl, ?_⟩
      · rw [hT]
        unfold tickV
        rw [hxe]
        show some (if wrap64 (g - 1) = 0 then (if tl = [] then _ else _) else _) = _
        rw [hw, if_pos c1, if_pos c2]
      · rw [tot_erase hnl, hsum, c2]
        simp
        omega
      · rw [List.length_eraseIdx_of_lt hnl]
        exact ⟨fun _ => by omega, fun _ => rfl⟩
      · rw [List.length_eraseIdx_of_lt hnl]; omega
    · have hok : okJ ⟨x0, x1, tl⟩ := ⟨hx'.1, hx'.2.1, hx'.2.2.1, hx'.2.2.2.1, by have := List.length_pos_iff.2 c2; show 1 ≤ tl.length; omega, by show tl.length ≤ 64; omega, htl⟩
      have hs2 := set_ok hnl ⟨h.1, h.2.1⟩ hok (by rw [hxe])
      refine ⟨l.set n ⟨x0, x1, tl⟩, -1, x0, true, false, ?_, ⟨hs2.1, hs2.2, .inl rfl⟩, ?_, hs0, hsr, rfl, ?_, fun _ => rfl, ?_⟩
      · rw [hT]
        unfold tickV
        rw [hxe]
        show some (if wrap64 (g - 1) = 0 then (if tl = [] then _ else _) else _) = _
        rw [hw, if_pos c1, if_neg c2]
        rfl
      · rw [tot_set hnl, hsum]
        show _ - _ + tl.sum = _
        omega
      · rw [List.length_set]
        exact ⟨fun h2 => (by cases h2), fun h2 => by omega⟩
      · rw [List.length_set]; exact Nat.le_refl _
  · have hok : okJ ⟨x0, x1, (g - 1) :: tl⟩ := ⟨hx'.1, hx'.2.1, hx'.2.2.1, hx'.2.2.2.1, by show 1 ≤ tl.length + 1; omega, by show tl.length + 1 ≤ 64; omega, fun q hq => by
      rcases List.mem_cons.1 hq with rfl | hq
      · omega
      · exact htl q hq⟩
    have hs2 := set_ok hnl ⟨h.1, h.2.1⟩ hok (by rw [hxe])
    refine ⟨l.set n ⟨x0, x1, (g - 1) :: tl⟩, x0, x0, false, false, ?_, ⟨hs2.1, hs2.2, .inr (hasT_set (x := ⟨x0, x1, (g - 1) :: tl⟩) hnl)⟩, ?_, hs0, hsr, rfl, ?_, fun h2 => (by cases h2), ?_⟩
    · rw [hT]
      unfold tickV
      rw [hxe]
      show some (if wrap64 (g - 1) = 0 then _ else (l.set n ⟨x0, x1, wrap64 (g - 1) :: tl⟩, x0, x0, false, false, 0)) = _
      rw [hw, if_neg c1]
    · rw [tot_set hnl, hsum]
      show _ - _ + ((g - 1) :: tl).sum = _
      rw [List.sum_cons]
      omega
    · rw [List.length_set]
      exact ⟨fun h2 => (by cases h2), fun h2 => by omega⟩
    · rw [List.length_set]; exact Nat.le_refl _
end Go.Proofs.Yteodhffgnkdcfaa.Q

/- Plain facts: who runs next is due first. No memory and no Go in it. -/
set_option linter.unusedVariables false
set_option linter.unusedSimpArgs false
namespace Go.Proofs.Yteodhffgnkdcfaa.Q
open Go.RowKit Go.Proofs.YteodhffgnkdcfaaW.PrintWords Go.Proofs.YteodhffgnkdcfaaW.PrintLast Go.Proofs.YteodhffgnkdcfaaW.PrintMore

/-- Due ahead. -/
def ahead (x y : J3) : Prop := x.f1 < y.f1 ∨ x.f1 = y.f1 ∧ x.f0 < y.f0
theorem cmpJ_neg {x y : J3} (hx : 0 ≤ x.f0 ∧ x.f0 < 8) (hy : 0 ≤ y.f0 ∧ y.f0 < 8) : cmpJ x y < 0 ↔ ahead x y := by
  unfold cmpJ ahead
  by_cases c1 : x.f1 < y.f1
  · rw [if_pos c1]; exact ⟨fun _ => .inl c1, fun _ => by decide⟩
  · rw [if_neg c1]
    by_cases c2 : x.f1 > y.f1
    · rw [if_pos c2]
      exact ⟨fun h => absurd h (by decide), fun h => by omega⟩
    · rw [if_neg c2, lw64 (by omega) (by omega)]
      exact ⟨fun h => .inr ⟨by omega, by omega⟩, fun h => by omega⟩
theorem min_first {l : List J3} (hok : ∀ x ∈ l, 0 ≤ x.f0 ∧ x.f0 < 8) (hne : l ≠ []) : ∀ y ∈ l, ¬ ahead y (minP z27 cmpJ l) := by
  have key : ∀ (ys : List J3) (m : J3), (0 ≤ m.f0 ∧ m.f0 < 8) → (∀ x ∈ ys, 0 ≤ x.f0 ∧ x.f0 < 8) → ¬ ahead m (ys.foldl (fun m y => if cmpJ y m < 0 then y else m) m) ∧ ∀ y ∈ ys, ¬ ahead y (ys.foldl (fun m y => if cmpJ y m < 0 then y else m) m) := by
    intro ys
    induction ys with
    | nil => intro m _ _; exact ⟨fun h => by unfold ahead at h; simp only [List.foldl_nil] at h; omega, fun y hy => by cases hy⟩
    | cons y ys ih =>
      intro m hm hys
      have hy := hys y List.mem_cons_self
      rw [List.foldl_cons]
      by_cases c : cmpJ y m < 0
      · rw [if_pos c]
        have hc := (cmpJ_neg hy hm).1 c
        obtain ⟨h1, h2⟩ := ih y hy (fun x hx => hys x (List.mem_cons_of_mem _ hx))
        generalize ys.foldl (fun m y => if cmpJ y m < 0 then y else m) y = r at *
        refine ⟨fun h => h1 ?_, fun x hx => ?_⟩
        · unfold ahead at *; omega
        · rcases List.mem_cons.1 hx with rfl | hx
          · exact h1
          · exact h2 x hx
      · rw [if_neg c]
        have hc : ¬ ahead y m := fun h => c ((cmpJ_neg hy hm).2 h)
        obtain ⟨h1, h2⟩ := ih m hm (fun x hx => hys x (List.mem_cons_of_mem _ hx))
        generalize ys.foldl (fun m y => if cmpJ y m < 0 then y else m) m = r at *
        refine ⟨h1, fun x hx => ?_⟩
        rcases List.mem_cons.1 hx with rfl | hx
        · intro h; apply h1; unfold ahead at *; omega
        · exact h2 x hx
  match l, hne with
  | x :: xs, _ =>
    intro y hy
    obtain ⟨h1, h2⟩ := key xs x (hok x List.mem_cons_self) (fun y hy => hok y (List.mem_cons_of_mem _ hy))
    unfold minP
    rcases List.mem_cons.1 hy with rfl | hy
    · exact h1
    · exact h2 y hy
/-- Two jobs of one task are one. -/
theorem same_task {l : List J3} (h : l.Pairwise (fun a b => a.f0 < b.f0)) {x y : J3} (hx : x ∈ l) (hy : y ∈ l) (e : x.f0 = y.f0) : x = y := by
  obtain ⟨i, hi, rfl⟩ := List.mem_iff_getElem.1 hx
  obtain ⟨j, hj, rfl⟩ := List.mem_iff_getElem.1 hy
  rw [List.pairwise_iff_getElem] at h
  rcases Nat.lt_trichotomy i j with c | c | c
  · have := h i j hi hj c; omega
  · subst c; rfl
  · have := h j i hj hi c; omega
/-- Nobody is due ahead of who runs next. -/
theorem first_law {l : List J3} {run : Int} (h : okL l run) {a b : J3} (ha : a ∈ l) (hb : b ∈ l) (hr : run = -1) (hn : a.f0 = nextV l run) : ¬ ahead b a := by
  have hne : l ≠ [] := fun e => by rw [e] at ha; cases ha
  have hm : nextV l run = (minP z27 cmpJ l).f0 := by unfold nextV; rw [if_pos ⟨hr, hne⟩]
  have := same_task h.2.1 ha (minP_mem z27 cmpJ l hne) (by rw [hn, hm])
  rw [this]
  exact min_first (fun x hx => ⟨(h.1 x hx).1, (h.1 x hx).2.1⟩) hne b hb
end Go.Proofs.Yteodhffgnkdcfaa.Q

/- Plain facts: the document's functions on lanes. No memory and no Go in it. -/
set_option linter.unusedVariables false
set_option linter.unusedSimpArgs false
namespace Go.Proofs.Yteodhffgnkdcfaa.Q
open Go.RowKit Go.Proofs.YteodhffgnkdcfaaW.PrintWords Go.Proofs.YteodhffgnkdcfaaW.PrintLast Go.Proofs.YteodhffgnkdcfaaW.PrintMore

theorem rdJ (l : List J3) (i : Nat) : rd_T27 l (i : Int) = l.getD i z27 := by unfold rd_T27; rw [Int.toNat_natCast]
theorem hasB_loop (l : List J3) (run t : Int) (hl : l.length ≤ 1000) : ∀ (d k i : Nat), i + d = l.length → d < k → ∃ b, trefoilref18_Has.l0 k t (i : Int) l run = some b ∧ (b = true ↔ ∃ q, i ≤ q ∧ q < l.length ∧ (l.getD q z27).f0 = t)
  | 0, k + 1, i, hi, _ => by
    unfold trefoilref18_Has.l0
    rw [if_neg (by omega)]
    exact ⟨false, rfl, fun h => (by cases h), fun ⟨q, h1, h2, _⟩ => by omega⟩
  | d + 1, k + 1, i, hi, hk => by
    have hw : wrap64 ((i : Int) + 1) = ((i + 1 : Nat) : Int) := by rw [lw64 (by omega) (by omega)]; omega
    unfold trefoilref18_Has.l0
    rw [if_pos (by omega), if_pos (by omega), rdJ, hw]
    by_cases c : (l.getD i z27).f0 = t
    · rw [if_pos c]
      exact ⟨true, rfl, fun _ => ⟨i, Nat.le_refl _, by omega, c⟩, fun _ => rfl⟩
    · rw [if_neg c]
      obtain ⟨b, hb, hi2⟩ := hasB_loop l run t hl d k (i + 1) (by omega) (by omega)
      refine ⟨b, hb, hi2.trans ⟨fun ⟨q, h1, h2, h3⟩ => ⟨q, by omega, h2, h3⟩, fun ⟨q, h1, h2, h3⟩ => ?_⟩⟩
      rcases Nat.lt_or_ge i q with h | h
      · exact ⟨q, by omega, h2, h3⟩
      · obtain rfl : q = i := by omega
        exact absurd h3 c
theorem hasB {l : List J3} {run t : Int} {k : Nat} (hl : l.length ≤ 1000) (hk : 1000 < k) : ∃ b, trefoilref18_Has.f k l run t = some b ∧ (b = true ↔ hasT l t) := by
  obtain ⟨b, hb, hi⟩ := hasB_loop l run t hl l.length k 0 (by omega) (by omega)
  refine ⟨b, hb, hi.trans ⟨fun ⟨q, _, h2, h3⟩ => ⟨_, mem_getD (z := z27) h2, h3⟩, fun ⟨x, hx, e⟩ => ?_⟩⟩
  obtain ⟨q, hq, rfl⟩ := List.mem_iff_getElem.1 hx
  exact ⟨q, Nat.zero_le _, hq, by rw [getD_lt hq]; exact e⟩
theorem has_yes {l : List J3} {run t : Int} {k : Nat} (hl : l.length ≤ 1000) (hk : 1000 < k) (h : hasT l t) : trefoilref18_Has.f k l run t = some true := by
  obtain ⟨b, hb, hi⟩ := hasB (run := run) (t := t) hl hk
  rw [hb, hi.2 h]
theorem has_no {l : List J3} {run t : Int} {k : Nat} (hl : l.length ≤ 1000) (hk : 1000 < k) (h : ¬ hasT l t) : trefoilref18_Has.f k l run t = some false := by
  obtain ⟨b, hb, hi⟩ := hasB (run := run) (t := t) hl hk
  rw [hb, Bool.eq_false_iff.2 (fun e => h (hi.1 e))]
theorem rjob_loop (t d : Int) (l : List Int) (hl : l.length ≤ 1000) : ∀ (e k i : Nat), i + e = l.length → e < k → ∃ b, trefoilref18_Job.l0 k (i : Int) t d l = some b ∧ (b = true ↔ (∀ q, i ≤ q → q < l.length → 1 ≤ l.getD q 0 ∧ l.getD q 0 ≤ 1000) ∧ 0 ≤ t ∧ t < 8 ∧ 0 ≤ d ∧ d ≤ 1099511627775 ∧ 1 ≤ l.length ∧ l.length ≤ 64)
  | 0, k + 1, i, hi, _ => by
    unfold trefoilref18_Job.l0
    rw [if_neg (by omega)]
    by_cases c1 : t ≥ 0
    · rw [if_pos c1]
      by_cases c2 : t ≤ 7
      · rw [if_pos c2]
        by_cases c3 : d ≥ 0
        · rw [if_pos c3]
          by_cases c4 : d ≤ 1099511627775
          · rw [if_pos c4]
            by_cases c5 : (l.length : Int) > 0
            · rw [if_pos c5]
              refine ⟨_, rfl, ?_⟩
              rw [decide_eq_true_eq]
              exact ⟨fun h => ⟨fun q h1 h2 => by omega, by omega, by omega, by omega, by omega, by omega, by omega⟩, fun h => by omega⟩
            · rw [if_neg c5]; exact ⟨false, rfl, fun h => (by cases h), fun h => by omega⟩
          · rw [if_neg c4]; exact ⟨false, rfl, fun h => (by cases h), fun h => by omega⟩
        · rw [if_neg c3]; exact ⟨false, rfl, fun h => (by cases h), fun h => by omega⟩
      · rw [if_neg c2]; exact ⟨false, rfl, fun h => (by cases h), fun h => by omega⟩
    · rw [if_neg c1]; exact ⟨false, rfl, fun h => (by cases h), fun h => by omega⟩
  | e + 1, k + 1, i, hi, hk => by
    have hw : wrap64 ((i : Int) + 1) = ((i + 1 : Nat) : Int) := by rw [lw64 (by omega) (by omega)]; omega
    have r1 : rd l (i : Int) = l.getD i 0 := by unfold rd; rw [Int.toNat_natCast]
    obtain ⟨b, hb, hi2⟩ := rjob_loop t d l hl e k (i + 1) (by omega) (by omega)
    unfold trefoilref18_Job.l0
    rw [if_pos (by omega), if_pos (by omega), r1, hw]
    by_cases c1 : l.getD i 0 < 1
    · rw [if_pos c1]
      exact ⟨false, rfl, fun h => (by cases h), fun h => by have := h.1 i (Nat.le_refl _) (by omega); omega⟩
    · rw [if_neg c1]
      by_cases c2 : l.getD i 0 > 1000
      · rw [if_pos c2]
        exact ⟨false, rfl, fun h => (by cases h), fun h => by have := h.1 i (Nat.le_refl _) (by omega); omega⟩
      · rw [if_neg c2]
        refine ⟨b, hb, hi2.trans ⟨fun h => ⟨fun q h1 h2 => ?_, h.2⟩, fun h => ⟨fun q h1 h2 => h.1 q (by omega) h2, h.2⟩⟩⟩
        rcases Nat.lt_or_ge i q with h3 | h3
        · exact h.1 q (by omega) h2
        · obtain rfl : q = i := by omega
          omega
theorem rjob {x : J3} {k : Nat} (hl : x.f2.length ≤ 1000) (hk : 1000 < k) : ∃ b, trefoilref18_Job.f k x.f0 x.f1 x.f2 = some b ∧ (b = true ↔ okJ x) := by
  obtain ⟨b, hb, hi⟩ := rjob_loop x.f0 x.f1 x.f2 hl x.f2.length k 0 (by omega) (by omega)
  refine ⟨b, hb, hi.trans ⟨fun h => ⟨h.2.1, h.2.2.1, h.2.2.2.1, h.2.2.2.2.1, h.2.2.2.2.2.1, h.2.2.2.2.2.2, fun n hn => ?_⟩, fun h => ⟨fun q _ h2 => h.2.2.2.2.2.2 _ (mem_getD (z := 0) h2), h.1, h.2.1, h.2.2.1, h.2.2.2.1, h.2.2.2.2.1, h.2.2.2.2.2.1⟩⟩⟩
  obtain ⟨q, hq, rfl⟩ := List.mem_iff_getElem.1 hn
  have := h.1 q (Nat.zero_le _) hq
  rwa [List.getD_eq_getElem?_getD, List.getElem?_eq_getElem hq] at this
theorem rcheck_loop (l : List J3) (run : Int) (hl : l.length ≤ 1000) (h2 : ∀ x ∈ l, x.f2.length ≤ 1000) : ∀ (d k i : Nat), i + d = l.length → d + 1002 < k → ∃ b, trefoilref18_Check.l0 k (i : Int) l run = some b ∧ (b = true ↔ okFrom l i ∧ (run = -1 ∨ hasT l run))
  | 0, k + 1, i, hi, hk => by
    have e : i = l.length := by omega
    have hf : okFrom l i := fun q h1 h2 => by omega
    unfold trefoilref18_Check.l0
    rw [if_neg (by omega)]
    by_cases c : run = -1
    · rw [if_pos c]; exact ⟨true, rfl, fun _ => ⟨hf, .inl c⟩, fun _ => rfl⟩
    · rw [if_neg c]
      obtain ⟨b, hb, hi2⟩ := hasB (l := l) (run := run) (t := run) (k := k) hl (by omega)
      rw [hb]
      exact ⟨b, rfl, fun h => ⟨hf, .inr (hi2.1 h)⟩, fun h => hi2.2 (h.2.resolve_left c)⟩
  | d + 1, k + 1, i, hi, hk => by
    have hlt : i < l.length := by omega
    obtain ⟨b, hb, hi2⟩ := rcheck_loop l run hl h2 d k (i + 1) (by omega) (by omega)
    have hw : wrap64 ((i : Int) + 1) = ((i + 1 : Nat) : Int) := by rw [lw64 (by omega) (by omega)]; omega
    have hw2 : wrap64 ((i : Int) - 1) = (i : Int) - 1 := lw64 (by omega) (by omega)
    obtain ⟨bj, hbj, hij⟩ := rjob (x := l.getD i z27) (k := k) (h2 _ (mem_getD hlt)) (by omega)
    have hstep : okFrom l i ↔ (okJ (l.getD i z27) ∧ (0 < i → (l.getD (i - 1) z27).f0 < (l.getD i z27).f0)) ∧ okFrom l (i + 1) := by
      constructor
      · exact fun h => ⟨h i (Nat.le_refl _) hlt, fun q h1 h2 => h q (by omega) h2⟩
      · rintro ⟨h1, h2⟩ q hq1 hq2
        rcases Nat.lt_or_ge i q with h | h
        · exact h2 q (by omega) hq2
        · obtain rfl : q = i := by omega
          exact h1
    unfold trefoilref18_Check.l0
    rw [if_pos (by omega), if_pos (by omega), rdJ, hbj]
    simp only [Option.bind_some, hw, hw2]
    by_cases cj : bj = true
    · rw [if_pos cj]
      have hj := hij.1 cj
      by_cases c0 : (i : Int) > 0
      · have hr2 : rd_T27 l ((i : Int) - 1) = l.getD (i - 1) z27 := by
          unfold rd_T27
          congr 1
          omega
        rw [if_pos c0, if_pos (by omega), if_pos (by omega), hr2]
        by_cases cs : (l.getD (i - 1) z27).f0 ≥ (l.getD i z27).f0
        · rw [if_pos cs]
          exact ⟨false, rfl, fun h => (by cases h), fun h => absurd ((hstep.1 h.1).1.2 (by omega)) (by omega)⟩
        · rw [if_neg cs]
          exact ⟨b, hb, hi2.trans ⟨fun h => ⟨hstep.2 ⟨⟨hj, fun _ => by omega⟩, h.1⟩, h.2⟩, fun h => ⟨(hstep.1 h.1).2, h.2⟩⟩⟩
      · rw [if_neg c0]
        exact ⟨b, hb, hi2.trans ⟨fun h => ⟨hstep.2 ⟨⟨hj, fun h0 => by omega⟩, h.1⟩, h.2⟩, fun h => ⟨(hstep.1 h.1).2, h.2⟩⟩⟩
    · rw [if_neg cj]
      exact ⟨false, rfl, fun h => (by cases h), fun h => absurd (hij.2 (hstep.1 h.1).1.1) cj⟩
theorem rcheck {l : List J3} {run : Int} {k : Nat} (hl : l.length ≤ 500) (h2 : ∀ x ∈ l, x.f2.length ≤ 1000) (hk : 2000 < k) : ∃ b, trefoilref18_Check.f k l run = some b ∧ (b = true ↔ okL l run) := by
  obtain ⟨b, hb, hi⟩ := rcheck_loop l run (by omega) h2 l.length k 0 (by omega) (by omega)
  exact ⟨b, hb, hi.trans ⟨fun h => ⟨((okFrom_iff l).1 h.1).1, ((okFrom_iff l).1 h.1).2, h.2⟩, fun h => ⟨(okFrom_iff l).2 ⟨h.1, h.2.1⟩, h.2.2⟩⟩⟩
theorem rcheck_yes {l : List J3} {run : Int} {k : Nat} (hl : l.length ≤ 500) (h2 : ∀ x ∈ l, x.f2.length ≤ 1000) (hk : 2000 < k) (h : okL l run) : trefoilref18_Check.f k l run = some true := by
  obtain ⟨b, hb, hi⟩ := rcheck (run := run) hl h2 hk
  rw [hb, hi.2 h]
theorem rcheck_no {l : List J3} {run : Int} {k : Nat} (hl : l.length ≤ 500) (h2 : ∀ x ∈ l, x.f2.length ≤ 1000) (hk : 2000 < k) (h : ¬ okL l run) : trefoilref18_Check.f k l run = some false := by
  obtain ⟨b, hb, hi⟩ := rcheck (run := run) hl h2 hk
  rw [hb, Bool.eq_false_iff.2 (fun e => h (hi.1 e))]
/-! ### Next -/
theorem rnext_loop {l : List J3} (h : okL l (-1)) : ∀ (d k i b : Nat), i + d = l.length → d < k → b < i → (∀ q, q < i → ¬ ahead (l.getD q z27) (l.getD b z27)) → ∃ c, c < l.length ∧ (∀ q, q < l.length → ¬ ahead (l.getD q z27) (l.getD c z27)) ∧ trefoilref18_Next.l0 k (b : Int) (i : Int) l (-1) = some (l.getD c z27).f0
  | 0, k + 1, i, b, hi, _, hb, hq => by
    unfold trefoilref18_Next.l0
    rw [if_neg (by omega), if_neg (by omega), if_pos (by omega), if_pos (by omega), rdJ]
    exact ⟨b, by omega, fun q h1 => hq q (by omega), rfl⟩
  | d + 1, k + 1, i, b, hi, hk, hb, hq => by
    have hl := h.len
    have hw : wrap64 ((i : Int) + 1) = ((i + 1 : Nat) : Int) := by rw [lw64 (by omega) (by omega)]; omega
    have hbi : (l.getD b z27).f0 < (l.getD i z27).f0 := by
      have := (List.pairwise_iff_getElem.1 h.2.1) b i (by omega) (by omega) hb
      rw [getD_lt (by omega), getD_lt (by omega)]; exact this
    unfold trefoilref18_Next.l0
    rw [if_pos (by omega), if_neg (by omega), if_pos (by omega), if_pos (by omega), if_pos (by omega), rdJ, rdJ, hw]
    by_cases c : (l.getD i z27).f1 < (l.getD b z27).f1
    · rw [if_pos c]
      refine rnext_loop h d k (i + 1) i (by omega) (by omega) (by omega) (fun q h1 h2 => ?_)
      rcases Nat.lt_or_ge q i with h3 | h3
      · refine hq q h3 ?_
        unfold ahead at h2 ⊢
        omega
      · obtain rfl : q = i := by omega
        unfold ahead at h2; omega
    · rw [if_neg c]
      refine rnext_loop h d k (i + 1) b (by omega) (by omega) (by omega) (fun q h1 h2 => ?_)
      rcases Nat.lt_or_ge q i with h3 | h3
      · exact hq q h3 h2
      · obtain rfl : q = i := by omega
        unfold ahead at h2; omega
theorem rnext {l : List J3} {run : Int} {k : Nat} (h : okL l run) (hk : 1000 < k) : trefoilref18_Next.f k l run = some (nextV l run) := by
  unfold trefoilref18_Next.f
  by_cases c : run ≥ 0
  · rw [if_pos c]
    unfold nextV
    rw [if_neg (fun h2 => by omega)]
  · rw [if_neg c]
    have hr : run = -1 := by have := h.run; omega
    subst hr
    have hl := h.len
    obtain ⟨k, rfl⟩ : ∃ k', k = k' + 1 := ⟨k - 1, by omega⟩
    cases hl0 : l with
    | nil =>
      unfold trefoilref18_Next.l0
      rw [if_neg (by simp), if_pos (by omega)]
      unfold nextV
      rw [if_neg (by simp)]
    | cons x xs =>
      have hne : l ≠ [] := by rw [hl0]; simp
      have hlen : 0 < l.length := List.length_pos_iff.2 hne
      rw [← hl0]
      obtain ⟨c, hc, hmin, hres⟩ := rnext_loop h (l.length - 1) k 1 0 (by omega) (by omega) (by omega) (fun q h1 h2 => by
        obtain rfl : q = 0 := by omega
        unfold ahead at h2; omega)
      unfold trefoilref18_Next.l0
      rw [if_pos (by omega), if_pos (by omega)]
      have hw : wrap64 ((0 : Int) + 1) = ((1 : Nat) : Int) := by rw [lw64 (by omega) (by omega)]; rfl
      rw [hw]
      have h0 : (0 : Int) = ((0 : Nat) : Int) := rfl
      rw [h0, hres]
      have hn : nextV l (-1) = (minP z27 cmpJ l).f0 := by unfold nextV; rw [if_pos ⟨rfl, hne⟩]
      rw [hn]
      have hm := minP_mem z27 cmpJ l hne
      have h1 := min_first (fun x hx => ⟨(h.1 x hx).1, (h.1 x hx).2.1⟩) hne _ (mem_getD (z := z27) hc)
      obtain ⟨q, hq, he⟩ := List.mem_iff_getElem.1 hm
      have h2 := hmin q hq
      rw [getD_lt hq, he] at h2
      congr 1
      unfold ahead at h1 h2
      have e1 : (l.getD c z27).f1 = (minP z27 cmpJ l).f1 := by omega
      omega
/-! ### Add -/
theorem filter_next : ∀ {m : List J3} (T : Int), m.Pairwise (fun a b => a.f0 < b.f0) → m.filter (fun x => decide (x.f0 < T + 1)) = m.filter (fun x => decide (x.f0 < T)) ++ m.filter (fun x => decide (x.f0 = T))
  | [], T, _ => rfl
  | x :: m, T, h => by
    rw [List.pairwise_cons] at h
    have ih := filter_next (m := m) T h.2
    by_cases c : x.f0 < T
    · rw [List.filter_cons_of_pos (by simp; omega), List.filter_cons_of_pos (by simpa using c), List.filter_cons_of_neg (by simp; omega), ih]
      rfl
    · have h0 : m.filter (fun x => decide (x.f0 < T)) = [] := List.filter_eq_nil_iff.2 (fun y hy => by have := h.1 y hy; simp; omega)
      rw [List.filter_cons_of_neg (p := fun x : J3 => decide (x.f0 < T)) (by simpa using c), h0]
      rw [h0, List.nil_append] at ih
      by_cases d : x.f0 = T
      · rw [List.filter_cons_of_pos (by simp; omega), List.filter_cons_of_pos (by simpa using d), ih]; rfl
      · have h1 : m.filter (fun x => decide (x.f0 = T)) = [] := List.filter_eq_nil_iff.2 (fun y hy => by have := h.1 y hy; simp; omega)
        rw [List.filter_cons_of_neg (by simp; omega), List.filter_cons_of_neg (by simpa using d), ih, h1]; rfl
theorem filter_insJ_no {p : J3 → Bool} {j : J3} (hj : p j = false) : ∀ l : List J3, (insJ l j).filter p = l.filter p
  | [] => by unfold insJ; rw [List.filter_cons_of_neg (by rw [hj]; decide)]
  | x :: l => by
    unfold insJ
    split
    · by_cases c : p x = true
      · rw [List.filter_cons_of_pos c, List.filter_cons_of_pos c, filter_insJ_no hj l]
      · rw [List.filter_cons_of_neg c, List.filter_cons_of_neg c, filter_insJ_no hj l]
    · rw [List.filter_cons_of_neg (by rw [hj]; decide)]
theorem filter_insJ_yes {p : J3 → Bool} {j : J3} (hj : p j = true) : ∀ l : List J3, l.filter p = [] → (insJ l j).filter p = [j]
  | [], _ => by unfold insJ; rw [List.filter_cons_of_pos hj]; rfl
  | x :: l, h => by
    have hx : ¬ p x = true := fun c => by rw [List.filter_cons_of_pos c] at h; cases h
    rw [List.filter_cons_of_neg hx] at h
    unfold insJ
    split
    · rw [List.filter_cons_of_neg hx, filter_insJ_yes hj l h]
    · rw [List.filter_cons_of_pos hj, List.filter_cons_of_neg hx, h]
theorem radd_inner (l : List J3) (run j0 j1 : Int) (j2 : List Int) (T r' : Int) (O : List J3) (hl : l.length ≤ 1000) (hO : O.length ≤ 100000) (hT : 0 ≤ T ∧ T ≤ 100) : ∀ (d k i : Nat), i + d = l.length → trefoilref18_Add.l1 (k + (d + 1)) T (i : Int) l run j0 j1 j2 (O ++ (l.take i).filter (fun x => decide (x.f0 = T))) r' =
    (if j0 = T then trefoilref18_Add.l0 k (T + 1) l run j0 j1 j2 (O ++ l.filter (fun x => decide (x.f0 = T)) ++ [⟨j0, j1, j2⟩]) r' else trefoilref18_Add.l0 k (T + 1) l run j0 j1 j2 (O ++ l.filter (fun x => decide (x.f0 = T))) r')
  | 0, k, i, hi => by
    have hw : wrap64 (T + 1) = T + 1 := lw64 (by omega) (by omega)
    have hf : (O ++ l.filter (fun x => decide (x.f0 = T))).length < 3518437208883 := by
      rw [List.length_append]
      have := List.length_filter_le (fun x : J3 => decide (x.f0 = T)) l
      omega
    show trefoilref18_Add.l1 (k + 1) T (i : Int) l run j0 j1 j2 _ r' = _
    rw [List.take_of_length_le (by omega)]
    unfold trefoilref18_Add.l1
    rw [if_neg (by omega), hw, if_pos hf]
  | d + 1, k, i, hi => by
    have hlt : i < l.length := by omega
    have hw : wrap64 ((i : Int) + 1) = ((i + 1 : Nat) : Int) := by rw [lw64 (by omega) (by omega)]; omega
    have ht : l.take (i + 1) = l.take i ++ [l.getD i z27] := by rw [List.take_succ_eq_append_getElem hlt, getD_lt hlt]
    have ih := radd_inner l run j0 j1 j2 T r' O hl hO hT d k (i + 1) (by omega)
    have hf : (O ++ (l.take i).filter (fun x => decide (x.f0 = T))).length < 3518437208883 := by
      rw [List.length_append]
      have := List.length_filter_le (fun x : J3 => decide (x.f0 = T)) (l.take i)
      rw [List.length_take] at this
      omega
    rw [ht, List.filter_append] at ih
    show trefoilref18_Add.l1 (k + (d + 1) + 1) T (i : Int) l run j0 j1 j2 _ r' = _
    unfold trefoilref18_Add.l1
    rw [if_pos (by omega), if_pos (by omega), rdJ, hw]
    by_cases c : (l.getD i z27).f0 = T
    · rw [if_pos c, if_pos hf]
      rw [List.filter_cons_of_pos (by simpa using c), List.filter_nil] at ih
      rw [← ih, List.append_assoc]
    · rw [if_neg c]
      rw [List.filter_cons_of_neg (by simpa using c), List.filter_nil, List.append_nil] at ih
      rw [← ih]
theorem radd_outer {l : List J3} {run j0 j1 : Int} {j2 : List Int} (hok : okL (insJ l ⟨j0, j1, j2⟩) run) (hn : ¬ hasT l j0) (hl : l.length ≤ 1000) : ∀ (e k : Nat) (T : Int), 0 ≤ T → T + e = 8 → trefoilref18_Add.l0 (k + (1 + (l.length + 2) * e)) T l run j0 j1 j2 ((insJ l ⟨j0, j1, j2⟩).filter (fun x => decide (x.f0 < T))) run = some (insJ l ⟨j0, j1, j2⟩, run, 0)
  | 0, k, T, h0, hT => by
    show trefoilref18_Add.l0 (k + 1) T l run j0 j1 j2 _ run = _
    unfold trefoilref18_Add.l0
    rw [if_neg (by omega)]
    have : (insJ l ⟨j0, j1, j2⟩).filter (fun x => decide (x.f0 < T)) = insJ l ⟨j0, j1, j2⟩ := List.filter_eq_self.2 (fun x hx => by have := (hok.1 x hx).2.1; simp; omega)
    rw [this]
  | e + 1, k, T, h0, hT => by
    have hlen : ((insJ l ⟨j0, j1, j2⟩).filter (fun x => decide (x.f0 < T))).length ≤ 100000 := by
      have := List.length_filter_le (fun x : J3 => decide (x.f0 < T)) (insJ l ⟨j0, j1, j2⟩)
      have := hok.len
      omega
    have hin := radd_inner l run j0 j1 j2 T run ((insJ l ⟨j0, j1, j2⟩).filter (fun x => decide (x.f0 < T))) hl hlen ⟨h0, by omega⟩ l.length (k + (1 + (l.length + 2) * e)) 0 (by omega)
    have ih := radd_outer hok hn hl e k (T + 1) (by omega) (by omega)
    rw [filter_next T hok.2.1] at ih
    have e1 : k + (1 + (l.length + 2) * (e + 1)) = k + (1 + (l.length + 2) * e) + (l.length + 1) + 1 := by rw [Nat.mul_add]; omega
    rw [e1]
    unfold trefoilref18_Add.l0
    rw [if_pos (by omega)]
    rw [List.take_zero, List.filter_nil, List.append_nil, Int.ofNat_zero] at hin
    rw [show k + (1 + (l.length + 2) * e) + (l.length + 1) = k + (1 + (l.length + 2) * e) + (l.length + 1) from rfl, hin]
    by_cases c : j0 = T
    · have h1 : l.filter (fun x => decide (x.f0 = T)) = [] := List.filter_eq_nil_iff.2 (fun x hx => by simp; intro e; exact hn ⟨x, hx, by rw [e, c]⟩)
      rw [if_pos c, h1, List.append_nil]
      rw [filter_insJ_yes (p := fun x : J3 => decide (x.f0 = T)) (j := ⟨j0, j1, j2⟩) (by simpa using c) l h1] at ih
      exact ih
    · rw [if_neg c]
      rw [filter_insJ_no (p := fun x : J3 => decide (x.f0 = T)) (j := ⟨j0, j1, j2⟩) (by simpa using c) l] at ih
      exact ih
theorem radd_yes {l : List J3} {run x0 x1 : Int} {x2 : List Int} {k : Nat} (hk : 2000 < k) (h : okL l run) (hj : okJ ⟨x0, x1, x2⟩) (hn : ¬ hasT l x0) : trefoilref18_Add.f k l run x0 x1 x2 = some (insJ l ⟨x0, x1, x2⟩, run, 0) := by
  have hl := h.len
  have hl2 : ∀ x ∈ l, x.f2.length ≤ 1000 := h.left
  have hx2 : x2.length ≤ 64 := hj.2.2.2.2.2.1
  obtain ⟨b, hb, hi⟩ := rjob (x := ⟨x0, x1, x2⟩) (k := k) (by show x2.length ≤ 1000; omega) (by omega)
  have hb2 : trefoilref18_Job.f k x0 x1 x2 = some true := by rw [← hi.2 hj]; exact hb
  unfold trefoilref18_Add.f
  rw [rcheck_yes (by omega) hl2 hk h]
  simp only [Option.bind_some, if_true]
  rw [hb2]
  simp only [Option.bind_some, Bool.not_true]
  obtain ⟨k', rfl⟩ : ∃ k', k = k' + 1 := ⟨k - 1, by omega⟩
  rw [trefoilref18_Add.j0]
  rw [if_neg (by decide), has_no (by omega) (by omega) hn]
  simp only [Option.bind_some, Bool.false_eq_true, if_false]
  have hm : (l.length + 2) * 8 ≤ 80 := by have := Nat.mul_le_mul_right 8 (show l.length + 2 ≤ 10 by omega); omega
  obtain ⟨q, hq⟩ : ∃ q, k' = q + (1 + (l.length + 2) * 8) := ⟨k' - (1 + (l.length + 2) * 8), by omega⟩
  have := radd_outer (insJ_ok h hj hn) hn (by omega) 8 q 0 (by omega) (by omega)
  have e0 : (insJ l ⟨x0, x1, x2⟩).filter (fun x => decide (x.f0 < 0)) = [] := List.filter_eq_nil_iff.2 (fun x hx => by have := ((insJ_ok h hj hn).1 x hx).1; simp; omega)
  rw [e0] at this
  rw [hq]
  exact this
theorem radd_form {l : List J3} {run x0 x1 : Int} {x2 : List Int} {k : Nat} (hl : l.length ≤ 500) (h2 : ∀ x ∈ l, x.f2.length ≤ 1000) (hx : x2.length ≤ 1000) (hk : 2000 < k) (h : ¬ (okL l run ∧ okJ ⟨x0, x1, x2⟩)) : trefoilref18_Add.f k l run x0 x1 x2 = some ([], 0, 180) := by
  obtain ⟨k', rfl⟩ : ∃ k', k = k' + 1 := ⟨k - 1, by omega⟩
  have hj0 : trefoilref18_Add.j0 (k' + 1) true l run x0 x1 x2 = some ([], 0, 180) := by rw [trefoilref18_Add.j0, if_pos rfl]
  unfold trefoilref18_Add.f
  by_cases c : okL l run
  · obtain ⟨b, hb, hi⟩ := rjob (x := ⟨x0, x1, x2⟩) (k := k' + 1) hx (by omega)
    have hb2 : trefoilref18_Job.f (k' + 1) x0 x1 x2 = some false := by rw [← Bool.eq_false_iff.2 (fun e => h ⟨c, hi.1 e⟩)]; exact hb
    rw [rcheck_yes hl h2 hk c]
    simp only [Option.bind_some, if_true]
    rw [hb2]
    exact hj0
  · rw [rcheck_no hl h2 hk c]
    simp only [Option.bind_some, Bool.false_eq_true, if_false]
    exact hj0
theorem radd_task {l : List J3} {run x0 x1 : Int} {x2 : List Int} {k : Nat} (hk : 2000 < k) (h : okL l run) (hj : okJ ⟨x0, x1, x2⟩) (hn : hasT l x0) : trefoilref18_Add.f k l run x0 x1 x2 = some ([], 0, 181) := by
  have hl := h.len
  have hx2 : x2.length ≤ 64 := hj.2.2.2.2.2.1
  obtain ⟨b, hb, hi⟩ := rjob (x := ⟨x0, x1, x2⟩) (k := k) (by show x2.length ≤ 1000; omega) (by omega)
  have hb2 : trefoilref18_Job.f k x0 x1 x2 = some true := by rw [← hi.2 hj]; exact hb
  unfold trefoilref18_Add.f
  rw [rcheck_yes (by omega) h.left hk h]
  simp only [Option.bind_some, if_true]
  rw [hb2]
  simp only [Option.bind_some, Bool.not_true]
  obtain ⟨k', rfl⟩ : ∃ k', k = k' + 1 := ⟨k - 1, by omega⟩
  rw [trefoilref18_Add.j0]
  rw [if_neg (by decide), has_yes (by omega) (by omega) hn]
  simp
/-- Adding, by both, is the same. -/
theorem add_same {l : List J3} {run x0 x1 : Int} {x2 : List Int} {k : Nat} (hl : l.length ≤ 500) (h2 : ∀ x ∈ l, x.f2.length ≤ 1000) (hx : x2.length ≤ 1000) (hk : 2000 < k) : ∃ X R E, lane_Add.f k l run x0 x1 x2 = some (X, R, E) ∧ trefoilref18_Add.f k l run x0 x1 x2 = some (X, R, E) ∧ ∀ x ∈ X, x.f2.length ≤ 1000 := by
  by_cases c : okL l run ∧ okJ ⟨x0, x1, x2⟩
  · by_cases d : hasT l x0
    · exact ⟨_, _, _, add_task (by omega) c.1 c.2 d, radd_task hk c.1 c.2 d, fun x hx => by cases hx⟩
    · exact ⟨_, _, _, add_yes (by omega) c.1 c.2 d, radd_yes hk c.1 c.2 d, (insJ_ok c.1 c.2 d).left⟩
  · exact ⟨_, _, _, add_form (by omega) (by omega) c, radd_form hl h2 hx hk c, fun x hx => by cases hx⟩
/-! ### Drop -/
theorem without_loop (l : List J3) (run t : Int) (hl : l.length ≤ 1000) : ∀ (d k i : Nat) , i + d = l.length → d < k → trefoilref18_without.l0 k t (i : Int) l run ((l.take i).filter (fun x => decide (¬ x.f0 = t))) run = some (l.filter (fun x => decide (¬ x.f0 = t)), if run = t then -1 else run)
  | 0, k + 1, i, hi, _ => by
    unfold trefoilref18_without.l0
    rw [if_neg (by omega), List.take_of_length_le (by omega)]
    by_cases c : run = t
    · rw [if_pos c, if_pos c]
    · rw [if_neg c, if_neg c]
  | d + 1, k + 1, i, hi, hk => by
    have hlt : i < l.length := by omega
    have hw : wrap64 ((i : Int) + 1) = ((i + 1 : Nat) : Int) := by rw [lw64 (by omega) (by omega)]; omega
    have ht : l.take (i + 1) = l.take i ++ [l.getD i z27] := by rw [List.take_succ_eq_append_getElem hlt, getD_lt hlt]
    have ih := without_loop l run t hl d k (i + 1) (by omega) (by omega)
    have hf : ((l.take i).filter (fun x => decide (¬ x.f0 = t))).length < 3518437208883 := by
      have := List.length_filter_le (fun x : J3 => decide (¬ x.f0 = t)) (l.take i)
      rw [List.length_take] at this
      omega
    rw [ht, List.filter_append] at ih
    unfold trefoilref18_without.l0
    rw [if_pos (by omega), if_pos (by omega), rdJ, hw]
    by_cases c : (l.getD i z27).f0 = t
    · rw [if_pos c]
      rw [List.filter_cons_of_neg (by simpa using c), List.filter_nil, List.append_nil] at ih
      exact ih
    · rw [if_neg c, if_pos hf]
      rw [List.filter_cons_of_pos (by simpa using c), List.filter_nil] at ih
      exact ih
theorem erase_filter : ∀ {l : List J3} {n : Nat}, l.Pairwise (fun a b => a.f0 < b.f0) → n < l.length → l.eraseIdx n = l.filter (fun x => decide (¬ x.f0 = (l.getD n z27).f0))
  | [], n, _, h => by simp at h
  | x :: l, 0, h, _ => by
    rw [List.pairwise_cons] at h
    have e : (x :: l).getD 0 z27 = x := rfl
    rw [e, List.filter_cons_of_neg (by simp), List.eraseIdx_cons_zero]
    exact (List.filter_eq_self.2 (fun y hy => by have := h.1 y hy; simp; omega)).symm
  | x :: l, n + 1, h, hn => by
    rw [List.pairwise_cons] at h
    have hn' : n < l.length := by simpa using hn
    have e : (x :: l).getD (n + 1) z27 = l.getD n z27 := rfl
    have := h.1 _ (mem_getD (z := z27) hn')
    rw [e, List.filter_cons_of_pos (by rw [decide_eq_true_eq]; omega), List.eraseIdx_cons_succ, erase_filter h.2 hn']
theorem drop_same {l : List J3} {run t : Int} {k : Nat} (hl : l.length ≤ 500) (h2 : ∀ x ∈ l, x.f2.length ≤ 1000) (hk : 2000 < k) : ∃ X R E, lane_Drop.f k l run t = some (X, R, E) ∧ trefoilref18_Drop.f k l run t = some (X, R, E) ∧ ∀ x ∈ X, x.f2.length ≤ 1000 := by
  unfold lane_Drop.f trefoilref18_Drop.f
  by_cases c : okL l run
  · rw [check_yes (by omega) (by omega) c, rcheck_yes hl h2 hk c]
    simp only [Option.bind_some, if_true]
    by_cases d : hasT l t
    · rw [has_yes (by omega) (by omega) d]
      have hf : ¬ findI l t < 0 := fun h3 => (findI_neg l t).1 h3 d
      obtain ⟨n, hnf, hnl, hnt⟩ := findI_at hf
      simp only [Option.bind_some, if_true]
      rw [if_neg hf, if_pos c.own, hnf, Int.toNat_natCast]
      unfold trefoilref18_without.f
      have hwl := without_loop l run t (by omega) l.length k 0 (by omega) (by have := c.len; omega)
      rw [List.take_zero, List.filter_nil, Int.ofNat_zero] at hwl
      rw [hwl]
      simp only [Option.bind_some]
      have he := erase_filter c.2.1 hnl
      rw [hnt] at he
      rw [he]
      exact ⟨_, _, _, rfl, rfl, fun x hx => h2 x (List.mem_filter.1 hx).1⟩
    · rw [has_no (by omega) (by omega) d, if_pos ((findI_neg l t).2 d)]
      exact ⟨_, _, _, rfl, rfl, fun x hx => by cases hx⟩
  · rw [check_no (by omega) (by omega) c, rcheck_no hl h2 hk c]
    exact ⟨_, _, _, rfl, rfl, fun x hx => by cases hx⟩
end Go.Proofs.Yteodhffgnkdcfaa.Q

/- Plain facts and words for the document's Tick. -/
set_option linter.unusedVariables false
set_option linter.unusedSimpArgs false
namespace Go.Proofs.Yteodhffgnkdcfaa.Q
open Go.RowKit Go.Proofs.YteodhffgnkdcfaaW.PrintWords Go.Proofs.YteodhffgnkdcfaaW.PrintLast Go.Proofs.YteodhffgnkdcfaaW.PrintMore
attribute [local go_sem] max2_int min2_int max_two min_two max_three min_three max_four min_four
section
variable {P0 : Nat → Prop} {w W W' : World} {ks : List Nat} {v : Value} {xs : List J3} {g g0 : Nat} {L : List (Nat × Array Value × Nat)} {Fs : List (World → Prop)}
theorem NX.app (h : NX P0 w W (g0 :: ks) v xs) (hg : W.grownBy W' (some g0)) (hn : g = g0 ∨ W.heap.size ≤ g) : NX P0 w W' (g :: ks) v xs := by
  have h1 := Kd.N_grown (Kd.N_bound h) hg (fun k hk e => hk.1.2 (by rw [Option.some.inj e]; exact List.mem_cons_self))
  refine Kd.N_mono h1 (fun k hk => ⟨hk.1.1, fun hm => ?_⟩)
  rcases List.mem_cons.1 hm with rfl | hm
  · rcases hn with rfl | hn
    · exact hk.1.2 List.mem_cons_self
    · have := hk.2; omega
  · exact hk.1.2 (List.mem_cons_of_mem _ hm)
theorem Sx.keys (s : Sx w L Fs W) {k : Nat} (hk : k ∈ L.map (·.1)) : w.heap.size ≤ k ∧ k < W.heap.size := by
  obtain ⟨x, hx, rfl⟩ := List.mem_map.1 hk
  obtain ⟨i, hi⟩ := List.mem_iff_getElem?.1 hx
  exact ⟨(s.bx i x hi).2, s.lt hi⟩
theorem NX.ne (h : NX P0 w W (L.map (·.1)) v xs) : ∀ (i : Nat) (x : Nat × Array Value × Nat), L[i]? = some x → some x.1 ≠ v.ownBlock := fun i x hx => h.away (List.mem_map.2 ⟨x, List.mem_of_getElem? hx, rfl⟩)
theorem NX.fresh (s : Sx w L Fs W) : ∀ k, W.heap.size ≤ k → OKp P0 w.heap.size (L.map (·.1)) k := fun k hk => ⟨.inr (Nat.le_trans s.B.size hk), fun hm => by have := (s.keys hm).2; omega⟩
theorem NX.old (s : Sx w L Fs W) (h : NX P0 w W (L.map (·.1)) v xs) : ∀ k, (P0 k ∧ k < w.heap.size) → OKp P0 w.heap.size (L.map (·.1)) k ∧ some k ≠ v.ownBlock := fun k hk => ⟨⟨.inl hk.1, fun hm => by have := (s.keys hm).1; have := hk.2; omega⟩, fun e => by have := Kd.N_base h k e.symm; have := hk.2; omega⟩
end
/-- A tick, with all that it tells. -/
theorem tick_tells {l : List J3} {run : Int} {k : Nat} (hk : 1000 < k) (h : okL l run) (hne : l ≠ []) : ∃ n x0 x1 g tl y r' nd al, lane_Tick.f k l run = some (y, r', x0, nd, al, 0) ∧ okL y r' ∧ n < l.length ∧ l.getD n z27 = ⟨x0, x1, g :: tl⟩ ∧ nextV l run = x0 ∧
    ((g = 1 ∧ r' = -1 ∧ nd = true ∧ (tl = [] ∧ al = true ∧ y = l.eraseIdx n ∨ tl ≠ [] ∧ al = false ∧ y = l.set n ⟨x0, x1, tl⟩)) ∨ (1 < g ∧ r' = x0 ∧ nd = false ∧ al = false ∧ y = l.set n ⟨x0, x1, (g - 1) :: tl⟩)) := by
  have hs := nextV_has h hne
  obtain ⟨s, hse⟩ : ∃ s, nextV l run = s := ⟨_, rfl⟩
  rw [hse] at hs
  have hf : ¬ findI l s < 0 := fun h2 => (findI_neg l s).1 h2 hs
  obtain ⟨n, hnf, hnl, hnt⟩ := findI_at hf
  have hx := h.1 _ (mem_getD (z := z27) hnl)
  obtain ⟨x0, x1, g, tl, hxe⟩ : ∃ x0 x1 g tl, l.getD n z27 = ⟨x0, x1, g :: tl⟩ := by
    have h1 := hx.2.2.2.2.1
    match hh : l.getD n z27, h1 with
    | ⟨x0, x1, g :: tl⟩, _ => exact ⟨x0, x1, g, tl, rfl⟩
  have hx' := hx
  rw [hxe] at hx' hnt
  have hnt : x0 = s := hnt
  subst hnt
  have hg : 1 ≤ g ∧ g ≤ 1000 := hx'.2.2.2.2.2.2 g List.mem_cons_self
  have htl : ∀ q ∈ tl, 1 ≤ q ∧ q ≤ 1000 := fun q hq => hx'.2.2.2.2.2.2 q (List.mem_cons_of_mem _ hq)
  have hlen : tl.length + 1 ≤ 64 := hx'.2.2.2.2.2.1
  have hw : wrap64 (g - 1) = g - 1 := lw64 (by omega) (by omega)
  have hT : lane_Tick.f k l run = some (tickV l x0 n) := by
    unfold lane_Tick.f
    rw [check_yes (by have := h.len; omega) hk h]
    simp only [Option.bind_some, if_true]
    have hs0 : 0 ≤ x0 := hx'.1
    rw [if_pos h.own, hse, if_neg (by omega), if_neg hf, hnf, Int.toNat_natCast]
  by_cases c1 : g - 1 = 0
  · by_cases c2 : tl = []
    · refine ⟨n, x0, x1, g, tl, l.eraseIdx n, -1, true, true, ?_, ⟨(erase_ok ⟨h.1, h.2.1⟩).1, (erase_ok ⟨h.1, h.2.1⟩).2, .inl rfl⟩, hnl, hxe, hse, .inl ⟨by omega, rfl, rfl, .inl ⟨c2, rfl, rfl⟩⟩⟩
      rw [hT]
      unfold tickV
      rw [hxe]
      show some (if wrap64 (g - 1) = 0 then (if tl = [] then _ else _) else _) = _
      rw [hw, if_pos c1, if_pos c2]
    · have hok : okJ ⟨x0, x1, tl⟩ := ⟨hx'.1, hx'.2.1, hx'.2.2.1, hx'.2.2.2.1, by have := List.length_pos_iff.2 c2; show 1 ≤ tl.length; omega, by show tl.length ≤ 64; omega, htl⟩
      have hs2 := set_ok hnl ⟨h.1, h.2.1⟩ hok (by rw [hxe])
      refine ⟨n, x0, x1, g, tl, l.set n ⟨x0, x1, tl⟩, -1, true, false, ?_, ⟨hs2.1, hs2.2, .inl rfl⟩, hnl, hxe, hse, .inl ⟨by omega, rfl, rfl, .inr ⟨c2, rfl, rfl⟩⟩⟩
      rw [hT]
      unfold tickV
      rw [hxe]
      show some (if wrap64 (g - 1) = 0 then (if tl = [] then _ else _) else _) = _
      rw [hw, if_pos c1, if_neg c2]
      rfl
  · have hok : okJ ⟨x0, x1, (g - 1) :: tl⟩ := ⟨hx'.1, hx'.2.1, hx'.2.2.1, hx'.2.2.2.1, by show 1 ≤ tl.length + 1; omega, by show tl.length + 1 ≤ 64; omega, fun q hq => by
      rcases List.mem_cons.1 hq with rfl | hq
      · omega
      · exact htl q hq⟩
    have hs2 := set_ok hnl ⟨h.1, h.2.1⟩ hok (by rw [hxe])
    refine ⟨n, x0, x1, g, tl, l.set n ⟨x0, x1, (g - 1) :: tl⟩, x0, false, false, ?_, ⟨hs2.1, hs2.2, .inr (hasT_set (x := ⟨x0, x1, (g - 1) :: tl⟩) hnl)⟩, hnl, hxe, hse, .inr ⟨by omega, rfl, rfl, rfl, rfl⟩⟩
    rw [hT]
    unfold tickV
    rw [hxe]
    show some (if wrap64 (g - 1) = 0 then _ else (l.set n ⟨x0, x1, wrap64 (g - 1) :: tl⟩, x0, x0, false, false, 0)) = _
    rw [hw, if_neg c1]
theorem set_split {l : List J3} {n : Nat} (h : n < l.length) (x : J3) : l.set n x = l.take n ++ [x] ++ l.drop (n + 1) := by
  rw [List.set_eq_take_append_cons_drop, if_pos h]; simp
theorem erase_split {l : List J3} {n : Nat} (h : n < l.length) : l.eraseIdx n = l.take n ++ [] ++ l.drop (n + 1) := by
  rw [List.eraseIdx_eq_take_drop_succ]; simp
end Go.Proofs.Yteodhffgnkdcfaa.Q
