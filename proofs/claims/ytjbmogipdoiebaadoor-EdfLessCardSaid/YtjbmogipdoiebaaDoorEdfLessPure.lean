/- Plain facts: the statement EdfLess, as numbers and lists, is true. No memory and no Go in it. -/
import Derived.Test.YtjbmogipdoiebaaDoorQx13
import Derived.Test.YtjbmogipdoiebaaDoorEdfAwakePure
namespace Go.Proofs.YtjbmogipdoiebaaDoor.Q
open Go.RowKit Go.Proofs.YtjbmogipdoiebaaDoorW.PrintWords Go.Proofs.YtjbmogipdoiebaaDoorW.PrintLast Go.Proofs.YtjbmogipdoiebaaDoorW.PrintMore
theorem less_true (k : Nat) (hk : 30 ≤ k) (l : List S34) (t : Int) : trefoillaw15_EdfLess.j0 (k + 1) l t true = some true := by
  simp only [trefoillaw15_EdfLess.j0]
  rw [if_pos True.intro, awake_eq _ hk]
  rfl
theorem D_append (a b : List S34) (t : Int) : D (a ++ b) t = D a t + D b t := by unfold D; rw [List.map_append, List.sum_append]
/-- Fewer of them fit, too. -/
theorem fit_of_sub {l m : List S34} (h : okL l) (hf : AllFit l) (hlen : m.length ≤ l.length) (hs : ∀ s ∈ m, s ∈ l) (hd : ∀ t, 0 ≤ t → D m t ≤ D l t) : okL m ∧ AllFit m := by
  have h1 := h.1
  refine ⟨⟨by omega, fun s hm => h.2 s (hs s hm)⟩, fun t ht hp => ?_⟩
  have h2 := hd t (by omega)
  have h3 := hf t ht (by omega)
  have h4 : B m t ≤ B l t := B_le.2 ⟨B_nonneg l t, fun s hm hh => (B_le.1 (Int.le_refl (B l t))).2 s (hs s hm) hh⟩
  omega
theorem d1_nonneg {s : S34} (h : okS s) (t : Int) : 0 ≤ d1 t s := by
  have hp := okS_p h
  unfold d1
  by_cases hd : t < s.f3
  · rw [if_pos hd]; omega
  · rw [if_neg hd]
    have q0 : 0 ≤ (t - s.f3) / s.f4 := Int.ediv_nonneg (by omega) (by omega)
    exact Int.mul_nonneg (by have := h.2.2.2.1; omega) (by omega)
theorem D_nonneg {l : List S34} (h : ∀ s ∈ l, okS s) (t : Int) : 0 ≤ D l t := by
  induction l with
  | nil => rw [D_nil]; omega
  | cons s l ih =>
    rw [D_cons]
    have := d1_nonneg (h s (by simp)) t
    have := ih (fun x hx => h x (by simp [hx]))
    omega
theorem edfLess (K : Nat) (hK : 50000 < K) (l : List S34) (t : Int) : trefoillaw15_EdfLess.f K l t = some true := by
  obtain ⟨k, rfl⟩ : ∃ k, K = k + 1 := ⟨K - 1, by omega⟩
  unfold trefoillaw15_EdfLess.f
  rw [awake_eq _ (by omega)]
  simp only [Option.bind_some, if_true]
  by_cases hl : (l.length : Int) > 20
  · rw [if_pos hl]
    exact less_true k (by omega) l t
  · rw [if_neg hl, own_eq l (by omega)]
    simp only [Option.bind_some]
    rw [fits_eq l _ (by omega)]
    simp only [Option.bind_some]
    by_cases hf : okL l ∧ AllFit l
    · rw [dec_yes hf, if_pos rfl]
      by_cases h1 : t < 0
      · rw [if_pos h1]
        exact less_true k (by omega) l t
      · rw [if_neg h1]
        by_cases h2 : t ≥ (l.length : Int)
        · rw [decide_eq_true h2]
          exact less_true k (by omega) l t
        · rw [decide_eq_false h2]
          obtain ⟨i, rfl⟩ := Int.eq_ofNat_of_zero_le (show 0 ≤ t by omega)
          have hi : i < l.length := by omega
          simp only [trefoillaw15_EdfLess.j0]
          rw [if_neg (by decide), if_pos (by omega), if_pos (by omega), Int.toNat_natCast, own_eq _ (by rw [List.length_take]; omega), w64 (by omega) (by omega)]
          simp only [Option.bind_some]
          rw [if_pos (by omega), if_pos (by omega), show ((i : Int) + 1).toNat = i + 1 from by omega]
          have hsplit : l = l.take i ++ rd_T34 l (i : Int) :: l.drop (i + 1) := by rw [← rdT_nat l i hi, List.take_append_drop]
          generalize hx : rd_T34 l (i : Int) = x at *
          generalize ha : l.take i = a at *
          generalize hb : l.drop (i + 1) = b at *
          have hla : a.length + (b.length + 1) = l.length := by rw [hsplit]; simp
          have hm1 : ∀ s, s ∈ a ++ b → s ∈ l := fun s hs => by
            rw [hsplit]
            rcases List.mem_append.1 hs with h | h
            · exact List.mem_append.2 (.inl h)
            · exact List.mem_append.2 (.inr (List.mem_cons_of_mem _ h))
          have hxm : x ∈ l := by rw [hsplit]; simp
          have hD : ∀ u, D l u = D a u + (d1 u x + D b u) := fun u => by rw [hsplit, D_append, D_cons]
          have hok : ∀ s ∈ l, okS s := fun s hs => (hf.1.2 s hs).1
          have F1 : okL (a ++ b) ∧ AllFit (a ++ b) := fit_of_sub hf.1 hf.2 (by rw [List.length_append]; omega) hm1 (fun u hu => by
            rw [D_append, hD]
            have := d1_nonneg (hok x hxm) u
            omega)
          have F2 : okL [x] ∧ AllFit [x] := fit_of_sub hf.1 hf.2 (by simp; omega) (fun s hs => by simp at hs; rw [hs]; exact hxm) (fun u hu => by
            rw [D_cons, D_nil, hD]
            have := D_nonneg (l := a) (fun s hs => hok s (hm1 s (List.mem_append.2 (.inl hs)))) u
            have := D_nonneg (l := b) (fun s hs => hok s (hm1 s (List.mem_append.2 (.inr hs)))) u
            omega)
          have F3 : okL ([x] ++ (a ++ b)) ∧ AllFit ([x] ++ (a ++ b)) := fit_of_sub hf.1 hf.2 (by simp; omega) (fun s hs => by
            rcases List.mem_append.1 hs with h | h
            · simp at h; rw [h]; exact hxm
            · exact hm1 s h) (fun u hu => by
            rw [D_append, D_cons, D_nil, D_append, hD]
            omega)
          have ex : (⟨x.f0, x.f1, x.f2, x.f3, x.f4⟩ : S34) = x := rfl
          rw [if_pos (by omega), ex, fits_eq (a ++ b) k (by omega), dec_yes F1, fits_eq [x] k (by omega), dec_yes F2]
          simp only [Option.bind_some, if_true, List.length_nil, List.nil_append]
          rw [if_pos (by omega), if_pos (by decide), if_pos (by rw [List.length_append]; simp; omega), fits_eq _ k (by omega), dec_yes F3]
          rfl
    · rw [dec_no hf, if_neg (by decide)]
      exact less_true k (by omega) l t
end Go.Proofs.YtjbmogipdoiebaaDoor.Q
