/- Plain facts: the statement EdfAlone, as numbers and lists, is true. No memory and no Go in it. -/
import Derived.Test.YtjbmogipdoiebaaDoorQx14
import Derived.Test.YtjbmogipdoiebaaDoorEdfAwakePure
namespace Go.Proofs.YtjbmogipdoiebaaDoor.Q
open Go.RowKit Go.Proofs.YtjbmogipdoiebaaDoorW.PrintWords Go.Proofs.YtjbmogipdoiebaaDoorW.PrintLast Go.Proofs.YtjbmogipdoiebaaDoorW.PrintMore
theorem d1_le {s : S34} (h : okS s) (c : Int) (hc : c * s.f0 ≤ s.f3) (t : Int) (ht : s.f3 ≤ t) : c * d1 t s ≤ t := by
  have hp := okS_p h
  obtain ⟨_, g1, g2, g3, g4, _⟩ := h
  unfold d1
  rw [if_neg (by omega)]
  have q0 : 0 ≤ (t - s.f3) / s.f4 := Int.ediv_nonneg (by omega) (by omega)
  have hm : (t - s.f3) / s.f4 * s.f4 ≤ t - s.f3 := Int.ediv_mul_le _ (by omega)
  generalize (t - s.f3) / s.f4 = q at *
  have e : c * (s.f0 * (q + 1)) = c * s.f0 * q + c * s.f0 := by rw [← Int.mul_assoc, Int.mul_add, Int.mul_one]
  have h1 : c * s.f0 * q ≤ s.f4 * q := Int.mul_le_mul_of_nonneg_right (by omega) q0
  rw [Int.mul_comm q] at hm
  omega
theorem alone_fit {s : S34} (h : okS s) (hd : s.f0 ≤ s.f3) : AllFit [s] := by
  intro t h1 hp
  rw [D_cons, D_nil, Int.add_zero] at hp ⊢
  by_cases ht : t < s.f3
  · unfold d1 at hp; rw [if_pos ht] at hp; omega
  · have hb : B [s] t ≤ 0 := B_le.2 ⟨by omega, fun x hx hh => by simp at hx; rw [hx] at hh; omega⟩
    have := d1_le h 1 (by omega) t (by omega)
    omega
theorem two_fit {s : S34} (h : okS s) : AllFit [s, s] ↔ 2 * s.f0 ≤ s.f3 := by
  have g1 := h.2.1
  have g3 := h.2.2.2.1
  constructor
  · intro hf
    have e : d1 s.f3 s = s.f0 := by
      unfold d1
      rw [if_neg (by omega), Int.sub_self, Int.zero_ediv]
      omega
    have hD : D [s, s] s.f3 = 2 * s.f0 := by rw [D_cons, D_cons, D_nil, e]; omega
    have := hf s.f3 g1 (by rw [hD]; omega)
    have := B_nonneg [s, s] s.f3
    omega
  · intro hd t h1 hp
    rw [D_cons, D_cons, D_nil, Int.add_zero] at hp ⊢
    by_cases ht : t < s.f3
    · unfold d1 at hp; rw [if_pos ht] at hp; omega
    · have hb : B [s, s] t ≤ 0 := B_le.2 ⟨by omega, fun x hx hh => by simp at hx; rw [hx] at hh; omega⟩
      have := d1_le h 2 hd t (by omega)
      omega
theorem edfAlone (K : Nat) (hK : 50000 < K) (a b c d e : Int) : trefoillaw15_EdfAlone.f K a b c d e = some true := by
  unfold trefoillaw15_EdfAlone.f
  rw [awake_eq _ (by omega)]
  simp only [Option.bind_some, if_true]
  obtain ⟨s, hs⟩ : ∃ s : S34, s = ⟨a, b, c, d, e⟩ := ⟨_, rfl⟩
  have ea : a = s.f0 := by rw [hs]
  have ed : d = s.f3 := by rw [hs]
  rw [← hs, ea, ed]
  obtain ⟨x, hx, h2, hi⟩ := edfCheck_eq [s]
  rw [hx]
  simp only [Option.bind_some]
  by_cases h0 : x = 0
  · have h := hi.1 h0
    obtain ⟨hk, hd⟩ := h.2 s (by simp)
    have hp := okS_p hk
    have g := hk
    obtain ⟨_, g1, g2, g3, g4, _⟩ := g
    rw [if_pos h0, (demandV_eq [s] s.f3).2.2 h (by omega) (by omega), fits_eq [s] K (by omega), dec_yes ⟨h, alone_fit hk hd⟩]
    have hD : D [s] s.f3 = s.f0 := by
      rw [D_cons, D_nil]
      unfold d1
      rw [if_neg (by omega), Int.sub_self, Int.zero_ediv]
      omega
    simp only [Option.bind_some, if_true]
    rw [if_pos hD, fits_eq [s, s] K (by omega), w64 (by omega) (by omega)]
    simp only [Option.bind_some]
    have h2 : okL [s, s] := ⟨by simp, fun y hy => by simp at hy; rw [hy]; exact ⟨hk, hd⟩⟩
    by_cases ht : 2 * s.f0 ≤ s.f3
    · rw [dec_yes ⟨h2, (two_fit hk).2 ht⟩, decide_eq_true ht]; rfl
    · rw [dec_no (fun hh => ht ((two_fit hk).1 hh.2)), decide_eq_false ht]; rfl
  · rw [if_neg h0, fits_eq [s] K (by omega), dec_no (fun hh => h0 (hi.2 hh.1))]
    rfl
end Go.Proofs.YtjbmogipdoiebaaDoor.Q
