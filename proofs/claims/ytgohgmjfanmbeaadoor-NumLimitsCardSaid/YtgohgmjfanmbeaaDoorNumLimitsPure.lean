/- Plain facts: the statement NumLimits, as numbers and lists, is true. No memory and no Go in it. -/
import Derived.Test.YtgohgmjfanmbeaaDoorQx9
import Derived.Test.YtgohgmjfanmbeaaDoorAwakePure
namespace Go.Proofs.YtgohgmjfanmbeaaDoor.Q
open Go.RowKit Go.Proofs.YtgohgmjfanmbeaaDoorW.PrintWords Go.Proofs.YtgohgmjfanmbeaaDoorW.PrintLast Go.Proofs.YtgohgmjfanmbeaaDoorW.PrintMore

theorem sum_take_le {l : List Int} (h : ∀ x ∈ l, 0 ≤ x) (i : Nat) : (l.take i).sum ≤ l.sum := by
  have e : l.sum = (l.take i).sum + (l.drop i).sum := by rw [← List.sum_append, List.take_append_drop]
  have := sum_nonneg (l := l.drop i) (fun x hx => h x (List.mem_of_mem_drop hx))
  omega
theorem limits_l0 (l : List Int) (hl : l.length ≤ 60) (d : Nat) : ∀ (k i : Nat), i + d = l.length → d + 62 < k → trefoillaw01_NumLimits.l0 k l (addV l).1 (addV l).2 (i : Int) = some true := by
  have fin : (if (addV l).2 = 0 then ((num_Check.f (addV l).1).bind fun t265 => (some (t265 == 0))) else (if (addV l).1 = 0 then (some true) else (some false))) = some true := by
    rw [check_eq]
    simp only [Option.bind_some]
    unfold addV
    by_cases hf : firstV l = 0
    · rw [if_pos hf]
      by_cases hs : l.sum ≤ 1099511627775
      · have := sum_nonneg (l := l) (fun x hx => (firstV_ok.1 hf x hx).1)
        rw [if_pos hs, if_pos rfl, code_ok.2 ⟨this, hs⟩]; rfl
      · rw [if_neg hs]; rfl
    · rw [if_neg hf, if_neg hf]; rfl
  induction d with
  | zero =>
    intro k i hi hk
    obtain ⟨k, rfl⟩ : ∃ m, k = m + 1 := ⟨k - 1, by omega⟩
    simp only [trefoillaw01_NumLimits.l0]
    rw [if_neg (by omega)]
    exact fin
  | succ d ih =>
    intro k i hi hk
    obtain ⟨k, rfl⟩ : ∃ m, k = m + 1 := ⟨k - 1, by omega⟩
    have hr := ih k (i + 1) (by omega) (by omega)
    rw [show ((i + 1 : Nat) : Int) = (i : Int) + 1 from by omega] at hr
    simp only [trefoillaw01_NumLimits.l0]
    simp only [Option.bind_some, List.nil_append, List.length_nil, Nat.zero_add]
    rw [if_pos (by omega), if_pos (by omega), if_pos (by omega), Int.toNat_natCast, if_pos (by rw [List.length_take]; omega), add_eq (l.take i) (by rw [List.length_take]; omega) k (by rw [List.length_take]; omega), w64 (by omega) (by omega), hr]
    simp only [Option.bind_some]
    by_cases he : (addV l).2 = 0
    · rw [if_pos he]
      have hf := addV_ok he
      have hall := firstV_ok.1 hf
      have hs : l.sum ≤ 1099511627775 ∧ (addV l).1 = l.sum := by
        unfold addV at he ⊢
        rw [if_pos hf] at he ⊢
        by_cases hs : l.sum ≤ 1099511627775
        · rw [if_pos hs]; exact ⟨hs, rfl⟩
        · rw [if_neg hs] at he; cases he
      have ht := sum_take_le (fun x hx => (hall x hx).1) i
      have hf2 : firstV (l.take i) = 0 := firstV_ok.2 (fun x hx => hall x (List.mem_of_mem_take hx))
      have e2 : addV (l.take i) = ((l.take i).sum, 0) := by
        have := hs.1
        unfold addV
        rw [if_pos hf2, if_pos (by omega)]
      rw [e2, hs.2]
      simp only [if_true]
      rw [if_neg (by omega), if_neg (by decide)]
    · rw [if_neg he]
      split <;> rfl
theorem numLimits (l : List Int) : trefoillaw01_NumLimits.f 200 l = some true := by
  unfold trefoillaw01_NumLimits.f
  rw [awake_eq 200 (by omega)]
  simp only [Option.bind_some, if_true]
  by_cases hl : (l.length : Int) > 60
  · rw [decide_eq_true hl]
    simp only [trefoillaw01_NumLimits.j0]
    rw [if_pos True.intro, awake_eq 199 (by omega)]
    rfl
  · rw [decide_eq_false hl]
    simp only [trefoillaw01_NumLimits.j0]
    rw [if_neg (by decide)]
    simp only [Option.bind_some, List.nil_append, List.length_nil, Nat.zero_add]
    rw [if_pos (by omega), add_eq l (by omega) 199 (by omega)]
    simp only [Option.bind_some]
    have := limits_l0 l (by omega) l.length 199 0 (by omega) (by omega)
    simpa using this
end Go.Proofs.YtgohgmjfanmbeaaDoor.Q
