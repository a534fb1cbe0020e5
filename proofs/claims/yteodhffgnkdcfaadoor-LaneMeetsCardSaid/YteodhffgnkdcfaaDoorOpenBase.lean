/- What an argument that can be read gives a proof: whole numbers, slices and structs of one-cell fields, as the printed words tell them. -/
import Derived.Test.YteodhffgnkdcfaaDoorWWords
import Derived.Test.YteodhffgnkdcfaaDoorWMore
import Derived.ChangeShapes
import Derived.ChangeArms
import Derived.Deep.Slices
import Derived.Deep.Fields
set_option linter.unusedVariables false
namespace Go.Proofs.YteodhffgnkdcfaaDoor.Open
open Go.RowKit Go.ChangeShapes Go.WideShapes Go.Deep Go.Proofs.YteodhffgnkdcfaaDoorW.PrintWords

section
variable {H : Type} {enc : TypeId × Value → H} {P : Program} {w : World}
/-- Whatever reads at type t is a value of this kind. -/
def Opens {α : Type} (enc : TypeId × Value → H) (P : Program) (w : World) (t : TypeId) (d : Kd α) : Prop :=
  ∀ fuel cs x, DataW.trod enc P w 0 (fun _ => true) true fuel t cs = some x → ∃ a, d.K w a cs
theorem opens_int {t : TypeId} {k : IntKind} (ht : P.underlying t = some (.int k)) : Opens enc P w t (Kd.int k) := by
  intro fuel cs x h
  obtain ⟨v, rfl, _, _⟩ := DataW.trod_int ht h
  exact ⟨v, rfl⟩
theorem opens_bool {t : TypeId} (ht : P.underlying t = some .bool) : Opens enc P w t Kd.bool := by
  intro fuel cs x h
  obtain ⟨v, rfl, _⟩ := DataW.trod_bool ht h
  exact ⟨v, rfl⟩
theorem fields_open {t : TypeId} {fs : Array Field} {fuel : Nat} {cs : List Value} {x : DataW H × List MemPlace} (ht : P.underlying t = some (.struct fs)) (hone : oneCellFields P fs = true) (hC : P.cellsOf t = fs.size)
    (h : DataW.trod enc P w 0 (fun _ => true) true fuel t cs = some x) :
    cs.length = fs.size ∧ ∃ n, ∀ (j : Nat) (f : Field), fs[j]? = some f → ∃ c y, cs[j]? = some c ∧ DataW.trod enc P w 0 (fun _ => true) true n f.type [c] = some y := by
  obtain ⟨xs, n, _, _, hl, hx, hf⟩ := DataW.trod_struct ht h
  rw [hC] at hl
  refine ⟨hl, n, fun j f hj => ?_⟩
  obtain ⟨ho, hk⟩ := hone_of hone j f hj
  have hjl : j < fs.size := (Array.getElem?_eq_some_iff.1 hj).1
  have h1 := hf j f hj
  rw [ho, hk, List.drop_eq_getElem_cons (by omega), List.take_succ_cons, List.take_zero, List.getElem?_eq_getElem (by omega)] at h1
  exact ⟨_, _, List.getElem?_eq_getElem (by omega), h1⟩
theorem opens_slice {α : Type} {t e e' : TypeId} {d : Kd α} (z : α) (ht : P.underlying t = some (.slice e)) (hC : P.cellsOf e = d.sz) (ho : Opens enc P w e d) : Opens enc P w t (Kd.slice e' d) := by
  intro fuel cs x h
  rcases open_slice ht h with ⟨rfl, _⟩ | ⟨a, len, cap, m, n, D, Pl, rfl, _, hl, hm, hmm, _, hi⟩
  · exact ⟨[], none, 0, rfl, by simp, rfl, by simp, fun hn => absurd hn (by simp)⟩
  · have hm' : m = cap := by simpa using hmm
    have H : ∀ i, ∃ b : α, i < len → ∃ c, c.length = d.sz ∧ d.K w b c ∧ ∀ j u, c[j]? = some u → w.cell? (a.add (i * d.sz + j)) = some u := by
      intro i
      by_cases hlt : i < len
      · obtain ⟨cs', hc, hd⟩ := hi i (by omega)
        rw [hC] at hc
        obtain ⟨b, hb⟩ := ho n cs' _ hd
        obtain ⟨_, hcl, hat⟩ := World.cells?_some hc
        refine ⟨b, fun _ => ⟨cs', hcl, hb, fun j u hu => ?_⟩⟩
        have hj : j < d.sz := by rw [← hcl]; exact (List.getElem?_eq_some_iff.1 hu).1
        rw [← hu, ← hat j hj, ← Go.Deep.add_add]
      · exact ⟨z, fun h => absurd h hlt⟩
    let f : Nat → α := fun i => Classical.choose (H i)
    have hf : ∀ i, i < len → ∃ c, c.length = d.sz ∧ d.K w (f i) c ∧ ∀ j u, c[j]? = some u → w.cell? (a.add (i * d.sz + j)) = some u := fun i => Classical.choose_spec (H i)
    have hlen : ((List.range len).map f).length = len := by simp
    refine ⟨(List.range len).map f, some a, cap, by rw [hlen], by rw [hlen]; exact hl, rfl, ?_, fun hn => ⟨a, rfl, fun j p hp => ?_⟩⟩
    · rw [hlen]; unfold maxLen at hm; omega
    · have hj : j < len := by rw [← hlen]; exact (List.getElem?_eq_some_iff.1 hp).1
      have hpj : p = f j := by
        rw [List.getElem?_map, List.getElem?_range hj] at hp
        simpa using hp.symm
      rw [hpj]
      exact hf j hj
/-- A slice argument, opened. -/
theorem arg_slice {α : Type} {t e : TypeId} {d : Kd α} {a : Option Addr} {len cap : Nat} {x : DataW H} {p : List MemPlace} (z : α) (ht : P.underlying t = some (.slice e)) (hC : P.cellsOf e = d.sz) (ho : Opens enc P w e d)
    (h : DataW.Trod enc P w 0 (fun _ => true) true t (.slice a len cap) x p) : ∃ xs : List α, len = xs.length ∧ xs.length ≤ cap ∧ Kd.C d w a xs.length xs := by
  obtain ⟨fuel, hf⟩ := h
  obtain ⟨xs, A, c, he, hc, hK⟩ := opens_slice (e' := e) z ht hC ho fuel _ _ hf
  simp only [Value.cells, List.cons.injEq, Value.slice.injEq, and_true] at he
  obtain ⟨rfl, rfl, rfl⟩ := he
  exact ⟨xs, rfl, hc, hK⟩
end
end Go.Proofs.YteodhffgnkdcfaaDoor.Open
