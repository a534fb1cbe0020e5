/- A shape that can be read: five whole numbers. -/
import Derived.Test.YtjbmogipdoiebaaDoorQx0
import Derived.Test.YtjbmogipdoiebaaDoorOpenBase
set_option linter.unusedVariables false
namespace Go.Proofs.YtjbmogipdoiebaaDoor.Open
open Go.RowKit Go.ChangeShapes Go.WideShapes Go.Deep Go.Proofs.YtjbmogipdoiebaaDoorW.PrintWords Go.Proofs.YtjbmogipdoiebaaDoor.Q
section
variable {H : Type} {enc : TypeId × Value → H} {w : World}
theorem shape_fields : ∃ fs : Array Field, Tryd.prog.underlying 34 = some (.struct fs) ∧ oneCellFields Tryd.prog fs = true ∧ fs.size = 5 ∧ ∀ (j : Nat) (f : Field), fs[j]? = some f → Tryd.prog.underlying f.type = some (.int .i64) := by
  refine ⟨_, Tryd.underlying34, by kernel_rfl, by kernel_rfl, fun j f hj => ?_⟩
  have hlt : j < 5 := (Array.getElem?_eq_some_iff.1 hj).1
  match j, hlt, hj with
  | 0, _, hj => obtain rfl := Option.some.inj hj; exact Tryd.underlying3
  | 1, _, hj => obtain rfl := Option.some.inj hj; exact Tryd.underlying3
  | 2, _, hj => obtain rfl := Option.some.inj hj; exact Tryd.underlying3
  | 3, _, hj => obtain rfl := Option.some.inj hj; exact Tryd.underlying3
  | 4, _, hj => obtain rfl := Option.some.inj hj; exact Tryd.underlying3
theorem shape_cells {fuel : Nat} {cs : List Value} {x : DataW H × List MemPlace} (h : DataW.trod enc Tryd.prog w 0 (fun _ => true) true fuel 34 cs = some x) :
    ∃ s : S34, cs = [.int .i64 s.f0, .int .i64 s.f1, .int .i64 s.f2, .int .i64 s.f3, .int .i64 s.f4] := by
  obtain ⟨fs, hu, hone, hsz, hty⟩ := shape_fields
  obtain ⟨hl, n, hf⟩ := fields_open hu hone (by rw [hsz]; kernel_rfl) h
  rw [hsz] at hl
  have G : ∀ j, j < 5 → ∃ v : Int, cs[j]? = some (.int .i64 v) := fun j hj => by
    have hj' : j < fs.size := by omega
    obtain ⟨c, y, hc, hd⟩ := hf j fs[j] (Array.getElem?_eq_getElem hj')
    obtain ⟨v, he, _, _⟩ := DataW.trod_int (hty j fs[j] (Array.getElem?_eq_getElem hj')) hd
    have : c = .int .i64 v := by simpa using he
    exact ⟨v, by rw [hc, this]⟩
  obtain ⟨c0, c1, c2, c3, c4, rfl⟩ : ∃ c0 c1 c2 c3 c4, cs = [c0, c1, c2, c3, c4] := by
    match cs, hl with
    | [c0, c1, c2, c3, c4], _ => exact ⟨c0, c1, c2, c3, c4, rfl⟩
  obtain ⟨v0, h0⟩ := G 0 (by omega)
  obtain ⟨v1, h1⟩ := G 1 (by omega)
  obtain ⟨v2, h2⟩ := G 2 (by omega)
  obtain ⟨v3, h3⟩ := G 3 (by omega)
  obtain ⟨v4, h4⟩ := G 4 (by omega)
  obtain rfl : c0 = _ := Option.some.inj h0
  obtain rfl : c1 = _ := Option.some.inj h1
  obtain rfl : c2 = _ := Option.some.inj h2
  obtain rfl : c3 = _ := Option.some.inj h3
  obtain rfl : c4 = _ := Option.some.inj h4
  exact ⟨⟨v0, v1, v2, v3, v4⟩, rfl⟩
theorem opens34 : Opens enc Tryd.prog w 34 k34 := fun fuel cs x h => by
  obtain ⟨s, rfl⟩ := shape_cells h
  exact ⟨s, k34_mk w s⟩
/-- A shape that is handed over by value. -/
theorem arg34 {r : Reach} {b0 : Nat} {v : Value} {d : DataW H} {p : List MemPlace} (hv : Value.okWide Tryd.prog w r b0 34 v) (h : DataW.Trod enc Tryd.prog w 0 (fun _ => true) true 34 v d p) :
    ∃ s : S34, v = .agg #[.int .i64 s.f0, .int .i64 s.f1, .int .i64 s.f2, .int .i64 s.f3, .int .i64 s.f4] := by
  obtain ⟨fs, hu, _⟩ := shape_fields
  obtain ⟨cs, rfl, _⟩ := okWide_struct hu hv
  obtain ⟨fuel, hf⟩ := h
  obtain ⟨s, hs⟩ := shape_cells hf
  refine ⟨s, ?_⟩
  obtain ⟨l⟩ := cs
  have : l = [.int .i64 s.f0, .int .i64 s.f1, .int .i64 s.f2, .int .i64 s.f3, .int .i64 s.f4] := by simpa [Value.cells] using hs
  rw [this]
end
end Go.Proofs.YtjbmogipdoiebaaDoor.Open
