/- A task that can be read. -/
import Derived.Test.YteodhffgnkdcfaaDoorQx0
import Derived.Test.YteodhffgnkdcfaaDoorOpenBase
set_option linter.unusedVariables false
namespace Go.Proofs.YteodhffgnkdcfaaDoor.Open
open Go.RowKit Go.ChangeShapes Go.WideShapes Go.Deep Go.Proofs.YteodhffgnkdcfaaDoorW.PrintWords Go.Proofs.YteodhffgnkdcfaaDoor.Q
section
variable {H : Type} {enc : TypeId × Value → H} {w : World}
set_option maxRecDepth 100000 in
theorem task_fields : ∃ fs : Array Field, Tryd.prog.underlying 27 = some (.struct fs) ∧ oneCellFields Tryd.prog fs = true ∧ fs.size = 3 ∧ (∀ f : Field, fs[0]? = some f → Tryd.prog.underlying f.type = some (.slice 3)) ∧ (∀ (j : Nat) (f : Field), 1 ≤ j → j < 3 → fs[j]? = some f → Tryd.prog.underlying f.type = some (.int .i64)) := by
  refine ⟨_, Tryd.underlying27, by kernel_rfl, by kernel_rfl, fun f hj => ?_, fun j f h0 h3 hj => ?_⟩
  · obtain rfl := Option.some.inj hj
    exact Tryd.underlying23
  · match j, h0, h3, hj with
    | 1, _, _, hj => obtain rfl := Option.some.inj hj; exact Tryd.underlying3
    | 2, _, _, hj => obtain rfl := Option.some.inj hj; exact Tryd.underlying3
set_option maxRecDepth 100000 in
theorem task_cells {fuel : Nat} {cs : List Value} {x : DataW H × List MemPlace} (h : DataW.trod enc Tryd.prog w 0 (fun _ => true) true fuel 27 cs = some x) :
    ∃ (s : S27) (A : Option Addr) (c : Nat), cs = [.slice A s.f0.length c, .int .i64 s.f1, .int .i64 s.f2] ∧ s.f0.length ≤ c ∧ Kd.C (Kd.int .i64) w A s.f0.length s.f0 := by
  obtain ⟨fs, hu, hone, hsz, ht0, hty⟩ := task_fields
  obtain ⟨hl, n, hg⟩ := fields_open hu hone (by rw [hsz]; kernel_rfl) h
  rw [hsz] at hl
  obtain ⟨c0, c1, c2, rfl⟩ : ∃ c0 c1 c2, cs = [c0, c1, c2] := by
    match cs, hl with
    | [c0, c1, c2], _ => exact ⟨c0, c1, c2, rfl⟩
  have G : ∀ j, 1 ≤ j → j < 3 → ∃ v : Int, [c0, c1, c2][j]? = some (.int .i64 v) := fun j h1 hj => by
    have hj' : j < fs.size := by omega
    obtain ⟨c, y, hc, hd⟩ := hg j fs[j] (Array.getElem?_eq_getElem hj')
    obtain ⟨v, he, _, _⟩ := DataW.trod_int (hty j fs[j] h1 hj (Array.getElem?_eq_getElem hj')) hd
    have : c = .int .i64 v := by simpa using he
    exact ⟨v, by rw [hc, this]⟩
  obtain ⟨v1, h1⟩ := G 1 (by omega) (by omega)
  obtain ⟨v2, h2⟩ := G 2 (by omega) (by omega)
  obtain rfl : c1 = _ := Option.some.inj h1
  obtain rfl : c2 = _ := Option.some.inj h2
  have hj' : 0 < fs.size := by omega
  obtain ⟨c, y, hc, hd⟩ := hg 0 fs[0] (Array.getElem?_eq_getElem hj')
  obtain rfl : c0 = c := Option.some.inj hc
  obtain ⟨xs, A, cp, he, hle, hK⟩ := opens_slice (e' := 3) (d := Kd.int .i64) (0 : Int) (ht0 fs[0] (Array.getElem?_eq_getElem hj')) (by kernel_rfl) (opens_int Tryd.underlying3) n _ _ hd
  obtain rfl : c0 = _ := by simpa using he
  exact ⟨⟨xs, v1, v2⟩, A, cp, rfl, hle, hK⟩
theorem opens27 : Opens enc Tryd.prog w 27 k27 := fun fuel cs x h => by
  obtain ⟨s, A, c, rfl, hl, hC⟩ := task_cells h
  exact ⟨s, k27_mk w s hl hC⟩
end
end Go.Proofs.YteodhffgnkdcfaaDoor.Open
