/- An act that can be read: one whole number. -/
import Derived.Test.YtdmgigicbppjkaaDoorQx0
import Derived.Test.YtdmgigicbppjkaaDoorOpenBase
set_option linter.unusedVariables false
namespace Go.Proofs.YtdmgigicbppjkaaDoor.Open
open Go.RowKit Go.ChangeShapes Go.WideShapes Go.Deep Go.Proofs.YtdmgigicbppjkaaDoorW.PrintWords Go.Proofs.YtdmgigicbppjkaaDoor.Q
section
variable {H : Type} {enc : TypeId × Value → H} {w : World}
theorem act_fields : ∃ fs : Array Field, Tryd.prog.underlying 51 = some (.struct fs) ∧ oneCellFields Tryd.prog fs = true ∧ fs.size = 1 ∧ ∀ (j : Nat) (f : Field), fs[j]? = some f → Tryd.prog.underlying f.type = some (.int .i64) := by
  refine ⟨_, Tryd.underlying51, by kernel_rfl, by kernel_rfl, fun j f hj => ?_⟩
  have hlt : j < 1 := (Array.getElem?_eq_some_iff.1 hj).1
  match j, hlt, hj with
  | 0, _, hj => obtain rfl := Option.some.inj hj; exact Tryd.underlying3
theorem act_cells {fuel : Nat} {cs : List Value} {x : DataW H × List MemPlace} (h : DataW.trod enc Tryd.prog w 0 (fun _ => true) true fuel 51 cs = some x) :
    ∃ s : S51, cs = [.int .i64 s.f0] := by
  obtain ⟨fs, hu, hone, hsz, hty⟩ := act_fields
  obtain ⟨hl, n, hf⟩ := fields_open hu hone (by rw [hsz]; kernel_rfl) h
  rw [hsz] at hl
  obtain ⟨c0, rfl⟩ : ∃ c0, cs = [c0] := by
    match cs, hl with
    | [c0], _ => exact ⟨c0, rfl⟩
  have hj' : 0 < fs.size := by omega
  obtain ⟨c, y, hc, hd⟩ := hf 0 fs[0] (Array.getElem?_eq_getElem hj')
  obtain ⟨v, he, _, _⟩ := DataW.trod_int (hty 0 fs[0] (Array.getElem?_eq_getElem hj')) hd
  have h1 : c = .int .i64 v := by simpa using he
  obtain rfl : c0 = c := Option.some.inj hc
  exact ⟨⟨v⟩, by rw [h1]⟩
theorem opens51 : Opens enc Tryd.prog w 51 k51 := fun fuel cs x h => by
  obtain ⟨s, rfl⟩ := act_cells h
  exact ⟨s, k51_mk w s⟩
end
end Go.Proofs.YtdmgigicbppjkaaDoor.Open
