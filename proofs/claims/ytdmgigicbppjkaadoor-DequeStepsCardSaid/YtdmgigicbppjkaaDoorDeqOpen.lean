/- A deque and a taker that can be read. -/
import Derived.Test.YtdmgigicbppjkaaDoorQx0
import Derived.Test.YtdmgigicbppjkaaDoorOpenBase
set_option linter.unusedVariables false
namespace Go.Proofs.YtdmgigicbppjkaaDoor.Open
open Go.RowKit Go.ChangeShapes Go.WideShapes Go.Deep Go.Proofs.YtdmgigicbppjkaaDoorW.PrintWords Go.Proofs.YtdmgigicbppjkaaDoor.Q
section
variable {H : Type} {enc : TypeId × Value → H} {w : World}
theorem deque_fields : ∃ fs : Array Field, Tryd.prog.underlying 24 = some (.struct fs) ∧ oneCellFields Tryd.prog fs = true ∧ fs.size = 3 ∧ (∀ f : Field, fs[0]? = some f → Tryd.prog.underlying f.type = some (.slice 3)) ∧ (∀ (j : Nat) (f : Field), 0 < j → fs[j]? = some f → Tryd.prog.underlying f.type = some (.int .i64)) := by
  refine ⟨_, Tryd.underlying24, by kernel_rfl, by kernel_rfl, fun f hj => ?_, fun j f h0 hj => ?_⟩
  · obtain rfl := Option.some.inj hj
    exact Tryd.underlying22
  · have hlt : j < 3 := (Array.getElem?_eq_some_iff.1 hj).1
    match j, hlt, hj, h0 with
    | 1, _, hj, _ => obtain rfl := Option.some.inj hj; exact Tryd.underlying3
    | 2, _, hj, _ => obtain rfl := Option.some.inj hj; exact Tryd.underlying3
/-- A deque that is handed over. -/
theorem arg24 {r : Reach} {b0 : Nat} {v : Value} {d : DataW H} {p : List MemPlace} (hv : Value.okWide Tryd.prog w r b0 24 v) (h : DataW.Trod enc Tryd.prog w 0 (fun _ => true) true 24 v d p) :
    ∃ (A : Option Addr) (c : Nat) (l : List Int) (a b : Int), v = .agg #[.slice A l.length c, .int .i64 a, .int .i64 b] ∧ l.length ≤ c ∧ Kd.C (Kd.int .i64) w A l.length l := by
  obtain ⟨fs, hu, hone, hsz, ht0, hty⟩ := deque_fields
  obtain ⟨cs, rfl, _⟩ := okWide_struct hu hv
  obtain ⟨fuel, hf⟩ := h
  obtain ⟨hl, n, hg⟩ := fields_open hu hone (by rw [hsz]; kernel_rfl) hf
  rw [hsz] at hl
  obtain ⟨cs⟩ := cs
  simp only [Value.cells] at hl hg
  obtain ⟨c0, c1, c2, rfl⟩ : ∃ c0 c1 c2, cs = [c0, c1, c2] := by
    match cs, hl with
    | [c0, c1, c2], _ => exact ⟨c0, c1, c2, rfl⟩
  have G : ∀ j, 0 < j → j < 3 → ∃ v : Int, [c0, c1, c2][j]? = some (.int .i64 v) := fun j h0 hj => by
    have hj' : j < fs.size := by omega
    obtain ⟨c, y, hc, hd⟩ := hg j fs[j] (Array.getElem?_eq_getElem hj')
    obtain ⟨v, he, _, _⟩ := DataW.trod_int (hty j fs[j] h0 (Array.getElem?_eq_getElem hj')) hd
    have : c = .int .i64 v := by simpa using he
    exact ⟨v, by rw [hc, this]⟩
  obtain ⟨v1, h1⟩ := G 1 (by omega) (by omega)
  obtain ⟨v2, h2⟩ := G 2 (by omega) (by omega)
  obtain rfl : c1 = _ := Option.some.inj h1
  obtain rfl : c2 = _ := Option.some.inj h2
  have hj' : 0 < fs.size := by omega
  obtain ⟨c, y, hc, hd⟩ := hg 0 fs[0] (Array.getElem?_eq_getElem hj')
  obtain rfl : c0 = c := Option.some.inj hc
  obtain ⟨xs, A, cp, he, hle, hK⟩ := opens_slice (e' := 3) (d := Kd.int .i64) (0 : Int) (ht0 fs[0] (Array.getElem?_eq_getElem hj')) (by kernel_rfl) (opens_int Tryd.underlying3) n _ _ hd
  obtain rfl : c0 = _ := by simpa using he
  exact ⟨A, cp, xs, v1, v2, rfl, hle, hK⟩
theorem taker_fields : ∃ fs : Array Field, Tryd.prog.underlying 27 = some (.struct fs) ∧ oneCellFields Tryd.prog fs = true ∧ fs.size = 6 ∧ (∀ f : Field, fs[0]? = some f → Tryd.prog.underlying f.type = some .bool) ∧ (∀ (j : Nat) (f : Field), 0 < j → fs[j]? = some f → Tryd.prog.underlying f.type = some (.int .i64)) := by
  refine ⟨_, Tryd.underlying27, by kernel_rfl, by kernel_rfl, fun f hj => ?_, fun j f h0 hj => ?_⟩
  · obtain rfl := Option.some.inj hj
    exact Tryd.underlying4
  · have hlt : j < 6 := (Array.getElem?_eq_some_iff.1 hj).1
    match j, hlt, hj, h0 with
    | 1, _, hj, _ => obtain rfl := Option.some.inj hj; exact Tryd.underlying3
    | 2, _, hj, _ => obtain rfl := Option.some.inj hj; exact Tryd.underlying3
    | 3, _, hj, _ => obtain rfl := Option.some.inj hj; exact Tryd.underlying3
    | 4, _, hj, _ => obtain rfl := Option.some.inj hj; exact Tryd.underlying3
    | 5, _, hj, _ => obtain rfl := Option.some.inj hj; exact Tryd.underlying25
/-- A taker that is handed over. -/
theorem arg27 {r : Reach} {b0 : Nat} {v : Value} {d : DataW H} {p : List MemPlace} (hv : Value.okWide Tryd.prog w r b0 27 v) (h : DataW.Trod enc Tryd.prog w 0 (fun _ => true) true 27 v d p) :
    ∃ (s : Bool) (k t b n e : Int), v = .agg #[.bool s, .int .i64 k, .int .i64 t, .int .i64 b, .int .i64 n, .int .i64 e] := by
  obtain ⟨fs, hu, hone, hsz, ht0, hty⟩ := taker_fields
  obtain ⟨cs, rfl, _⟩ := okWide_struct hu hv
  obtain ⟨fuel, hf⟩ := h
  obtain ⟨hl, n, hg⟩ := fields_open hu hone (by rw [hsz]; kernel_rfl) hf
  rw [hsz] at hl
  obtain ⟨cs⟩ := cs
  simp only [Value.cells] at hl hg
  obtain ⟨c0, c1, c2, c3, c4, c5, rfl⟩ : ∃ c0 c1 c2 c3 c4 c5, cs = [c0, c1, c2, c3, c4, c5] := by
    match cs, hl with
    | [c0, c1, c2, c3, c4, c5], _ => exact ⟨c0, c1, c2, c3, c4, c5, rfl⟩
  have G : ∀ j, 0 < j → j < 6 → ∃ v : Int, [c0, c1, c2, c3, c4, c5][j]? = some (.int .i64 v) := fun j h0 hj => by
    have hj' : j < fs.size := by omega
    obtain ⟨c, y, hc, hd⟩ := hg j fs[j] (Array.getElem?_eq_getElem hj')
    obtain ⟨v, he, _, _⟩ := DataW.trod_int (hty j fs[j] h0 (Array.getElem?_eq_getElem hj')) hd
    have : c = .int .i64 v := by simpa using he
    exact ⟨v, by rw [hc, this]⟩
  obtain ⟨v1, h1⟩ := G 1 (by omega) (by omega)
  obtain ⟨v2, h2⟩ := G 2 (by omega) (by omega)
  obtain ⟨v3, h3⟩ := G 3 (by omega) (by omega)
  obtain ⟨v4, h4⟩ := G 4 (by omega) (by omega)
  obtain ⟨v5, h5⟩ := G 5 (by omega) (by omega)
  obtain rfl : c1 = _ := Option.some.inj h1
  obtain rfl : c2 = _ := Option.some.inj h2
  obtain rfl : c3 = _ := Option.some.inj h3
  obtain rfl : c4 = _ := Option.some.inj h4
  obtain rfl : c5 = _ := Option.some.inj h5
  have hj' : 0 < fs.size := by omega
  obtain ⟨c, y, hc, hd⟩ := hg 0 fs[0] (Array.getElem?_eq_getElem hj')
  obtain rfl : c0 = c := Option.some.inj hc
  obtain ⟨v0, he, _⟩ := DataW.trod_bool (ht0 fs[0] (Array.getElem?_eq_getElem hj')) hd
  obtain rfl : c0 = .bool v0 := by simpa using he
  exact ⟨v0, v1, v2, v3, v4, v5, rfl⟩
end
end Go.Proofs.YtdmgigicbppjkaaDoor.Open
