/- Plain facts, of several texts. -/
import Derived.Test.YteodhffgnkdcfaaWWords
import Derived.Test.YteodhffgnkdcfaaWMore
import Derived.ChangeShapes
import Derived.ChangeArms
import Derived.Deep.Slices
import Derived.Deep.Fields
import Derived.Test.YteodhffgnkdcfaaQx0
/- What an argument that can be read gives a proof: whole numbers, slices and structs of one-cell fields, as the printed words tell them. -/
set_option linter.unusedVariables false
namespace Go.Proofs.Yteodhffgnkdcfaa.Open
open Go.RowKit Go.ChangeShapes Go.WideShapes Go.Deep Go.Proofs.YteodhffgnkdcfaaW.PrintWords

section
variable {H : Type} {enc : TypeId × Value → H} {P : Program} {w : World}
/-- Whatever reads at type t is a value of this kind. -/
def Opens {α : Type} (enc : TypeId × Value → H) (P : Program) (w : World) (t : TypeId) (d : Kd α) : Prop :=
  ∀ fuel cs x, DataW.trod enc P w 0 (fun _ => true) true fuel t cs = some x → ∃ a, d.K w a cs
theorem opens_int {t : TypeId} {k : IntKind} (ht : P.underlying t = some (.int k)) : Opens enc P w t (Kd.int k) := by
  intro fuel cs x h
  obtain ⟨v, rfl, _, _⟩ := DataW.trod_int ht h
  exact ⟨v, rfl⟩
theorem opens_bool {t : TypeId} (ht : P.underlying t = some .bool) : Opens enc P w t Kd.bool := by
  intro fuel cs x h
  obtain ⟨v, rfl, _⟩ := DataW.trod_bool ht h
  exact ⟨v, rfl⟩
theorem fields_open {t : TypeId} {fs : Array Field} {fuel : Nat} {cs : List Value} {x : DataW H × List MemPlace} (ht : P.underlying t = some (.struct fs)) (hone : oneCellFields P fs = true) (hC : P.cellsOf t = fs.size)
    (h : DataW.trod enc P w 0 (fun _ => true) true fuel t cs = some x) :
    cs.length = fs.size ∧ ∃ n, ∀ (j : Nat) (f : Field), fs[j]? = some f → ∃ c y, cs[j]? = some c ∧ DataW.trod enc P w 0 (fun _ => true) true n f.type [c] = some y := by
  obtain ⟨xs, n, _, _, hl, hx, hf⟩ := DataW.trod_struct ht h
  rw [hC] at hl
  refine ⟨hl, n, fun j f hj => ?_⟩
  obtain ⟨ho, hk⟩ := hone_of hone j f hj
  have hjl : j < fs.size := (Array.getElem?_eq_some_iff.1 hj).1
  have h1 := hf j f hj
  rw [ho, hk, List.drop_eq_getElem_cons (by omega), List.take_succ_cons, List.take_zero, List.getElem?_eq_getElem (by omega)] at h1
  exact ⟨_, _, List.getElem?_eq_getElem (by omega), h1⟩
theorem opens_slice {α : Type} {t e e' : TypeId} {d : Kd α} (z : α) (ht : P.underlying t = some (.slice e)) (hC : P.cellsOf e = d.sz) (ho : Opens enc P w e d) : Opens enc P w t (Kd.slice e' d) := by
  intro fuel cs x h
  rcases open_slice ht h with ⟨rfl, _⟩ | ⟨a, len, cap, m, n, D, Pl, rfl, _, hl, hm, hmm, _, hi⟩
  · exact ⟨[], none, 0, rfl, by simp, rfl, by simp, fun hn => absurd hn (by simp)⟩
  · have hm' : m = cap := by simpa using hmm
    have H : ∀ i, ∃ b : α, i < len → ∃ c, c.length = d.sz ∧ d.K w b c ∧ ∀ j u, c[j]? = some u → w.cell? (a.add (i * d.sz + j)) = some u := by
      intro i
      by_cases hlt : i < len
      · obtain ⟨cs', hc, hd⟩ := hi i (by omega)
        rw [hC] at hc
        obtain ⟨b, hb⟩ := ho n cs' _ hd
        obtain ⟨_, hcl, hat⟩ := World.cells?_some hc
        refine ⟨b, fun _ => ⟨cs', hcl, hb, fun j u hu => ?_⟩⟩
        have hj : j < d.sz := by rw [← hcl]; exact (List.getElem?_eq_some_iff.1 hu).1
        rw [← hu, ← hat j hj, ← Go.Deep.add_add]
      · exact ⟨z, fun h => absurd h hlt⟩
    let f : Nat → α := fun i => Classical.choose (H i)
    have hf : ∀ i, i < len → ∃ c, c.length = d.sz ∧ d.K w (f i) c ∧ ∀ j u, c[j]? = some u → w.cell? (a.add (i * d.sz + j)) = some u := fun i => Classical.choose_spec (H i)
    have hlen : ((List.range len).map f).length = len := by simp
    refine ⟨(List.range len).map f, some a, cap, by rw [hlen], by rw [hlen]; exact hl, rfl, ?_, fun hn => ⟨a, rfl, fun j p hp => ?_⟩⟩
    · rw [hlen]; unfold maxLen at hm; omega
    · have hj : j < len := by rw [← hlen]; exact (List.getElem?_eq_some_iff.1 hp).1
      have hpj : p = f j := by
        rw [List.getElem?_map, List.getElem?_range hj] at hp
        simpa using hp.symm
      rw [hpj]
      exact hf j hj
/-- A slice argument, opened. -/
theorem arg_slice {α : Type} {t e : TypeId} {d : Kd α} {a : Option Addr} {len cap : Nat} {x : DataW H} {p : List MemPlace} (z : α) (ht : P.underlying t = some (.slice e)) (hC : P.cellsOf e = d.sz) (ho : Opens enc P w e d)
    (h : DataW.Trod enc P w 0 (fun _ => true) true t (.slice a len cap) x p) : ∃ xs : List α, len = xs.length ∧ xs.length ≤ cap ∧ Kd.C d w a xs.length xs := by
  obtain ⟨fuel, hf⟩ := h
  obtain ⟨xs, A, c, he, hc, hK⟩ := opens_slice (e' := e) z ht hC ho fuel _ _ hf
  simp only [Value.cells, List.cons.injEq, Value.slice.injEq, and_true] at he
  obtain ⟨rfl, rfl, rfl⟩ := he
  exact ⟨xs, rfl, hc, hK⟩
end
end Go.Proofs.Yteodhffgnkdcfaa.Open

/- A job and a lane that can be read. -/
set_option linter.unusedVariables false
namespace Go.Proofs.Yteodhffgnkdcfaa.Open
open Go.RowKit Go.ChangeShapes Go.WideShapes Go.Deep Go.Proofs.YteodhffgnkdcfaaW.PrintWords Go.Proofs.Yteodhffgnkdcfaa.Q
section
variable {H : Type} {enc : TypeId × Value → H} {w : World}
theorem job_fields : ∃ fs : Array Field, Try.prog.underlying 27 = some (.struct fs) ∧ oneCellFields Try.prog fs = true ∧ fs.size = 3 ∧ (∀ f : Field, fs[2]? = some f → Try.prog.underlying f.type = some (.slice 3)) ∧ (∀ (j : Nat) (f : Field), j < 2 → fs[j]? = some f → Try.prog.underlying f.type = some (.int .i64)) := by
  refine ⟨_, Try.underlying27, by kernel_rfl, by kernel_rfl, fun f hj => ?_, fun j f h0 hj => ?_⟩
  · obtain rfl := Option.some.inj hj
    exact Try.underlying25
  · match j, h0, hj with
    | 0, _, hj => obtain rfl := Option.some.inj hj; exact Try.underlying3
    | 1, _, hj => obtain rfl := Option.some.inj hj; exact Try.underlying3
theorem job_cells {fuel : Nat} {cs : List Value} {x : DataW H × List MemPlace} (h : DataW.trod enc Try.prog w 0 (fun _ => true) true fuel 27 cs = some x) :
    ∃ (s : S27) (A : Option Addr) (c : Nat), cs = [.int .i64 s.f0, .int .i64 s.f1, .slice A s.f2.length c] ∧ s.f2.length ≤ c ∧ Kd.C (Kd.int .i64) w A s.f2.length s.f2 := by
  obtain ⟨fs, hu, hone, hsz, ht0, hty⟩ := job_fields
  obtain ⟨hl, n, hg⟩ := fields_open hu hone (by rw [hsz]; kernel_rfl) h
  rw [hsz] at hl
  obtain ⟨c0, c1, c2, rfl⟩ : ∃ c0 c1 c2, cs = [c0, c1, c2] := by
    match cs, hl with
    | [c0, c1, c2], _ => exact ⟨c0, c1, c2, rfl⟩
  have G : ∀ j, j < 2 → ∃ v : Int, [c0, c1, c2][j]? = some (.int .i64 v) := fun j hj => by
    have hj' : j < fs.size := by omega
    obtain ⟨c, y, hc, hd⟩ := hg j fs[j] (Array.getElem?_eq_getElem hj')
    obtain ⟨v, he, _, _⟩ := DataW.trod_int (hty j fs[j] hj (Array.getElem?_eq_getElem hj')) hd
    have : c = .int .i64 v := by simpa using he
    exact ⟨v, by rw [hc, this]⟩
  obtain ⟨v0, h0⟩ := G 0 (by omega)
  obtain ⟨v1, h1⟩ := G 1 (by omega)
  obtain rfl : c0 = _ := Option.some.inj h0
  obtain rfl : c1 = _ := Option.some.inj h1
  have hj' : 2 < fs.size := by omega
  obtain ⟨c, y, hc, hd⟩ := hg 2 fs[2] (Array.getElem?_eq_getElem hj')
  obtain rfl : c2 = c := Option.some.inj hc
  obtain ⟨xs, A, cp, he, hle, hK⟩ := opens_slice (e' := 3) (d := Kd.int .i64) (0 : Int) (ht0 fs[2] (Array.getElem?_eq_getElem hj')) (by kernel_rfl) (opens_int Try.underlying3) n _ _ hd
  obtain rfl : c2 = _ := by simpa using he
  exact ⟨⟨v0, v1, xs⟩, A, cp, rfl, hle, hK⟩
theorem opens27 : Opens enc Try.prog w 27 k27 := fun fuel cs x h => by
  obtain ⟨s, A, c, rfl, hl, hC⟩ := job_cells h
  exact ⟨s, k27_mk w s hl hC⟩
/-- A job that is handed over. -/
theorem arg27 {r : Reach} {b0 : Nat} {v : Value} {d : DataW H} {p : List MemPlace} (hv : Value.okWide Try.prog w r b0 27 v) (h : DataW.Trod enc Try.prog w 0 (fun _ => true) true 27 v d p) :
    ∃ (a b : Int) (A : Option Addr) (c : Nat) (l : List Int), v = .agg #[.int .i64 a, .int .i64 b, .slice A l.length c] ∧ l.length ≤ c ∧ Kd.C (Kd.int .i64) w A l.length l := by
  obtain ⟨fs, hu, _⟩ := job_fields
  obtain ⟨cs, rfl, _⟩ := okWide_struct hu hv
  obtain ⟨fuel, hf⟩ := h
  obtain ⟨s, A, c, hs, hl, hC⟩ := job_cells hf
  refine ⟨s.f0, s.f1, A, c, s.f2, ?_, hl, hC⟩
  obtain ⟨l⟩ := cs
  have : l = [.int .i64 s.f0, .int .i64 s.f1, .slice A s.f2.length c] := by simpa [Value.cells] using hs
  rw [this]
theorem lane_fields : ∃ fs : Array Field, Try.prog.underlying 24 = some (.struct fs) ∧ oneCellFields Try.prog fs = true ∧ fs.size = 2 ∧ (∀ f : Field, fs[0]? = some f → Try.prog.underlying f.type = some (.slice 27)) ∧ (∀ f : Field, fs[1]? = some f → Try.prog.underlying f.type = some (.int .i64)) := by
  refine ⟨_, Try.underlying24, by kernel_rfl, by kernel_rfl, fun f hj => ?_, fun f hj => ?_⟩
  · obtain rfl := Option.some.inj hj
    exact Try.underlying22
  · obtain rfl := Option.some.inj hj
    exact Try.underlying3
/-- A lane that is handed over. -/
theorem arg24 {r : Reach} {b0 : Nat} {v : Value} {d : DataW H} {p : List MemPlace} (hv : Value.okWide Try.prog w r b0 24 v) (h : DataW.Trod enc Try.prog w 0 (fun _ => true) true 24 v d p) :
    ∃ (A : Option Addr) (c : Nat) (l : List S27) (a : Int), v = .agg #[.slice A l.length c, .int .i64 a] ∧ l.length ≤ c ∧ Kd.C k27 w A l.length l := by
  obtain ⟨fs, hu, hone, hsz, ht0, ht1⟩ := lane_fields
  obtain ⟨cs, rfl, _⟩ := okWide_struct hu hv
  obtain ⟨fuel, hf⟩ := h
  obtain ⟨hl, n, hg⟩ := fields_open hu hone (by rw [hsz]; kernel_rfl) hf
  rw [hsz] at hl
  obtain ⟨cs⟩ := cs
  simp only [Value.cells] at hl hg
  obtain ⟨c0, c1, rfl⟩ : ∃ c0 c1, cs = [c0, c1] := by
    match cs, hl with
    | [c0, c1], _ => exact ⟨c0, c1, rfl⟩
  have hj1 : 1 < fs.size := by omega
  obtain ⟨c, y, hc, hd⟩ := hg 1 fs[1] (Array.getElem?_eq_getElem hj1)
  obtain rfl : c1 = c := Option.some.inj hc
  obtain ⟨v1, he1, _, _⟩ := DataW.trod_int (ht1 fs[1] (Array.getElem?_eq_getElem hj1)) hd
  obtain rfl : c1 = .int .i64 v1 := by simpa using he1
  have hj' : 0 < fs.size := by omega
  obtain ⟨c, y, hc, hd⟩ := hg 0 fs[0] (Array.getElem?_eq_getElem hj')
  obtain rfl : c0 = c := Option.some.inj hc
  obtain ⟨xs, A, cp, he, hle, hK⟩ := opens_slice (e' := 27) (d := k27) z27 (ht0 fs[0] (Array.getElem?_eq_getElem hj')) (by kernel_rfl) opens27 n _ _ hd
  obtain rfl : c0 = _ := by simpa using he
  exact ⟨A, cp, xs, v1, rfl, hle, hK⟩
end
end Go.Proofs.Yteodhffgnkdcfaa.Open
