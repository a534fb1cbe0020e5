import Derived.Test.YteodhffgnkdcfaaQx0
import Derived.Test.YteodhffgnkdcfaaQx3
import Derived.Test.YteodhffgnkdcfaaQx4
import Derived.Test.YteodhffgnkdcfaaQx7
namespace Go.Proofs.Yteodhffgnkdcfaa.Q
open Go.RowKit Go.Proofs.YteodhffgnkdcfaaW.PrintWords Go.Proofs.YteodhffgnkdcfaaW.PrintLast Go.Proofs.YteodhffgnkdcfaaW.PrintMore
attribute [local go_sem] max2_int min2_int max_two min_two max_three min_three max_four min_four
set_option linter.unusedVariables false
set_option linter.unusedSimpArgs false
def T3 (W : World) (k : Nat) : Prop := ∃ cells, W.heap[k]? = some (.cells cells 3 (0, 0))
theorem T3.lt {W : World} {k : Nat} (h : T3 W k) : k < W.heap.size := by
  obtain ⟨cells, h⟩ := h
  exact (Array.getElem?_eq_some_iff.1 h).1
theorem T3.ne {W : World} {k g t : Nat} {cells : Array Value} (h : T3 W k) (hg : W.heap[g]? = some (.cells cells t (0, 0))) (ht : 3 ≠ t) : k ≠ g := by
  intro e
  subst e
  obtain ⟨cs, h⟩ := h
  rw [hg] at h
  injection h with h
  injection h with _ h
  exact ht h.symm
abbrev J3 := S27
structure OJ (base : Nat) (W : World) (v : Value) (js : List J3) (rows : List (List Value)) : Prop where mk ::
  (row : (Kd.raw 3).R 27 W base (fun _ => True) v rows) (len : rows.length = js.length)
  (inn : ∀ (j : Nat) (x : J3) (c : List Value), js[j]? = some x → rows[j]? = some c → Kd.FK k27 W (fun k => base ≤ k ∧ T3 W k) x c)
theorem fk3_step {base : Nat} {W W' : World} {x : J3} {c : List Value} (h : Kd.FK k27 W (fun k => base ≤ k ∧ T3 W k) x c) (hs : ∀ k, base ≤ k → T3 W k → W'.heap[k]? = W.heap[k]?) : Kd.FK k27 W' (fun k => base ≤ k ∧ T3 W' k) x c :=
  Kd.FK_mono (Kd.FK_step h (fun k hk _ => hs k hk.1 hk.2)) (fun k hk => ⟨hk.1, by obtain ⟨cells, hc⟩ := hk.2; exact ⟨cells, (hs k hk.1 hk.2).trans hc⟩⟩)
theorem ins_get {α : Type} (l : List α) (at_ : Nat) (x : α) (h : at_ ≤ l.length) (j : Nat) : (l.take at_ ++ x :: l.drop at_)[j]? = if j < at_ then l[j]? else if j = at_ then some x else l[j - 1]? := by
  rw [List.getElem?_append, List.length_take, Nat.min_eq_left h]
  split
  · rw [List.getElem?_take, if_pos (by omega)]
  · split
    · have e : j - at_ = 0 := by omega
      rw [e]; rfl
    · obtain ⟨m, hm⟩ : ∃ m, j - at_ = m + 1 := ⟨j - at_ - 1, by omega⟩
      rw [hm, List.getElem?_cons_succ, List.getElem?_drop]
      congr 1
      omega
section
variable {base : Nat} {w W W' : World} {v v' : Value} {js : List J3} {rows : List (List Value)}
theorem OJ.lo (h : OJ base W v js rows) : ∀ k, v.ownBlock = some k → base ≤ k := Kd.R_base h.row
theorem OJ.own_ne (h : OJ base W v js rows) {k : Nat} (hk : T3 W k) : some k ≠ v.ownBlock := by
  intro e
  obtain ⟨cells, hc⟩ := Kd.R_typed h.row k e.symm
  exact hk.ne hc (by decide) rfl
theorem OJ.lower (h : OJ base W v js rows) {b' : Nat} (hb : b' ≤ base) : OJ b' W v js rows :=
  ⟨Kd.R_lower h.row hb, h.len, fun j x c hx hc => Kd.FK_mono (h.inn j x c hx hc) (fun k hk => ⟨Nat.le_trans hb hk.1, hk.2⟩)⟩
theorem OJ.of_own {b : Nat → Nat} (h : OwnUpto w W v js rows b js.length) (hne : ∀ x ∈ js, x.f2 ≠ []) : OJ w.heap.size W v js rows := by
  refine ⟨h.row, h.len, fun j x c hx hc => ?_⟩
  obtain ⟨hj, hxe⟩ := List.getElem?_eq_some_iff.1 hx
  have hM := h.mine j x c hj hx hc
  obtain ⟨v2, hv2, hR⟩ := k27_openM hM
  obtain ⟨g, cap, hvg, hg1, hg2, cs, hcs⟩ := Kd.R_form hR (List.length_pos_iff.2 (hne x (hxe ▸ List.getElem_mem hj)))
  have hk := (hR.1 g (by rw [hvg]; rfl)).1
  exact Kd.FK_mono (Kd.FK_of_M hM) (fun k hkk => by
    have : k = g := by rw [hk]; exact hkk.1
    subst this
    exact ⟨hg1, cs, hcs⟩)
theorem OJ.below (h : OJ base W v js rows) (hb : Below W.heap.size W W') : OJ base W' v js rows :=
  ⟨Kd.R_below h.row hb, h.len, fun j x c hx hc => fk3_step (h.inn j x c hx hc) (fun k _ hk => hb.block k hk.lt)⟩
theorem OJ.box (h : OJ base W v js rows) {g t : Nat} {cells : Array Value} (hg : W.heap[g]? = some (.cells cells t (0, 0))) (ht : 3 ≠ t) (hv : some g ≠ v.ownBlock) (cs : Array Value) : OJ base (W.setRow g cs) v js rows := by
  refine ⟨?_, h.len, fun j x c hx hc => fk3_step (h.inn j x c hx hc) (fun k _ hk => setRow_other W g k cs (hk.ne hg ht))⟩
  obtain ⟨h0, inner, ho, hr⟩ := h.row
  exact ⟨h0, inner, own_move ho (fun k hk => setRow_other W g k cs (fun e => hv (by rw [hk, e]))), hr⟩
theorem OJ.ins (h : OJ base W v js rows) {at_ : Nat} {x : J3} {c : List Value} (hR : (Kd.raw 3).R 27 W' base (fun _ => True) v' (rows.take at_ ++ c :: rows.drop at_)) (hg : W.grownBy W' v.ownBlock) (hat : at_ ≤ js.length) (hx : Kd.FK k27 W (fun k => base ≤ k ∧ T3 W k) x c) : OJ base W' v' (js.take at_ ++ x :: js.drop at_) (rows.take at_ ++ c :: rows.drop at_) := by
  have hl := h.len
  refine ⟨hR, by simp only [List.length_append, List.length_cons, List.length_take, List.length_drop, hl], fun j y d hy hd => ?_⟩
  have hs : ∀ k, base ≤ k → T3 W k → W'.heap[k]? = W.heap[k]? := fun k _ hk => hg.block k hk.lt (h.own_ne hk)
  rw [ins_get _ _ _ hat] at hy
  rw [ins_get _ _ _ (by omega)] at hd
  by_cases c1 : j < at_
  · rw [if_pos c1] at hy hd
    exact fk3_step (h.inn j y d hy hd) hs
  · rw [if_neg c1] at hy hd
    by_cases c2 : j = at_
    · rw [if_pos c2] at hy hd
      obtain rfl := Option.some.inj hy
      obtain rfl := Option.some.inj hd
      exact fk3_step hx hs
    · rw [if_neg c2] at hy hd
      exact fk3_step (h.inn _ y d hy hd) hs
theorem OJ.del (h : OJ base W v js rows) {at_ : Nat} (hR : (Kd.raw 3).R 27 W' base (fun _ => True) v' (rows.eraseIdx at_)) (hg : W.grownBy W' v.ownBlock) : OJ base W' v' (js.eraseIdx at_) (rows.eraseIdx at_) := by
  have hl := h.len
  refine ⟨hR, by simp only [List.length_eraseIdx, hl], fun j y d hy hd => ?_⟩
  have hs : ∀ k, base ≤ k → T3 W k → W'.heap[k]? = W.heap[k]? := fun k _ hk => hg.block k hk.lt (h.own_ne hk)
  rw [List.getElem?_eraseIdx] at hy hd
  by_cases c1 : j < at_
  · rw [if_pos c1] at hy hd
    exact fk3_step (h.inn j y d hy hd) hs
  · rw [if_neg c1] at hy hd
    exact fk3_step (h.inn _ y d hy hd) hs
theorem OJ.N (h : OJ base W v js rows) : Kd.N k27 27 W base (fun k => base ≤ k) v js :=
  ⟨fun k hk => Kd.R_base h.row k hk, rows, h.len, Kd.raw_tight h.row, fun j x c hx hc => Kd.FK_mono (h.inn j x c hx hc) (fun k hk => ⟨hk.1, h.own_ne hk.2⟩)⟩
theorem OJ.V (h : OJ base W v js rows) : Kd.V k27 27 W base (fun k => base ≤ k) v js := Kd.N_V h.N
theorem OJ.slice (h : OJ base W v js rows) : ∃ A c, v = .slice A js.length c ∧ js.length ≤ c ∧ Kd.C k27 W A js.length js := by
  obtain ⟨A, c, e, h1, h2⟩ := Kd.N_reads h.N
  exact ⟨A, c, e, h1, h2⟩
theorem OJ.at (h : OJ base W v js rows) {i : Nat} (hi : i < js.length) : ∃ g cap A c, v = .slice (some ⟨g, 0, none⟩) js.length cap ∧ js.length ≤ cap ∧ base ≤ g ∧ g < W.heap.size ∧ rows[i]? = some [.int .i64 (js.getD i z27).f0, .int .i64 (js.getD i z27).f1, .slice A (js.getD i z27).f2.length c] ∧ (js.getD i z27).f2.length ≤ c ∧
    Kd.F (Kd.int .i64) W (fun k => base ≤ k ∧ T3 W k) A (js.getD i z27).f2.length (js.getD i z27).f2 ∧ W.cell? ⟨g, i * 3, none⟩ = some (.int .i64 (js.getD i z27).f0) ∧ W.cell? ⟨g, i * 3 + 2, none⟩ = some (.slice A (js.getD i z27).f2.length c) := by
  have hl := h.len
  obtain ⟨g, cap, hv, hg1, hg2, _⟩ := Kd.R_form h.row (by omega)
  have hx : js[i]? = some (js.getD i z27) := by rw [List.getD_eq_getElem?_getD, List.getElem?_eq_getElem hi]; rfl
  have hc := List.getElem?_eq_getElem (show i < rows.length by omega)
  obtain ⟨A, c, hcs, hcl, hF⟩ := k27_openF (h.inn i _ _ hx hc)
  have hrow := h.row
  rw [hv] at hrow
  obtain ⟨c', hcl', hM, hcell, _⟩ := Kd.R_elem hrow ([] : List Value) (i : Int) (by omega) (by omega)
  obtain ⟨_, hcap, _⟩ := Kd.R_reads' hrow
  rw [Int.toNat_natCast] at hM hcell
  have e : rows.getD i [] = c' := hM.1.symm
  rw [List.getD_eq_getElem?_getD, hc, Option.getD_some] at e
  refine ⟨g, cap, A, c, by rw [hv, hl], by omega, hg1, hg2, by rw [hc, hcs], hcl, hF, ?_, ?_⟩
  · exact hcell 0 _ (by rw [← e, hcs]; rfl)
  · exact hcell 2 _ (by rw [← e, hcs]; rfl)
theorem OJ.put (h : OJ base W v js rows) {i : Nat} (hi : i < js.length) {g cap : Nat} (hv : v = .slice (some ⟨g, 0, none⟩) js.length cap) {u : Value} (l2 : List Int) (hu : u.oneCell' = true)
    (hF : Kd.FK k27 W (fun k => base ≤ k ∧ T3 W k) ⟨(js.getD i z27).f0, (js.getD i z27).f1, l2⟩ [.int .i64 (js.getD i z27).f0, .int .i64 (js.getD i z27).f1, u]) :
    ∃ rows', OJ base (W.setCells g (i * 3 + 2) [u]) v (js.set i ⟨(js.getD i z27).f0, (js.getD i z27).f1, l2⟩) rows' ∧ W.grownBy (W.setCells g (i * 3 + 2) [u]) (some g) := by
  have hl := h.len
  obtain ⟨g', cap', A, c, hv', hcap, hg1, hg2, hrow, hcl, hFA, hc0, hc2⟩ := h.at hi
  have hv2 := hv
  rw [hv'] at hv2
  injection hv2 with hv2 _ hcc
  injection hv2 with hv2
  injection hv2 with hgg
  subst hgg hcc
  have hx : js[i]? = some (js.getD i z27) := by rw [List.getD_eq_getElem?_getD, List.getElem?_eq_getElem hi]; rfl
  generalize js.getD i z27 = x at *
  have hR1 := h.row
  rw [hv, ← hl] at hR1
  obtain ⟨c', hcl', hM, hcc, _⟩ := Kd.R_elem hR1 ([] : List Value) (i : Int) (by omega) (by omega)
  rw [Int.toNat_natCast] at hM hcc
  have ec : c' = [.int .i64 x.f0, .int .i64 x.f1, .slice A x.f2.length c] := by
    have e : rows.getD i [] = c' := hM.1.symm
    rw [← e, List.getD_eq_getElem?_getD, hrow, Option.getD_some]
  subst ec
  have hseg := Kd.R_seg hR1 (i : Int) (by omega) (by omega) (c := [.int .i64 x.f0, .int .i64 x.f1, .slice A x.f2.length c]) (seg := [u]) (j := 2) rfl (by rw [Int.toNat_natCast]; exact hcc) (by show 2 + 1 ≤ 3; omega) (x' := [.int .i64 x.f0, .int .i64 x.f1, u]) (okp := fun _ => False) ⟨rfl, rfl, fun q hq => by
    rcases List.mem_cons.1 hq with rfl | hq
    · rfl
    rcases List.mem_cons.1 hq with rfl | hq
    · rfl
    rcases List.mem_cons.1 hq with rfl | hq
    · exact hu
    · cases hq⟩ (fun _ hk => hk.elim)
  rw [Int.toNat_natCast] at hseg
  obtain ⟨hR2, hgr⟩ := hseg
  change (Kd.raw 3).R _ (W.setCells g' (i * 3 + 2) [u]) _ _ _ _ at hR2
  change W.grownBy (W.setCells g' (i * 3 + 2) [u]) _ at hgr
  generalize W.setCells g' (i * 3 + 2) [u] = W2 at *
  have ho : v.ownBlock = some g' := by rw [hv]; rfl
  have hs : ∀ k, base ≤ k → T3 W k → W2.heap[k]? = W.heap[k]? := fun k _ hk => hgr.block k hk.lt (by rw [← ho]; exact h.own_ne hk)
  refine ⟨rows.set i [.int .i64 x.f0, .int .i64 x.f1, u], ⟨by rw [hv, ← hl]; exact hR2, by rw [List.length_set, List.length_set]; exact hl, fun j y d hy hd => ?_⟩, hgr⟩
  by_cases c : j = i
  · subst c
    rw [List.getElem?_set_self (by omega)] at hy hd
    obtain rfl := Option.some.inj hy
    obtain rfl := Option.some.inj hd
    exact fk3_step hF hs
  · rw [List.getElem?_set_ne (fun e => c e.symm)] at hy hd
    exact fk3_step (h.inn j y d hy hd) hs
end
theorem OJ.ne_box {base : Nat} {W : World} {v : Value} {js : List J3} {rows : List (List Value)} (h : OJ base W v js rows) {g t : Nat} {cells : Array Value} (hg : W.heap[g]? = some (.cells cells t (0, 0))) (ht : 27 ≠ t) : some g ≠ v.ownBlock := fun e => by
  obtain ⟨cs, hc⟩ := Kd.R_typed h.row g e.symm
  rw [hg] at hc
  injection hc with hc
  injection hc with _ hc
  exact ht hc.symm
theorem OJ.ne_new {base : Nat} {W : World} {v : Value} {js : List J3} {rows : List (List Value)} (h : OJ base W v js rows) {g : Nat} (hg : W.heap.size ≤ g) : some g ≠ v.ownBlock := fun e => by
  have := Kd.R_lt h.row g e.symm
  omega
theorem set_head {l : List Int} {n : Int} : ∀ (h : l ≠ []), l.set 0 n = n :: l.tail := by
  intro h
  cases l with
  | nil => exact absurd rfl h
  | cons a l => rfl
theorem OwnUpto.dec {w W : World} {v : Value} {js : List J3} {rows : List (List Value)} {b : Nat → Nat} (h : OwnUpto w W v js rows b js.length) (hne : ∀ x ∈ js, x.f2 ≠ []) {i : Nat} (hi : i < js.length) {A : Option Addr} {c : Nat} (n : Int)
    (hrow : rows[i]? = some [.int .i64 (js.getD i z27).f0, .int .i64 (js.getD i z27).f1, .slice A (js.getD i z27).f2.length c]) :
    ∃ bi, A = some ⟨bi, 0, none⟩ ∧ w.heap.size ≤ bi ∧ W.cell? ⟨bi, 0, none⟩ = some (.int .i64 ((js.getD i z27).f2.headD 0)) ∧ (∃ cur : Array Value, W.heap[bi]? = some (.cells cur 3 (0, 0)) ∧ 1 ≤ cur.size) ∧ OJ w.heap.size (W.setCells bi 0 [.int .i64 n]) v (js.set i ⟨(js.getD i z27).f0, (js.getD i z27).f1, n :: (js.getD i z27).f2.tail⟩) rows ∧ W.grownBy (W.setCells bi 0 [.int .i64 n]) (some bi) := by
  have hO := OJ.of_own h hne
  have hl := h.len
  have hx : js[i]? = some (js.getD i z27) := by rw [List.getD_eq_getElem?_getD, List.getElem?_eq_getElem hi]; rfl
  have hxm : js.getD i z27 ∈ js := by rw [List.getD_eq_getElem?_getD, List.getElem?_eq_getElem hi]; exact List.getElem_mem hi
  generalize js.getD i z27 = x at *
  have hxn := hne x hxm
  have hM := h.mine i x _ hi hx hrow
  obtain ⟨v2, hv2, hR⟩ := k27_openM hM
  simp only [List.cons.injEq, true_and, and_true] at hv2
  subst hv2
  obtain ⟨bi, cap, hvb, hb1, hb2, cs, hcs⟩ := Kd.R_form hR (List.length_pos_iff.2 hxn)
  injection hvb with hA _ hcc
  subst hA hcc
  have hbi : bi = b i := (hR.1 bi rfl).1
  obtain ⟨c', hcl', hMc, hcell, _⟩ := Kd.R_elem hR (0 : Int) (0 : Int) (by omega) (by have := List.length_pos_iff.2 hxn; omega)
  have hseg := Kd.R_seg hR (0 : Int) (by omega) (by have := List.length_pos_iff.2 hxn; omega) (c := c') (seg := [.int .i64 n]) (j := 0) hcl' hcell (by show 0 + 1 ≤ 1; omega) (x' := n) (okp := fun _ => False) (by
    have : c'.drop (0 + [Value.int .i64 n].length) = [] := List.drop_eq_nil_of_le (by rw [hcl']; exact Nat.le_refl _)
    rw [this]; rfl) (fun _ hk => hk.elim)
  obtain ⟨hR2, hgr⟩ := hseg
  have hz : (0 : Int).toNat * (Kd.int .i64).sz + 0 = 0 := rfl
  rw [hz] at hR2 hgr
  have h0 : W.cell? ⟨bi, 0, none⟩ = some (.int .i64 (x.f2.headD 0)) := by
    have e : c' = [.int .i64 (x.f2.getD 0 0)] := hMc
    have := hcell 0 (.int .i64 (x.f2.getD 0 0)) (by rw [e]; rfl)
    have e2 : x.f2.getD 0 0 = x.f2.headD 0 := by cases x.f2 <;> rfl
    rw [e2] at this
    exact this
  have hcur : ∃ cur : Array Value, W.heap[bi]? = some (.cells cur 3 (0, 0)) ∧ 1 ≤ cur.size := by
    obtain ⟨_, inner, ⟨_, ho⟩, _⟩ := hR
    rcases ho with ⟨e, _⟩ | ⟨g', cap', cur, e, _, hg, hn, _, hs, _⟩
    · cases e
    · injection e with e _ hc
      injection e with e
      injection e with e
      subst e
      refine ⟨cur, hg, ?_⟩
      rw [hs]
      have := List.length_pos_iff.2 hxn
      have e1 : (Kd.int .i64).sz = 1 := rfl
      rw [e1]
      omega
  refine ⟨bi, rfl, hb1, h0, hcur, ?_, hgr⟩
  generalize W.setCells bi 0 [.int .i64 n] = W2 at *
  have ho : some bi ≠ v.ownBlock := hO.own_ne ⟨cs, hcs⟩
  have hR2' : (Kd.int .i64).R 3 W2 w.heap.size (fun k => k = b i ∧ some k ≠ v.ownBlock) (.slice (some ⟨bi, 0, none⟩) x.f2.length c) (n :: x.f2.tail) := by
    have e : x.f2.set (0 : Int).toNat n = n :: x.f2.tail := set_head hxn
    rw [← e]
    exact hR2
  obtain ⟨cs2, hcs2⟩ := Kd.R_typed hR2' bi rfl
  have hkeep : ∀ k, T3 W k → T3 W2 k := fun k hk => by
    by_cases c : k = bi
    · subst c; exact ⟨cs2, hcs2⟩
    · obtain ⟨cells, hc⟩ := hk
      exact ⟨cells, (hgr.block k (T3.lt ⟨cells, hc⟩) (fun e => c (Option.some.inj e))).trans hc⟩
  have hlen2 : (n :: x.f2.tail).length = x.f2.length := by have := List.length_pos_iff.2 hxn; simp; omega
  refine ⟨?_, by rw [List.length_set]; exact hl, fun j y d hy hd => ?_⟩
  · obtain ⟨h0', inner, ho', hr⟩ := h.row
    exact ⟨h0', inner, own_move ho' (fun k hk => hgr.block k (Kd.R_lt h.row k hk) (fun e => ho (by rw [hk, e]))), hr⟩
  · by_cases c1 : j = i
    · subst c1
      rw [List.getElem?_set_self hi] at hy
      obtain rfl := Option.some.inj hy
      rw [hrow] at hd
      obtain rfl := Option.some.inj hd
      have hFi := Kd.R_F (Kd.R_mono hR2' (ok' := fun k => w.heap.size ≤ k ∧ T3 W2 k) (fun k hk => by
        have : k = bi := by rw [hbi]; exact hk.1
        subst this
        exact ⟨hb1, cs2, hcs2⟩))
      have hcl : x.f2.length ≤ c := (Kd.R_reads' hR).2.1
      have hh := k27_mkF W2 (fun k => w.heap.size ≤ k ∧ T3 W2 k) ⟨x.f0, x.f1, n :: x.f2.tail⟩ (A2 := some ⟨bi, 0, none⟩) (c2 := c) (by show (n :: x.f2.tail).length ≤ c; omega) (by
        show Kd.F (Kd.int .i64) W2 _ (some ⟨bi, 0, none⟩) (n :: x.f2.tail).length (n :: x.f2.tail)
        rw [hlen2]; exact hFi)
      have e2 : ([.int .i64 x.f0, .int .i64 x.f1, .slice (some ⟨bi, 0, none⟩) x.f2.length c] : List Value) = [.int .i64 x.f0, .int .i64 x.f1, .slice (some ⟨bi, 0, none⟩) (n :: x.f2.tail).length c] := by rw [hlen2]
      rw [e2]; exact hh
    · rw [List.getElem?_set_ne (fun e => c1 e.symm)] at hy
      have hj : j < js.length := (List.getElem?_eq_some_iff.1 hy).1
      have hF0 := Kd.FK_bound (Kd.FK_of_M (h.mine j y d hj hy hd))
      have hF1 := hO.inn j y d hy hd
      obtain ⟨A', c2, hds, hcl, hFA⟩ := k27_openF hF1
      have hMj := h.mine j y d hj hy hd
      obtain ⟨v3, hv3, hR3⟩ := k27_openM hMj
      obtain ⟨gj, capj, hvj, hj1, hj2, csj, hcsj⟩ := Kd.R_form hR3 (List.length_pos_iff.2 (hne y (List.mem_of_getElem? hy)))
      have hgj : gj = b j := (hR3.1 gj (by rw [hvj]; rfl)).1
      have hne2 : gj ≠ bi := fun e => c1 (h.inj j i hj hi (by rw [← hgj, ← hbi, e]))
      refine Kd.FK_mono (Kd.FK_step (Kd.FK_of_M hMj) (fun k hk hlt => hgr.block k hlt (fun e => hne2 (by rw [hgj, ← hk.1]; exact Option.some.inj e)))) (fun k hk => ?_)
      have : k = gj := by rw [hgj]; exact hk.1
      subst this
      exact ⟨hj1, hkeep _ ⟨csj, hcsj⟩⟩
theorem findI_at {l : List J3} {t : Int} (h : ¬ findI l t < 0) : ∃ n : Nat, findI l t = n ∧ n < l.length ∧ (l.getD n z27).f0 = t := by
  unfold findI idxP at h ⊢
  by_cases c : l.findIdx (fun j => j.f0 == t) < l.length
  · rw [if_pos c]
    refine ⟨_, rfl, c, ?_⟩
    rw [List.getD_eq_getElem?_getD, List.getElem?_eq_getElem c, Option.getD_some]
    have := List.findIdx_getElem (w := c)
    simpa using this
  · rw [if_neg c] at h
    exact absurd (by decide) h
def OwnOk (l : List J3) : Prop := l.length ≤ 1000 ∧ ∀ x ∈ l, x.f2 ≠ [] ∧ x.f2.length ≤ 1000
instance (l : List J3) : Decidable (OwnOk l) := by unfold OwnOk; infer_instance
end Go.Proofs.Yteodhffgnkdcfaa.Q
