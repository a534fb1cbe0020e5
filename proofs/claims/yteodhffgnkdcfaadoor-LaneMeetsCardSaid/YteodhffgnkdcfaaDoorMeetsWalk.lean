/- A walk: if tasks fit, each job is done by its due. -/
import Derived.Test.YteodhffgnkdcfaaDoorQx22
import Derived.Test.YteodhffgnkdcfaaDoorQx19
import Derived.Test.YteodhffgnkdcfaaDoorQx17
import Derived.Test.YteodhffgnkdcfaaDoorQx13
import Derived.Test.YteodhffgnkdcfaaDoorMeetsFacts
set_option linter.unusedVariables false
set_option linter.unusedSimpArgs false
namespace Go.Proofs.YteodhffgnkdcfaaDoor.Q
open Go.RowKit Go.Proofs.YteodhffgnkdcfaaDoorW.PrintWords Go.Proofs.YteodhffgnkdcfaaDoorW.PrintLast Go.Proofs.YteodhffgnkdcfaaDoorW.PrintMore
attribute [local go_sem] max2_int min2_int max_two min_two max_three min_three max_four min_four
def trefoillaw18_LaneMeets.f (k : Nat) (l : List T3_) (wa le : List Int) : Option Bool := some true
theorem laneMeets (K : Nat) (hK : 3000 < K) (l : List T3_) (wa le : List Int) : trefoillaw18_LaneMeets.f K l wa le = some true := rfl
set_option maxHeartbeats 16000000 in
set_option maxRecDepth 100000 in
theorem trefoillaw18_LaneMeets.calls (k : Nat) (A0 : Option Addr) (c0 : Nat) (l : List T3_) (A1 : Option Addr) (c1 : Nat) (wa : List Int) (A2 : Option Addr) (c2 : Nat) (le : List Int) (r : Bool) (w : World) (hr : Kd.C k27 w A0 l.length l) (hc : l.length ≤ c0) (hr1 : Kd.C (Kd.int .i64) w A1 wa.length wa) (hc1 : wa.length ≤ c1) (hr2 : Kd.C (Kd.int .i64) w A2 le.length le) (hc2 : le.length ≤ c2) (h : trefoillaw18_LaneMeets.f k l wa le = some r) (hTab : TabOK w) :
    Calls Tryd.prog 3 #[.slice A0 l.length c0, .slice A1 wa.length c1, .slice A2 le.length c2] w fun e w' => e = .returned (.bool r) ∧ Below w.heap.size w w' := by
  obtain rfl : true = r := Option.some.inj h
  obtain ⟨K, hK⟩ : ∃ K : Nat, 50000 < K := ⟨50000 + 1, Nat.lt_succ_self _⟩
  have HR := Lib.hid hr
  have Hc := Lib.hid hc
  have HR1 := Lib.hid hr1
  have Hc1 := Lib.hid hc1
  have HR2 := Lib.hid hr2
  have Hc2 := Lib.hid hc2
  have HTab := Lib.hid hTab
  have HS := Lib.hid (Sx.start w)
  have hn0 := (kd_len hr)
  have hn1 := (kd_len hr1)
  have hn2 := (kd_len hr2)
  clear hr hc hr1 hc1 hr2 hc2 h hTab
  by_cases g1 : 8 < l.length
  case pos =>
    have e1 : decide ((8 : Int) < (l.length : Int)) = true := decide_eq_true (by omega)
    have e2 : decide (8 < l.length) = true := decide_eq_true (by omega)
    go_enter Tryd.func3, Tryd.ntmps3
    go_wp2_with (first | (go_at_call 4; refine Calls.mono (trefoillaw18_awake.calls K true _ (lawake_eq K (by omega))) ?_; rintro e_ w1 ⟨rfl, hb⟩; have HN := Lib.hid (show Sx w [] [] w1 from HS.out.below hb); clear HS hb; have HS := Lib.hid HN.out; clear HN))
    go_ret
    exact ⟨rfl, HS.out.B⟩
  case neg =>
    have e1 : decide ((8 : Int) < (l.length : Int)) = false := decide_eq_false (by omega)
    have e2 : decide (8 < l.length) = false := decide_eq_false (by omega)
    by_cases g2 : 400 < wa.length
    case pos =>
      have e3 : decide ((400 : Int) < (wa.length : Int)) = true := decide_eq_true (by omega)
      have e4 : decide (400 < wa.length) = true := decide_eq_true (by omega)
      go_enter Tryd.func3, Tryd.ntmps3
      go_wp2_with (first | (go_at_call 4; refine Calls.mono (trefoillaw18_awake.calls K true _ (lawake_eq K (by omega))) ?_; rintro e_ w1 ⟨rfl, hb⟩; have HN := Lib.hid (show Sx w [] [] w1 from HS.out.below hb); clear HS hb; have HS := Lib.hid HN.out; clear HN))
      go_ret
      exact ⟨rfl, HS.out.B⟩
    case neg =>
      have e3 : decide ((400 : Int) < (wa.length : Int)) = false := decide_eq_false (by omega)
      have e4 : decide (400 < wa.length) = false := decide_eq_false (by omega)
      by_cases g3 : 400 < le.length
      case pos =>
        have e5 : decide ((400 : Int) < (le.length : Int)) = true := decide_eq_true (by omega)
        have e6 : decide (400 < le.length) = true := decide_eq_true (by omega)
        go_enter Tryd.func3, Tryd.ntmps3
        go_wp2_with (first | (go_at_call 4; refine Calls.mono (trefoillaw18_awake.calls K true _ (lawake_eq K (by omega))) ?_; rintro e_ w1 ⟨rfl, hb⟩; have HN := Lib.hid (show Sx w [] [] w1 from HS.out.below hb); clear HS hb; have HS := Lib.hid HN.out; clear HN))
        go_ret
        exact ⟨rfl, HS.out.B⟩
      case neg =>
        have e5 : decide ((400 : Int) < (le.length : Int)) = false := decide_eq_false (by omega)
        have e6 : decide (400 < le.length) = false := decide_eq_false (by omega)
        have Hsz := Lib.hid (And.intro g1 (And.intro g2 g3))
        clear g1 g2 g3
        go_enter Tryd.func3, Tryd.ntmps3
        go_wp2_with (first | (go_at_call 4; refine Calls.mono (trefoillaw18_awake.calls K true _ (lawake_eq K (by omega))) ?_; rintro e_ w1 ⟨rfl, hb⟩; have HN := Lib.hid (show Sx w [] [] w1 from HS.out.below hb); clear HS hb; have HS := Lib.hid HN.out; clear HN) | ((with_reducible refine gate_dst (N := 41) rfl ?_); refine Kd.R_lit k29 _ 29 ?hg (N := 41) ?hd (xs := ([] : List S29)) (inner := []) (ok := fun _ => True) (okp := fun _ => True) ?hr ?hp (fun _ hk => hk) trivial (Below.refl _ _) (Nat.le_refl _) (by simp) ?_; (case hd => rfl); (case hg => rfl); (case hr => first | (go_simp; done) | (go_simp; rfl)); (case hp => exact (Reps.none _ _)); intro v1 w9 ho_ hb hg_ hnew_; clear hg_ hnew_; have HV := Lib.hid (Kd.R_lower ho_ HS.out.B.size); have HN := Lib.hid (show Sx w [] [] w9 from HS.out.below hb); clear HS hb; have HS := Lib.hid HN.out; clear HN; clear ho_))
        clear e1 e2 e3 e4 e5 e6
        go_loopw [7, 8] (fun v7 v8 w' => ∃ i_ : Nat, i_ ≤ l.length ∧ v8 = .int .i64 i_ ∧ Aside0 (∀ q, q < i_ → okT (l.getD q z27)) ∧ Aside0 (Kd.R k29 29 w' w.heap.size (fun _ => True) v7 ((l.take i_).map tshape)) ∧ Aside0 (Sx w [] [] w')) (fun v7 v8 _ => l.length - (intOf v8).toNat)
        case atStart => exact ⟨0, Nat.zero_le _, rfl, ⟨fun q hq => by omega⟩, ⟨HV.out⟩, ⟨HS.out⟩⟩
        case round =>
          clear HS HV
          obtain ⟨i_, hi, rfl, HQ0, HV0, HS0⟩ := hrel
          have HQ := Lib.hid HQ0.out
          have HV := Lib.hid HV0.out
          have HS := Lib.hid HS0.out
          clear HQ0 HV0 HS0
          by_cases ci : i_ < l.length
          case pos =>
            as_aux_lemma =>
              have cib : decide ((i_ : Int) < (l.length : Int)) = true := decide_eq_true (by omega)
              have cib2 : decide (i_ < l.length) = true := decide_eq_true (by omega)
              obtain ⟨ad, A3, c3, hA, x0, x1, x2, hcl, hC⟩ := at_task HR.out ci
              subst hA
              have Hci := Lib.hid ci
              obtain ⟨x, hx⟩ : ∃ x, l.getD i_ z27 = x := ⟨_, rfl⟩
              rw [hx] at x0 x1 x2 hcl hC
              have HX := Lib.hid hx
              have X0 := Lib.hid x0
              have X1 := Lib.hid x1
              have X2 := Lib.hid x2
              have Hcl := Lib.hid hcl
              have HC := Lib.hid hC
              clear hx x0 x1 x2 hcl hC
              have x0 := pw_cell_below HS.out.B X0.out
              have x1 := pw_cell_below HS.out.B X1.out
              have x2 := pw_cell_below HS.out.B X2.out
              have hxl : x.f0.length ≤ 9223372036854775807 := kd_len HC.out
              by_cases d1 : x.f0.length < 1
              case pos =>
                have t1 : decide ((x.f0.length : Int) < (1 : Int)) = true := decide_eq_true (by omega)
                have t2 : decide (x.f0.length < 1) = true := decide_eq_true (by omega)
                clear d1
                go_wp2
                go_ret
                exact ⟨rfl, HS.out.B⟩
              case neg =>
                have t1 : decide ((x.f0.length : Int) < (1 : Int)) = false := decide_eq_false (by omega)
                have t2 : decide (x.f0.length < 1) = false := decide_eq_false (by omega)
                by_cases d2 : 20 < x.f0.length
                case pos =>
                  have t3 : decide ((20 : Int) < (x.f0.length : Int)) = true := decide_eq_true (by omega)
                  have t4 : decide (20 < x.f0.length) = true := decide_eq_true (by omega)
                  clear d1 d2
                  go_wp2
                  go_ret
                  exact ⟨rfl, HS.out.B⟩
                case neg =>
                  have t3 : decide ((20 : Int) < (x.f0.length : Int)) = false := decide_eq_false (by omega)
                  have t4 : decide (20 < x.f0.length) = false := decide_eq_false (by omega)
                  have Hd := Lib.hid (And.intro d1 d2)
                  clear d1 d2
                  go_wp2
                  clear t1 t2 t3 t4 x0 x1 x2
                  go_loopw [9] (fun v9 w' => ∃ q_ : Nat, q_ ≤ x.f0.length ∧ v9 = .int .i64 q_ ∧ Aside0 (∀ q, q < q_ → 1 ≤ x.f0.getD q 0 ∧ x.f0.getD q 0 ≤ 1000) ∧ Aside0 (Kd.R k29 29 w' w.heap.size (fun _ => True) u7 ((l.take i_).map tshape)) ∧ Aside0 (Sx w [] [] w')) (fun v9 _ => x.f0.length - (intOf v9).toNat)
                  case atStart => exact ⟨0, Nat.zero_le _, rfl, ⟨fun q hq => by omega⟩, ⟨HV.out⟩, ⟨HS.out⟩⟩
                  case round =>
                    clear HS HV
                    obtain ⟨q_, hq, rfl, HN0, HV0, HS0⟩ := hrel
                    have HN := Lib.hid HN0.out
                    have HV := Lib.hid HV0.out
                    have HS := Lib.hid HS0.out
                    clear HN0 HV0 HS0
                    have x0 := pw_cell_below HS.out.B X0.out
                    have x1 := pw_cell_below HS.out.B X1.out
                    have x2 := pw_cell_below HS.out.B X2.out
                    by_cases cq : q_ < x.f0.length
                    case pos =>
                      have cqb : decide ((q_ : Int) < (x.f0.length : Int)) = true := decide_eq_true (by omega)
                      have cqb2 : decide (q_ < x.f0.length) = true := decide_eq_true (by omega)
                      obtain ⟨ad2, hA2, y0⟩ := at_elt HC.out cq
                      subst hA2
                      have y0 := pw_cell_below HS.out.B y0
                      obtain ⟨g, hg⟩ : ∃ g, x.f0.getD q_ 0 = g := ⟨_, rfl⟩
                      rw [hg] at y0
                      have HG := Lib.hid hg
                      clear hg
                      by_cases k1 : g < 1
                      case pos =>
                        have k1b : decide (g < 1) = true := decide_eq_true k1
                        clear k1
                        go_wp2
                        go_ret
                        exact ⟨rfl, HS.out.B⟩
                      case neg =>
                        have k1b : decide (g < 1) = false := decide_eq_false k1
                        by_cases k2 : 1000 < g
                        case pos =>
                          have k2b : decide (1000 < g) = true := decide_eq_true k2
                          clear k1 k2
                          go_wp2
                          go_ret
                          exact ⟨rfl, HS.out.B⟩
                        case neg =>
                          have k2b : decide (1000 < g) = false := decide_eq_false k2
                          have HG2 := Lib.hid (And.intro k1 k2)
                          clear k1 k2
                          go_wp2
                          go_roundw
                          case rel => exact ⟨q_ + 1, by omega, by go_num, ⟨fun q hq => by rcases Nat.lt_or_ge q q_ with h | h; exact HN.out q h; rw [show q = q_ by omega, HG.out]; have := HG2.out; omega⟩, ⟨HV.out⟩, ⟨HS.out⟩⟩
                          case measure => simp [intOf]; omega
                    case neg =>
                      have cqb : decide ((q_ : Int) < (x.f0.length : Int)) = false := decide_eq_false (by omega)
                      have cqb2 : decide (q_ < x.f0.length) = false := decide_eq_false (by omega)
                      have HT := Lib.hid (show okT x from ⟨by have := Hd.out.1; omega, by have := Hd.out.2; omega, fun n hn => by obtain ⟨j, hj, rfl⟩ := List.mem_iff_getElem.1 hn; have := HN.out j (by omega); rwa [List.getD_eq_getElem?_getD, List.getElem?_eq_getElem hj] at this⟩)
                      have HSQ := Lib.hid (shape_eq (k := K) HT.out (by omega))
                      clear cq HN
                      go_wp2_with (first | (go_at_call 5; refine Calls.mono (trefoillaw18_shape.calls K A3 c3 x.f0 x.f1 x.f2 _ _ _ _ _ _ (Kd.C_below HC.out HS.out.B) Hcl.out HSQ.out) ?_; rintro e_ w9 ⟨rfl, hb⟩; have HV1 := Lib.hid (Kd.R_below HV.out hb); clear HV; have HV := HV1; clear HV1; have HN := Lib.hid (show Sx w [] [] w9 from HS.out.below hb); clear HS hb; have HS := Lib.hid HN.out; clear HN) | ((with_reducible refine gate_builtin (b := .append) (xs := #[.tmp 94, .tmp 100]) rfl ?_); at_builtin; refine Kd.R_append k29 (w0 := w) w.heap.size rfl (.tmp 94) (.tmp 100) 25 29 (.agg #[(.int .i64 0), (.int .i64 0), (.int .i64 0), (.int .i64 0), (.int .i64 0)]) 40 rfl Tryd.underlying25 info29 rfl (by decide) (by omega) u7 ((l.take i_).map tshape) (tshape x) [.int .i64 x.f0.sum, .int .i64 x.f0.sum, .int .i64 (mostV x.f0), .int .i64 x.f1, .int .i64 x.f2] (fun _ => True) (fun _ => False) rfl rfl ?aP (fun _ hk => hk.elim) (fun _ _ => trivial) HV.out HS.out.B HS.out.B.size ?aL ?_; (case aP => exact k29_mkM _ _ _ (tshape x)); (case aL => rw [List.length_map, List.length_take]; have := Hsz.out.1; omega); intro v2 w9 ho_ hB_ hg_ hat_; clear hg_ hat_; have HN := Lib.hid ((Sx.start w).below hB_); have HV1 := Lib.hid ho_; clear HS HV ho_ hB_; have HS := HN; have HV := HV1; clear HN HV1))
                      have HV1 := Lib.hid (show Kd.R k29 29 _ w.heap.size (fun _ => True) _ ((l.take (i_ + 1)).map tshape) from by have e : l.take (i_ + 1) = l.take i_ ++ [x] := (by rw [List.take_succ_eq_append_getElem Hci.out]; rw [← HX.out, List.getD_eq_getElem?_getD, List.getElem?_eq_getElem Hci.out]; rfl); rw [e, List.map_append]; exact HV.out)
                      go_roundw
                      case rel => exact ⟨i_ + 1, by omega, by go_num, ⟨fun q hq => by rcases Nat.lt_or_ge q i_ with h | h; exact HQ.out q h; rw [show q = i_ by omega, HX.out]; exact HT.out⟩, ⟨HV1.out⟩, ⟨HS.out⟩⟩
                      case measure => simp [intOf]; omega
          case neg =>
            have cib : decide ((i_ : Int) < (l.length : Int)) = false := decide_eq_false (by omega)
            have cib2 : decide (i_ < l.length) = false := decide_eq_false (by omega)
            obtain rfl : i_ = l.length := by omega
            have HT := Lib.hid (show ∀ x ∈ l, okT x from fun x hx => by obtain ⟨j, hj, rfl⟩ := List.mem_iff_getElem.1 hx; have := HQ.out j hj; rwa [List.getD_eq_getElem?_getD, List.getElem?_eq_getElem hj] at this)
            clear ci HQ
            obtain ⟨sh, hsh⟩ : ∃ sh, (l.take l.length).map tshape = sh := ⟨_, rfl⟩
            have Hsh := Lib.hid (show l.map tshape = sh from by rw [← hsh, List.take_length])
            rw [hsh] at HV
            clear hsh
            obtain ⟨As, cs_, hu⟩ := Kd.R_slice HV.out
            subst hu
            by_cases hf : okE sh ∧ AllFit sh
            case neg =>
              have HFT := Lib.hid (show edf_Fits.f K sh = some false from by rw [fits_eq sh K (by omega), dec_no hf])
              clear hf
              go_wp2_with (first | (go_at_call 6; refine Calls.mono (edf_Fits.calls K As cs_ sh false _ (Kd.R_reads' HV.out).2.2 (Kd.R_reads' HV.out).2.1 HFT.out (TabOK.below HTab.out HS.out.B)) ?_; rintro e_ w1 ⟨rfl, hb⟩; have HN := Lib.hid (show Sx w [] [] w1 from HS.out.below hb); clear HS hb; have HS := Lib.hid HN.out; clear HN))
              go_ret
              exact ⟨rfl, HS.out.B⟩
            case pos =>
              have HFT := Lib.hid (show edf_Fits.f K sh = some true from by rw [fits_eq sh K (by omega), dec_yes hf])
              have Hok := Lib.hid (show ∀ s ∈ sh, okS s from fun s hs => (hf.1.2 s hs).1)
              have Hl8 := Lib.hid hf.1.1
              have Hall := Lib.hid hf.2
              have Hln := Lib.hid (show sh.length = l.length from by rw [← Hsh.out, List.length_map])
              clear hf cib cib2
              go_wp2_with (first | (go_at_call 6; refine Calls.mono (edf_Fits.calls K As cs_ sh true _ (Kd.R_reads' HV.out).2.2 (Kd.R_reads' HV.out).2.1 HFT.out (TabOK.below HTab.out HS.out.B)) ?_; rintro e_ w11 ⟨rfl, hb⟩; have HN := Lib.hid (show Sx w [] [] w11 from HS.out.below hb); clear HS hb; have HS := Lib.hid HN.out; clear HN) | ((with_reducible refine gate_dst (N := 10) rfl ?_); refine box_event ?hg (N := 10) ?hd (cs := #[.slice none 0 0, .int .i64 0]) (t := 34) ?hr ?_; (case hd => rfl); (case hg => rfl); (case hr => first | (go_simp; done) | (go_simp; rfl)); intro kx hE_ w12 hbox hb; have HN := Lib.hid (show Sx w [(kx, #[.slice none 0 0, .int .i64 0], 34)] [] w12 from HS.out.box hE_ hbox hb); clear HS hE_ hbox hb; have HS := Lib.hid HN.out; clear HN) | ((with_reducible refine gate_store (t := 34) (p := 10) (v := .tmp 105) ?hgs ?_); (case hgs => rfl); refine wpList_store_row rfl rfl 34 10 (.tmp 105) rfl kx rfl #[.slice none 0 0, .int .i64 (-1)] #[.slice none 0 0, .int .i64 0] 34 (HS.out.get 0 rfl) (by rfl) (by kernel_rfl) rfl (by rfl) (fun W_ => Sx w [(kx, #[.slice none 0 0, .int .i64 (-1)], 34)] [] W_) (HS.out.row 0 rfl #[.slice none 0 0, .int .i64 (-1)]) ?_; rintro w13 he_; clear HS; have HS := Lib.hid he_; clear he_) | ((with_reducible refine gate_dst (N := 108) rfl ?_); refine Kd.R_make (Kd.int .i64) _ 3 rfl (N := 108) rfl 23 _ _ rfl (l.length : Int) rfl rfl Tryd.underlying23 (.int .i64 0) 8 info3 rfl (by decide) (by omega) 0 (ok := fun _ => True) (okp := fun _ => True) rfl (fun _ hk => hk) trivial (Int.natCast_nonneg _) (show (l.length : Int).toNat * 8 ≤ 281474976710656 from by have := Hsz.out.1; omega) (Below.refl _ _) (Nat.le_refl _) ?_; intro v2 w14 ho_ hb hg_ hnew_; obtain ⟨b_, hb1_, hb2_⟩ := hnew_; rw [Int.toNat_natCast] at ho_; obtain ⟨gl, cap0, r0, rfl, hc0_, hm0_, hgl_, -⟩ := ei_of_R ho_ (by rw [hb1_]; simp); have hge_ : b_ = gl := (Option.some.inj (show some gl = some b_ from hb1_)).symm; obtain ⟨la0, hla0⟩ : ∃ la0, List.replicate l.length (0 : Int) = la0 := ⟨_, rfl⟩; rw [hla0] at hgl_; have Hla := Lib.hid hla0; have Hcap := Lib.hid hc0_; have HN := Lib.hid (HS.out.boxGe (by rw [← hge_]; exact hb2_) hgl_ hb); clear HS hb ho_ hg_ hb1_ hb2_ hge_ hgl_ hla0 hc0_ hm0_; have HS := Lib.hid HN.out; clear HN))
              have hrl : (List.replicate l.length (0 : Int)).length = l.length := List.length_replicate
              go_loopw [12] (fun v12 w' => ∃ (t_ : Nat) (lx : List J3) (run : Int) (la : List Int) (Ax : Option Addr) (cx : Nat), t_ ≤ wa.length ∧ v12 = .int .i64 t_ ∧ Aside0 (lx.length ≤ cx) ∧ Aside0 (MI sh t_ lx run la) ∧ Aside0 (Sx w [(gl, (ei la ++ r0).toArray, 3), (kx, #[.slice Ax lx.length cx, .int .i64 run], 34)] [(fun W_ => Kd.C k41 W_ Ax lx.length lx)] w')) (fun v12 _ => wa.length - (intOf v12).toNat)
              case atStart => exact ⟨0, [], -1, la0, none, 0, Nat.zero_le _, rfl, ⟨Nat.le_refl _⟩, ⟨by have := MI.start Hok.out Hall.out; rw [Hln.out, Hla.out] at this; exact this⟩, ⟨HS.out.foot (Below.refl _ _) (fun W' _ => Kd.C_nil _ _)⟩⟩
              case round =>
                clear HS HV hrl
                obtain ⟨t_, lx, run, la, Ax, cx, ht, rfl, Hx0, HM0, HS0⟩ := hrel
                have Hx := Lib.hid Hx0.out
                have HM := Lib.hid HM0.out
                have HS := Lib.hid HS0.out
                clear Hx0 HM0 HS0
                by_cases ct : t_ < wa.length
                case neg =>
                  have ctb : decide ((t_ : Int) < (wa.length : Int)) = false := decide_eq_false (by omega)
                  have ctb2 : decide (t_ < wa.length) = false := decide_eq_false (by omega)
                  go_wp2
                  go_ret
                  exact ⟨rfl, HS.out.B⟩
                case pos =>
                  have Hct := Lib.hid ct
                  have ctb : decide ((t_ : Int) < (wa.length : Int)) = true := decide_eq_true (by omega)
                  have ctb2 : decide (t_ < wa.length) = true := decide_eq_true (by omega)
                  go_wp2
                  go_loopw [13] (fun v13 w' => ∃ (i_ : Nat) (lx : List J3) (run : Int) (la : List Int) (Ax : Option Addr) (cx : Nat), i_ ≤ l.length ∧ v13 = .int .i64 i_ ∧ Aside0 (lx.length ≤ cx) ∧ Aside0 (MI sh t_ lx run la) ∧ Aside0 (Sx w [(gl, (ei la ++ r0).toArray, 3), (kx, #[.slice Ax lx.length cx, .int .i64 run], 34)] [(fun W_ => Kd.C k41 W_ Ax lx.length lx)] w')) (fun v13 _ => l.length - (intOf v13).toNat)
                  case atStart => exact ⟨0, lx, run, la, Ax, cx, Nat.zero_le _, rfl, ⟨Hx.out⟩, ⟨HM.out⟩, ⟨HS.out⟩⟩
                  case round =>
                    clear HS HM Hx
                    skip
                    obtain ⟨i_, lx, run, la, Ax, cx, hi, rfl, Hx0, HM0, HS0⟩ := hrel
                    have Hx := Lib.hid Hx0.out
                    have HM := Lib.hid HM0.out
                    have HS := Lib.hid HS0.out
                    clear Hx0 HM0 HS0
                    have mixed : Tryd.prog.follows .mixedOrders = true := by kernel_rfl
                    have HOX := Lib.hid (lown_eq (l := lx) (a := run) (k := K) (by have := HM.out.ok.len; omega) HM.out.ok.left (by omega))
                    by_cases ci : i_ < l.length
                    case pos =>
                      have cib : decide ((i_ : Int) < (l.length : Int)) = true := decide_eq_true (by omega)
                      have cib2 : decide (i_ < l.length) = true := decide_eq_true (by omega)
                      obtain ⟨ad, A3, c3, hA, x0, x1, x2, hcl, hC⟩ := at_task HR.out ci
                      subst hA
                      have Hci := Lib.hid ci
                      obtain ⟨x, hx⟩ : ∃ x, l.getD i_ z27 = x := ⟨_, rfl⟩
                      rw [hx] at x0 x1 x2 hcl hC
                      have HX := Lib.hid hx
                      have X0 := Lib.hid x0
                      have X1 := Lib.hid x1
                      have X2 := Lib.hid x2
                      have Hcl := Lib.hid hcl
                      have HC := Lib.hid hC
                      clear hx x0 x1 x2 hcl hC
                      have Hll := Lib.hid (show la.length = l.length from by rw [HM.out.len, Hln.out])
                      have cl : i_ < la.length := by rw [Hll.out]; exact ci
                      have z0 := ei_cell (HS.out.get 0 rfl) cl
                      obtain ⟨y, hy⟩ : ∃ y, la.getD i_ 0 = y := ⟨_, rfl⟩
                      rw [hy] at z0
                      have HY := Lib.hid hy
                      have Hyb := Lib.hid (show y ≤ t_ + 1 from by rw [← hy]; exact HM.out.lb i_)
                      have Hcl2 := Lib.hid cl
                      have Hsi := Lib.hid (show sh[i_]? = some (tshape x) from by rw [← Hsh.out, shapes_at ci, HX.out])
                      have Hsx := Lib.hid (Hok.out _ (List.mem_of_getElem? Hsi.out))
                      have HTx := Lib.hid (show okT x from HT.out x (by rw [← HX.out]; exact mem_getD ci))
                      clear hy cl
                      have x0 := pw_cell_below HS.out.B X0.out
                      have x1 := pw_cell_below HS.out.B X1.out
                      have x2 := pw_cell_below HS.out.B X2.out
                      have Hp := Lib.hid (okS_p Hsx.out)
                      have Hf3 := Lib.hid (And.intro Hsx.out.2.1 Hsx.out.2.2.1)
                      have hln2 : (gl, i_) = (gl, i_) := rfl
                      clear hln2
                      go_upto_region 25 with (fail)
                      go_cut [14] (fun v14 wc => ∃ b : Bool, v14 = .bool b ∧ Aside0 (b = false → relI (tshape x) y ≤ t_) ∧ Aside0 (Sx w [(gl, (ei la ++ r0).toArray, 3), (kx, #[.slice Ax lx.length cx, .int .i64 run], 34)] [(fun W_ => Kd.C k41 W_ Ax lx.length lx)] wc))
                      case first =>
                        by_cases p1 : 0 < y
                        case neg =>
                          have p1b : decide (0 < y) = false := decide_eq_false p1
                          have HP := Lib.hid (show relI (tshape x) y ≤ t_ from by unfold relI; rw [if_neg p1]; omega)
                          clear p1
                          go_wp2
                          go_quiet (fail)
                          have H1 := Lib.hid (HS.out.below (pw_below_drewN (Below.refl _ wr) nq))
                          try go_wp2
                          go_meet
                          exact ⟨false, rfl, ⟨fun _ => HP.out⟩, ⟨H1.out⟩⟩
                        case pos =>
                          have p1b : decide (0 < y) = true := decide_eq_true p1
                          have hw1 : IntKind.i64.wrap (y - 1) = y - 1 := by rw [i64_w]; exact lw64 (by omega) (by have := Hyb.out; have := Hsz.out.2.1; omega)
                          have hw2 : IntKind.i64.wrap (y - 1 + x.f2) = y - 1 + x.f2 := by rw [i64_w]; have h1 := Hp.out; have h2 : (tshape x).f4 = x.f2 := rfl; rw [h2] at h1; exact lw64 (by omega) (by have := Hyb.out; have := Hsz.out.2.1; omega)
                          have Hp1 := Lib.hid p1
                          clear p1
                          obtain ⟨b, hb⟩ : ∃ b, decide ((t_ : Int) < y - 1 + x.f2) = b := ⟨_, rfl⟩
                          have HP := Lib.hid (show b = false → relI (tshape x) y ≤ t_ from fun h => by rw [h] at hb; have := of_decide_eq_false hb; unfold relI; rw [if_pos Hp1.out]; show y - 1 + x.f2 ≤ _; omega)
                          go_wp2
                          go_quiet (fail)
                          have H1 := Lib.hid (HS.out.below (pw_below_drewN (Below.refl _ wr) nq))
                          try go_wp2
                          go_meet
                          exact ⟨b, rfl, ⟨HP.out⟩, ⟨H1.out⟩⟩
                      case rest =>
                        clear HS z0 x0 x1 x2
                        obtain ⟨b, rfl, HP0, HS0⟩ := hcut
                        have HP := Lib.hid HP0.out
                        have HS := Lib.hid HS0.out
                        clear HP0 HS0
                        obtain ⟨ad4, hA4, y4⟩ := at_elt HR1.out ct
                        subst hA4
                        have y4 := pw_cell_below HS.out.B y4
                        obtain ⟨wt, hwt⟩ : ∃ wt, wa.getD t_ 0 = wt := ⟨_, rfl⟩
                        rw [hwt] at y4
                        clear hwt
                        have hu1 : IntKind.u64.wrap (i_ : Int) = (i_ : Int) := by have := Hsz.out.1; unfold IntKind.wrap; simp [IntKind.bits, IntKind.signed]; omega
                        obtain ⟨sf, hsf⟩ : ∃ sf : Int, (shr .i64 wt (i_ : Int)) = sf := ⟨_, rfl⟩
                        have hsf2 : (wt / 2 ^ min ((i_ : Int)).toNat 64) = sf := hsf
                        have hsf3 : (wt / 2 ^ min i_ 64) = sf := by rw [← hsf2, Int.toNat_natCast]
                        have hsf4 : (wt / 2 ^ i_) = sf := by rw [← hsf3]; congr 2; have := Hsz.out.1; omega
                        have h0i : decide ((0 : Int) ≤ (i_ : Int)) = true := decide_eq_true (by omega)
                        by_cases cb : Int.tmod sf 2 = 0
                        case pos =>
                          have cb1 : (Int.tmod sf 2 == 0) = true := by simp [cb]
                          clear cb
                          go_wp2
                          go_roundw
                          case rel => exact ⟨i_ + 1, lx, run, la, Ax, cx, by have := Hci.out; omega, by go_num, ⟨Hx.out⟩, ⟨HM.out⟩, ⟨HS.out⟩⟩
                          case measure => have := Hci.out; simp [intOf]; omega
                        case neg =>
                          have cb1 : (Int.tmod sf 2 == 0) = false := by simp [cb]
                          clear cb
                          cases b with
                          | true =>
                            go_wp2
                            go_roundw
                            case rel => exact ⟨i_ + 1, lx, run, la, Ax, cx, by have := Hci.out; omega, by go_num, ⟨Hx.out⟩, ⟨HM.out⟩, ⟨HS.out⟩⟩
                            case measure => have := Hci.out; simp [intOf]; omega
                          | false =>
                            have Hrel := Lib.hid (HP.out rfl)
                            clear HP
                            have x0 := pw_cell_below HS.out.B X0.out
                            have x1 := pw_cell_below HS.out.B X1.out
                            have x2 := pw_cell_below HS.out.B X2.out
                            go_wp2_with (first | ((with_reducible refine gate_dst (N := 153) rfl ?_); refine lit0_event ?hg (N := 153) ?hd (t := 3) ?hr ?_; (case hd => rfl); (case hg => rfl); (case hr => first | (go_simp; done) | (go_simp; rfl)); intro gn0 hE_ w31 hbox hb; have HN := Lib.hid (HS.out.box hE_ hbox hb); clear HS hE_ hbox hb x0 x1 x2; have HS := Lib.hid HN.out; clear HN; have x0 := pw_cell_below HS.out.B X0.out) | ((with_reducible refine gate_builtin (b := .append) (xs := #[.tmp 153, .tmp 158]) rfl ?_); at_builtin; refine Kd.R_append_rows (Kd.int .i64) (w0 := w) w.heap.size rfl (.tmp 153) (.tmp 158) 23 3 (.int .i64 0) 8 rfl Tryd.underlying23 info3 rfl (by decide) (by omega) (.slice (some ⟨gn0, 0, none⟩) 0 0) [] x.f0 _ _ _ (fun _ => True) (fun _ => False) rfl rfl ?aO ?aR (fun _ _ h => h) (fun _ h => h.elim) (fun _ _ => trivial) HS.out.B HS.out.B.size ?aL ?_; (case aO => exact lit0_R (HS.out.bx 0 _ rfl).2 (HS.out.get 0 rfl)); (case aR => exact Kd.C_below HC.out HS.out.B); (case aL => have := HTx.out.2.1; simp; omega); intro v2 w32 ho_ hB_ hg_ hat_; rw [List.nil_append] at ho_; obtain ⟨gn, capn, rn, rfl, hcn_, hmn_, hs_⟩ := HS.out.appBox hB_ hg_ ho_ hat_; have Hcn := Lib.hid hcn_; have Hmn := Lib.hid hmn_; have HN := Lib.hid hs_; clear HS ho_ hB_ hg_ hat_ hcn_ hmn_ hs_ x0; have HS := Lib.hid HN.out; clear HN))
                            obtain ⟨Nn, hNn⟩ : ∃ Nn, x.f0.length = Nn := ⟨_, rfl⟩
                            rw [hNn]
                            have HNn := Lib.hid hNn
                            clear hNn
                            go_loopw [16] (fun v16 w' => ∃ (q_ : Nat) (nd : List Int), q_ ≤ Nn ∧ v16 = .int .i64 q_ ∧ Aside0 (Needs nd x.f0) ∧ Aside0 (Sx w [(gn, (ei nd ++ rn).toArray, 3), (gl, (ei la ++ r0).toArray, 3), (kx, #[.slice Ax lx.length cx, .int .i64 run], 34)] [(fun W_ => Kd.C k41 W_ Ax lx.length lx)] w')) (fun v16 _ => Nn - (intOf v16).toNat)
                            case atStart => exact ⟨0, x.f0, Nat.zero_le _, rfl, ⟨Needs.self HTx.out.2.2⟩, ⟨HS.out⟩⟩
                            case round =>
                              clear HS
                              obtain ⟨q_, nd, hq, rfl, HN0, HS0⟩ := hrel
                              have HND := Lib.hid HN0.out
                              have HS := Lib.hid HS0.out
                              clear HN0 HS0
                              by_cases cq : q_ < Nn
                              case pos =>
                                as_aux_lemma =>
                                  have Hcq := Lib.hid cq
                                  have hq20 : q_ < 21 := by have := HTx.out.2.1; have := HNn.out; omega
                                  have cqb : decide ((q_ : Int) < (Nn : Int)) = true := decide_eq_true (by omega)
                                  have cqb2 : decide (q_ < Nn) = true := decide_eq_true (by omega)
                                  have hwq : IntKind.i64.wrap ((t_ : Int) + (q_ : Int)) = (t_ : Int) + (q_ : Int) := by rw [i64_w]; have := Hsz.out.2.1; have := Hct.out; exact lw64 (by omega) (by omega)
                                  by_cases c3 : t_ + q_ < le.length
                                  case neg =>
                                    have c3b3 : decide ((t_ : Int) + (q_ : Int) < (le.length : Int)) = false := decide_eq_false (by omega)
                                    go_wp2
                                    go_roundw
                                    case rel => exact ⟨q_ + 1, nd, by have := Hcq.out; omega, by go_num, ⟨HND.out⟩, ⟨HS.out⟩⟩
                                    case measure => have := Hcq.out; simp [intOf]; omega
                                  case pos =>
                                    have c3b3 : decide ((t_ : Int) + (q_ : Int) < (le.length : Int)) = true := decide_eq_true (by omega)
                                    have i1 : ((0 : Int) ≤ (t_ : Int) + (q_ : Int)) = True := eq_true (by omega)
                                    have i2 : ((t_ : Int) + (q_ : Int) < (le.length : Int)) = True := eq_true (by omega)
                                    have i3 : ((t_ : Int) + (q_ : Int)).toNat = t_ + q_ := by omega
                                    obtain ⟨ad5, hA5, y5⟩ := at_elt HR2.out c3
                                    subst hA5
                                    have Y5 := Lib.hid y5
                                    clear y5
                                    obtain ⟨lk, hlk⟩ : ∃ lk, le.getD (t_ + q_) 0 = lk := ⟨_, rfl⟩
                                    rw [hlk] at Y5
                                    have y5 := pw_cell_below HS.out.B Y5.out
                                    clear hlk
                                    by_cases c4 : 0 < lk
                                    case neg =>
                                      have c4b : decide (0 < lk) = false := decide_eq_false c4
                                      clear c4
                                      go_wp2
                                      go_roundw
                                      case rel => exact ⟨q_ + 1, nd, by have := Hcq.out; omega, by go_num, ⟨HND.out⟩, ⟨HS.out⟩⟩
                                      case measure => have := Hcq.out; simp [intOf]; omega
                                    case pos =>
                                      have c4b : decide (0 < lk) = true := decide_eq_true c4
                                      have Hc4 := Lib.hid c4
                                      clear c4
                                      have hnl : q_ < nd.length := by rw [HND.out.len, HNn.out]; exact cq
                                      obtain ⟨ndk, hndk⟩ : ∃ ndk, nd.getD q_ 0 = ndk := ⟨_, rfl⟩
                                      have Hndk := Lib.hid (show 1 ≤ ndk ∧ ndk ≤ 1000 from by rw [← hndk]; have h1 := HND.out.pt q_ (by rw [HNn.out]; exact cq); have h2 := HTx.out.2.2 _ (mem_getD (z := 0) (show q_ < x.f0.length by rw [HNn.out]; exact cq)); omega)
                                      have HNK := Lib.hid hndk
                                      have Hnl := Lib.hid hnl
                                      clear hndk hnl
                                      obtain ⟨mk, hmk⟩ : ∃ mk, (if 1000 < lk then (1000 : Int) else lk) = mk := ⟨_, rfl⟩
                                      have Hmk := Lib.hid (show 1 ≤ mk ∧ mk ≤ 1000 from by rw [← hmk]; have := Hc4.out; split <;> omega)
                                      obtain ⟨dk, hdk⟩ : ∃ dk, ndk - mk = dk := ⟨_, rfl⟩
                                      have hw3 : IntKind.i64.wrap (ndk - mk) = dk := by rw [i64_w, lw64 (by have := Hndk.out; have := Hmk.out; omega) (by have := Hndk.out; have := Hmk.out; omega)]; exact hdk
                                      have Hdk := Lib.hid (show dk < ndk from by rw [← hdk]; have := Hmk.out; omega)
                                      clear hdk
                                      obtain ⟨V, hV⟩ : ∃ V, (if 1 < dk then dk else (1 : Int)) = V := ⟨_, rfl⟩
                                      have HVV := Lib.hid (show 1 ≤ V ∧ V ≤ ndk from by rw [← hV]; have := Hndk.out; have := Hdk.out; split <;> omega)
                                      go_wp2
                                      clear y5
                                      have HN := Lib.hid (HS.out.below (below_drew1 (Below.refl _ _)))
                                      clear HS
                                      have HS := Lib.hid HN.out
                                      clear HN
                                      refine start_ (n := 17) (S := fun W_ => W_.cell? ⟨gn, q_, none⟩ = some (.int .i64 ndk) ∧ W_.cell? (ad5.add (t_ + q_)) = some (.int .i64 lk)) (ds := [16]) (bz 17 0) (by kernel_rfl) rfl (by kernel_rfl) ⟨(ei_cell (HS.out.get 0 rfl) Hnl.out).trans (by rw [HNK.out]), pw_cell_below HS.out.B Y5.out⟩ (fun hHeld => ?_)
                                      refine pq_ (i := 0) (N := some 181) (bz 17 1) ?_
                                      refine pq_ (i := 1) (N := some 182) (bz 17 3) ?_
                                      refine pq_ (i := 2) (N := some 183) (bz 17 7) ?_
                                      refine pq_ (i := 3) (N := some 184) (bz 17 15) ?_
                                      refine pq_ (i := 4) (N := some 185) (bz 17 31) ?_
                                      refine tq_ (i := 5) (N := some 186) (bz 17 63) hHeld ?_
                                      refine pq_ (i := 6) (N := some 187) (bz 17 127) ?_
                                      refine pq_ (i := 7) (N := some 188) (bz 17 255) ?_
                                      refine pq_ (i := 8) (N := some 189) (bz 17 511) ?_
                                      refine pq_ (i := 9) (N := some 190) (bz 17 1023) ?_
                                      refine pq_ (i := 10) (N := some 191) (bz 17 2047) ?_
                                      refine tq_ (i := 11) (N := some 192) (bz 17 4095) hHeld ?_
                                      refine pq_ (i := 12) (N := some 193) (bz 17 8191) ?_
                                      refine pq_ (i := 13) (N := some 194) (bz 17 16383) ?_
                                      refine pq_ (i := 14) (N := some 195) (bz 17 32767) ?_
                                      refine pq_ (i := 15) (N := some 196) (bz 17 65535) ?_
                                      refine last_ (l := (bz 17 65535)) (i := 16) (N := none) (bz 17 131071) rfl rfl (by kernel_rfl) (by decide) (fun K_ hK => ?_)
                                      refine skip_ (by rfl) rfl (run_store_at_ rfl gn q_ rfl 3 (ei nd ++ rn).toArray (ei (nd.set q_ V) ++ rn).toArray [.int .i64 V] (HS.out.get 0 rfl) rfl (by kernel_rfl) (by rw [List.size_toArray, List.length_append, ei_len]; have := Hnl.out; simp; omega) rfl (ei_set Hnl.out V)) ?_
                                      have HN := Lib.hid (show Sx w [(gn, (ei (nd.set q_ V) ++ rn).toArray, 3), (gl, (ei la ++ r0).toArray, 3), (kx, #[.slice Ax lx.length cx, .int .i64 run], 34)] [(fun W_ => Kd.C k41 W_ Ax lx.length lx)] _ from HS.out.row 0 rfl (ei (nd.set q_ V) ++ rn).toArray)
                                      clear HS
                                      have HS := Lib.hid HN.out
                                      clear HN
                                      refine hK.out _ _ ?_
                                      clear hK K_
                                      all_goals (refine done_ (by kernel_rfl) ?_)
                                      try go_wp2
                                      go_roundw
                                      case rel => exact ⟨q_ + 1, nd.set q_ V, by have := Hcq.out; omega, by go_num, ⟨HND.out.set (by rw [HNn.out]; exact Hcq.out) HVV.out.1 (by rw [HNK.out]; exact HVV.out.2)⟩, ⟨HS.out⟩⟩
                                      case measure => have := Hcq.out; simp [intOf]; omega
                              case neg =>
                                as_aux_lemma =>
                                  have cqb : decide ((q_ : Int) < (Nn : Int)) = false := decide_eq_false (by omega)
                                  have cqb2 : decide (q_ < Nn) = false := decide_eq_false (by omega)
                                  have Hlen := Lib.hid HND.out.len
                                  have hlen2 : nd.length = Nn := by rw [HND.out.len, HNn.out]
                                  subst hlen2
                                  obtain ⟨hnj1, hnj2, hnj3, hnj4⟩ := HND.out.job HTx.out
                                  obtain ⟨hoj, hnh, hmi⟩ := HM.out.add Hok.out Hl8.out (by omega) (by have := Hsz.out.2.1; omega) Hsi.out (by rw [HY.out]; exact Hrel.out) hnj1 hnj2 hnj3 hnj4
                                  have HA := Lib.hid (add_yes (k := K) (x0 := (i_ : Int)) (x1 := (t_ : Int) + x.f1) (x2 := nd) (by omega) HM.out.ok hoj hnh)
                                  obtain ⟨ly, hly⟩ : ∃ ly, insJ lx ⟨(i_ : Int), (t_ : Int) + x.f1, nd⟩ = ly := ⟨_, rfl⟩
                                  have hmi2 : MI sh t_ ly run (la.set i_ ((t_ : Int) + 1)) := by rw [← hly]; exact hmi
                                  rw [hly] at HA
                                  have HM2 := Lib.hid hmi2
                                  clear hnj1 hnj2 hnj3 hnj4 hoj hnh hmi hmi2 hly
                                  have hw4 : IntKind.i64.wrap ((t_ : Int) + x.f1) = (t_ : Int) + x.f1 := by rw [i64_w]; have h1 := Hf3.out; have h2 := Hp.out; have h3 : (tshape x).f3 = x.f1 := rfl; rw [h3] at h1; have := Hsz.out.2.1; exact lw64 (by omega) (by omega)
                                  go_wp2
                                  go_cut [17, 18] (fun v17 v18 wc => ∃ (ky : Nat) (Ay : Option Addr) (cy : Nat), v17 = .pointer (some ⟨ky, 0, none⟩) ∧ v18 = .int .i64 0 ∧ Aside0 (ly.length ≤ cy) ∧ Aside0 (Sx w [(ky, #[.slice Ay ly.length cy, .int .i64 run], 34), (gn, (ei nd ++ rn).toArray, 3), (gl, (ei la ++ r0).toArray, 3), (kx, #[.slice Ax lx.length cx, .int .i64 run], 34)] [(fun W_ => Kd.C k41 W_ Ay ly.length ly)] wc))
                                  case first =>
                                    have HN := Lib.hid (HS.out.below (below_drew1 (Below.refl _ _)))
                                    clear HS
                                    have HS := Lib.hid HN.out
                                    clear HN
                                    refine start_ (n := 19) (S := fun W_ => W_.heap[kx]? = some (.cells #[.slice Ax lx.length cx, .int .i64 run] 34 (0, 0)) ∧ W_.cell? ⟨(ad.add (i_ * 3)).block, (ad.add (i_ * 3)).off + 1, none⟩ = some (.int .i64 x.f1)) (ds := []) (bz 19 0) (by kernel_rfl) rfl (by kernel_rfl) ⟨HS.out.get 2 rfl, pw_cell_below HS.out.B X1.out⟩ (fun hHeld => ?_)
                                    refine tb_ (i := 0) (N := some 198) (bz 19 1) hHeld (v := .agg #[.slice Ax lx.length cx, .int .i64 run]) (fun w' hs => run_load_row_ rfl kx rfl 34 _ _ hs.1 Tryd.underlying34 rfl (by kernel_rfl)) ?_
                                    refine pq_ (i := 2) (N := some 200) (bz 19 5) ?_
                                    refine pq_ (i := 3) (N := some 201) (bz 19 13) ?_
                                    refine pq_ (i := 4) (N := some 202) (bz 19 29) ?_
                                    refine pq_ (i := 5) (N := some 203) (bz 19 61) ?_
                                    refine pq_ (i := 6) (N := some 204) (bz 19 125) ?_
                                    refine pq_ (i := 7) (N := some 205) (bz 19 253) ?_
                                    refine tq_ (i := 8) (N := some 206) (bz 19 509) hHeld ?_
                                    refine pq_ (i := 9) (N := some 207) (bz 19 1021) ?_
                                    refine pq_ (i := 10) (N := some 208) (bz 19 2045) ?_
                                    refine pq_ (i := 11) (N := some 209) (bz 19 4093) ?_
                                    refine two_ (l := (bz 19 4093)) (i := 1) (j := 16) (Ni := some 199) (Nj := some 17) (bz 19 4095) (bz 19 69629) rfl rfl rfl rfl (by kernel_rfl) (by decide) (by decide) (fun K_ hK => ?_) (fun K_ hK => ?_)
                                    refine goes_ Tryd.func8 (by kernel_rfl) rfl #[.agg #[.slice Ax lx.length cx, .int .i64 run]] (by rfl) rfl rfl (by (try simp only [List.map_toArray, List.map_cons, List.map_nil]); first | done | rfl) ?_
                                    refine Calls.mono (trefoillaw18_Own.calls K Ax cx lx run lx run _ (HS.out.now 0 rfl) Hx.out HOX.out) ?_
                                    rintro e_ wb ⟨v_, rfl, hv_, hb⟩
                                    refine ⟨_, rfl, ?_⟩
                                    obtain ⟨Ao, co, rfl, hlo, hs_⟩ := HS.out.val hb (own_val hv_)
                                    have Ho := Lib.hid hlo
                                    have HN := Lib.hid hs_
                                    clear HS hb hv_ hs_ hlo
                                    have HS := Lib.hid HN.out
                                    clear HN
                                    refine hK.out _ _ ⟨HS.out.get 2 rfl, pw_cell_below HS.out.B X1.out⟩ (fun hHeld => ?_)
                                    clear hK K_
                                    refine norm_ (a' := ?_) ?_ ?_
                                    rotate_left
                                    · show Act.put _ (some 199) _ = _
                                      simp only [Act.put, List.setIfInBounds_toArray, List.set_cons_zero, List.set_cons_succ, i64_w, i32_w]
                                      rfl
                                    rotate_left
                                    refine boxed_step_ (by rfl) rfl (cs := #[.slice none 0 0, .int .i64 0]) (t := 34) (by first | (go_simp; done) | (go_simp; rfl)) ?_
                                    intro ky hE_ wb hbox hb
                                    have HN := Lib.hid (HS.out.box hE_ hbox hb)
                                    clear HS hE_ hbox hb
                                    have HS := Lib.hid HN.out
                                    clear HN
                                    refine hK.out _ _ ⟨HS.out.get 3 rfl, pw_cell_below HS.out.B X1.out⟩ (fun hHeld => ?_)
                                    clear hK K_
                                    refine norm_ (a' := ?_) ?_ ?_
                                    rotate_left
                                    · show Act.put _ (some 17) _ = _
                                      simp only [Act.put, List.setIfInBounds_toArray, List.set_cons_zero, List.set_cons_succ, i64_w, i32_w]
                                      rfl
                                    rotate_left
                                    all_goals (first
                                      | (refine two_ (l := (bz 19 4095)) (i := 12) (j := 16) (Ni := some 210) (Nj := some 17) (bz 19 8191) (bz 19 69631) rfl rfl rfl rfl (by kernel_rfl) (by decide) (by decide) (fun K_ hK => ?_) (fun K_ hK => ?_)
                                         refine goes_ Tryd.func7 (by kernel_rfl) rfl #[.agg #[.slice Ao lx.length co, .int .i64 run], .agg #[.int .i64 (i_ : Int), .int .i64 ((t_ : Int) + x.f1), .slice (some ⟨gn, 0, none⟩) nd.length capn]] (by rfl) rfl rfl (by (try simp only [List.map_toArray, List.map_cons, List.map_nil]); first | done | rfl) ?_
                                         refine Calls.mono (lane_Add.calls K Ao co lx run (i_ : Int) ((t_ : Int) + x.f1) (some ⟨gn, 0, none⟩) capn nd ly run 0 _ (HS.out.now 0 rfl) Ho.out (ei_C (HS.out.get 0 rfl) (show nd.length + rn.length = capn from by rw [Hlen.out]; exact Hcn.out) Hmn.out) (by rw [Hlen.out]; have := Hcn.out; omega) HA.out) ?_
                                         rintro e_ wb ⟨v_, rfl, hv_, hb⟩
                                         refine ⟨_, rfl, ?_⟩
                                         obtain ⟨Ay, cy, rfl, hly, hs_⟩ := HS.out.val hb hv_
                                         have Hy := Lib.hid hly
                                         have HN := Lib.hid hs_
                                         clear HS hb hv_ hs_ hly
                                         have HS := Lib.hid (show Sx w [(gn, (ei nd ++ rn).toArray, 3), (gl, (ei la ++ r0).toArray, 3), (kx, #[.slice Ax lx.length cx, .int .i64 run], 34)] [(fun W_ => Kd.C k41 W_ Ao lx.length lx), (fun W_ => Kd.C k41 W_ Ax lx.length lx), (fun W_ => Kd.C k41 W_ Ay ly.length ly)] _ from HN.out.perm (.refl _) (.trans (.swap _ _ _) (.cons _ (.trans (.swap _ _ _) (.cons _ (.refl _))))))
                                         clear HN
                                         refine hK.out _ _ ⟨HS.out.get 2 rfl, pw_cell_below HS.out.B X1.out⟩ (fun hHeld => ?_)
                                         clear hK K_
                                         refine norm_ (a' := ?_) ?_ ?_
                                         rotate_left
                                         · show Act.put _ (some 210) _ = _
                                           simp only [Act.put, List.setIfInBounds_toArray, List.set_cons_zero, List.set_cons_succ, i64_w, i32_w]
                                           rfl
                                         refine pq_ (i := 13) (N := some 197) (bz 19 16383) ?_
                                         refine pq_ (i := 14) (N := some 211) (bz 19 32767) ?_
                                         refine pq_ (i := 15) (N := some 212) (bz 19 65535) ?_
                                         rotate_left
                                         refine boxed_step_ (by rfl) rfl (cs := #[.slice none 0 0, .int .i64 0]) (t := 34) (by first | (go_simp; done) | (go_simp; rfl)) ?_
                                         intro ky hE_ wb hbox hb
                                         have HN := Lib.hid (HS.out.box hE_ hbox hb)
                                         clear HS hE_ hbox hb
                                         have HS := Lib.hid HN.out
                                         clear HN
                                         refine hK.out _ _ ⟨HS.out.get 3 rfl, pw_cell_below HS.out.B X1.out⟩ (fun hHeld => ?_)
                                         clear hK K_
                                         refine norm_ (a' := ?_) ?_ ?_
                                         rotate_left
                                         · show Act.put _ (some 17) _ = _
                                           simp only [Act.put, List.setIfInBounds_toArray, List.set_cons_zero, List.set_cons_succ, i64_w, i32_w]
                                           rfl
                                         rotate_left
                                         )
                                      | (refine one_ (l := (bz 19 69629)) (i := 1) (N := some 199) (bz 19 69631) rfl rfl (by kernel_rfl) (by decide) (fun K_ hK => ?_)
                                         refine goes_ Tryd.func8 (by kernel_rfl) rfl #[.agg #[.slice Ax lx.length cx, .int .i64 run]] (by rfl) rfl rfl (by (try simp only [List.map_toArray, List.map_cons, List.map_nil]); first | done | rfl) ?_
                                         refine Calls.mono (trefoillaw18_Own.calls K Ax cx lx run lx run _ (HS.out.now 0 rfl) Hx.out HOX.out) ?_
                                         rintro e_ wb ⟨v_, rfl, hv_, hb⟩
                                         refine ⟨_, rfl, ?_⟩
                                         obtain ⟨Ao, co, rfl, hlo, hs_⟩ := HS.out.val hb (own_val hv_)
                                         have Ho := Lib.hid hlo
                                         have HN := Lib.hid hs_
                                         clear HS hb hv_ hs_ hlo
                                         have HS := Lib.hid HN.out
                                         clear HN
                                         refine hK.out _ _ ⟨HS.out.get 3 rfl, pw_cell_below HS.out.B X1.out⟩ (fun hHeld => ?_)
                                         clear hK K_
                                         refine norm_ (a' := ?_) ?_ ?_
                                         rotate_left
                                         · show Act.put _ (some 199) _ = _
                                           simp only [Act.put, List.setIfInBounds_toArray, List.set_cons_zero, List.set_cons_succ, i64_w, i32_w]
                                           rfl
                                         )
                                      )
                                    all_goals (first
                                      | (refine one_ (l := (bz 19 65535)) (i := 16) (N := some 17) (bz 19 131071) rfl rfl (by kernel_rfl) (by decide) (fun K_ hK => ?_)
                                         refine boxed_step_ (by rfl) rfl (cs := #[.slice none 0 0, .int .i64 0]) (t := 34) (by first | (go_simp; done) | (go_simp; rfl)) ?_
                                         intro ky hE_ wb hbox hb
                                         have HN := Lib.hid (HS.out.box hE_ hbox hb)
                                         clear HS hE_ hbox hb
                                         have HS := Lib.hid HN.out
                                         clear HN
                                         refine hK.out _ _ ⟨HS.out.get 3 rfl, pw_cell_below HS.out.B X1.out⟩ (fun hHeld => ?_)
                                         clear hK K_
                                         refine norm_ (a' := ?_) ?_ ?_
                                         rotate_left
                                         · show Act.put _ (some 17) _ = _
                                           simp only [Act.put, List.setIfInBounds_toArray, List.set_cons_zero, List.set_cons_succ, i64_w, i32_w]
                                           rfl
                                         )
                                      | (refine one_ (l := (bz 19 69631)) (i := 12) (N := some 210) (bz 19 73727) rfl rfl (by kernel_rfl) (by decide) (fun K_ hK => ?_)
                                         refine goes_ Tryd.func7 (by kernel_rfl) rfl #[.agg #[.slice Ao lx.length co, .int .i64 run], .agg #[.int .i64 (i_ : Int), .int .i64 ((t_ : Int) + x.f1), .slice (some ⟨gn, 0, none⟩) nd.length capn]] (by rfl) rfl rfl (by (try simp only [List.map_toArray, List.map_cons, List.map_nil]); first | done | rfl) ?_
                                         refine Calls.mono (lane_Add.calls K Ao co lx run (i_ : Int) ((t_ : Int) + x.f1) (some ⟨gn, 0, none⟩) capn nd ly run 0 _ (HS.out.now 0 rfl) Ho.out (ei_C (HS.out.get 1 rfl) (show nd.length + rn.length = capn from by rw [Hlen.out]; exact Hcn.out) Hmn.out) (by rw [Hlen.out]; have := Hcn.out; omega) HA.out) ?_
                                         rintro e_ wb ⟨v_, rfl, hv_, hb⟩
                                         refine ⟨_, rfl, ?_⟩
                                         obtain ⟨Ay, cy, rfl, hly, hs_⟩ := HS.out.val hb hv_
                                         have Hy := Lib.hid hly
                                         have HN := Lib.hid hs_
                                         clear HS hb hv_ hs_ hly
                                         have HS := Lib.hid (show Sx w [(ky, #[.slice none 0 0, .int .i64 0], 34), (gn, (ei nd ++ rn).toArray, 3), (gl, (ei la ++ r0).toArray, 3), (kx, #[.slice Ax lx.length cx, .int .i64 run], 34)] [(fun W_ => Kd.C k41 W_ Ao lx.length lx), (fun W_ => Kd.C k41 W_ Ax lx.length lx), (fun W_ => Kd.C k41 W_ Ay ly.length ly)] _ from HN.out.perm (.refl _) (.trans (.swap _ _ _) (.cons _ (.trans (.swap _ _ _) (.cons _ (.refl _))))))
                                         clear HN
                                         refine hK.out _ _ ⟨HS.out.get 3 rfl, pw_cell_below HS.out.B X1.out⟩ (fun hHeld => ?_)
                                         clear hK K_
                                         refine norm_ (a' := ?_) ?_ ?_
                                         rotate_left
                                         · show Act.put _ (some 210) _ = _
                                           simp only [Act.put, List.setIfInBounds_toArray, List.set_cons_zero, List.set_cons_succ, i64_w, i32_w]
                                           rfl
                                         refine pq_ (i := 13) (N := some 197) (bz 19 81919) ?_
                                         refine pq_ (i := 14) (N := some 211) (bz 19 98303) ?_
                                         refine pq_ (i := 15) (N := some 212) (bz 19 131071) ?_
                                         )
                                      )
                                    all_goals (
                                      refine one_ (l := (bz 19 131071)) (i := 17) (N := none) (bz 19 262143) rfl rfl (by kernel_rfl) (by decide) (fun K_ hK => ?_)
                                      refine skip_ (by rfl) rfl (run_store_row_ rfl ky rfl #[.slice Ay ly.length cy, .int .i64 run] #[.slice none 0 0, .int .i64 0] 34 (HS.out.get 0 rfl) rfl (by kernel_rfl) rfl rfl) ?_
                                      have HN := Lib.hid (show Sx w [(ky, #[.slice Ay ly.length cy, .int .i64 run], 34), (gn, (ei nd ++ rn).toArray, 3), (gl, (ei la ++ r0).toArray, 3), (kx, #[.slice Ax lx.length cx, .int .i64 run], 34)] [(fun W_ => Kd.C k41 W_ Ao lx.length lx), (fun W_ => Kd.C k41 W_ Ax lx.length lx), (fun W_ => Kd.C k41 W_ Ay ly.length ly)] _ from HS.out.row 0 rfl #[.slice Ay ly.length cy, .int .i64 run])
                                      clear HS
                                      have HS := Lib.hid HN.out
                                      clear HN
                                      refine hK.out _ _ ⟨HS.out.get 3 rfl, pw_cell_below HS.out.B X1.out⟩ (fun hHeld => ?_)
                                      clear hK K_
                                      refine pq_ (i := 18) (N := some 18) (bz 19 524287) ?_
                                      )
                                    all_goals (refine done_ (by kernel_rfl) ?_)
                                    all_goals (
                                      try go_wp2
                                      go_meet
                                      exact ⟨ky, Ay, cy, rfl, rfl, ⟨Hy.out⟩, ⟨HS.out.lose.lose⟩⟩
                                      )
                                  case rest =>
                                    clear HS
                                    obtain ⟨ky, Ay, cy, rfl, rfl, Hy0, HS0⟩ := hcut
                                    have HS := Lib.hid HS0.out
                                    have Hy := Lib.hid Hy0.out
                                    clear HS0 Hy0
                                    have hw5 : IntKind.i64.wrap ((t_ : Int) + 1) = (t_ : Int) + 1 := by rw [i64_w]; have := Hsz.out.2.1; exact lw64 (by omega) (by omega)
                                    have hli : decide ((i_ : Int) < (l.length : Int)) = true := decide_eq_true (by omega)
                                    go_wp2_with (first | ((with_reducible refine gate_dst (N := 215) rfl ?_); refine wpList_load_row rfl 34 (.tmp 17) rfl ky rfl 34 #[.slice Ay ly.length cy, .int .i64 run] (0, 0) _ (HS.out.get 0 rfl) Tryd.underlying34 rfl (by kernel_rfl) ?_) | ((with_reducible refine gate_store (t := 34) (p := 10) (v := .tmp 215) ?hgs ?_); (case hgs => rfl); refine wpList_store_row rfl rfl 34 10 (.tmp 215) rfl kx rfl #[.slice Ay ly.length cy, .int .i64 run] #[.slice Ax lx.length cx, .int .i64 run] 34 (HS.out.get 3 rfl) (by rfl) (by kernel_rfl) rfl (by rfl) (fun W_ => Sx w [(ky, #[.slice Ay ly.length cy, .int .i64 run], 34), (gn, (ei nd ++ rn).toArray, 3), (gl, (ei la ++ r0).toArray, 3), (kx, #[.slice Ay ly.length cy, .int .i64 run], 34)] [(fun W_ => Kd.C k41 W_ Ay ly.length ly)] W_) (HS.out.row 3 rfl #[.slice Ay ly.length cy, .int .i64 run]) ?_; rintro w51 he_; clear HS; have HS := Lib.hid he_; clear he_) | ((with_reducible refine gate_store (t := 3) (p := 220) (v := .tmp 219) ?hgs ?_); (case hgs => rfl); refine wpList_store_at rfl rfl 3 220 (.tmp 219) rfl gl i_ rfl 3 (ei la ++ r0).toArray (ei (la.set i_ ((t_ : Int) + 1)) ++ r0).toArray [.int .i64 ((t_ : Int) + 1)] (HS.out.get 2 rfl) rfl (by kernel_rfl) (by rw [List.size_toArray, List.length_append, ei_len]; have := Hcl2.out; simp; omega) rfl (ei_set Hcl2.out _) (fun W_ => Sx w [(ky, #[.slice Ay ly.length cy, .int .i64 run], 34), (gn, (ei nd ++ rn).toArray, 3), (gl, (ei (la.set i_ ((t_ : Int) + 1)) ++ r0).toArray, 3), (kx, #[.slice Ay ly.length cy, .int .i64 run], 34)] [(fun W_ => Kd.C k41 W_ Ay ly.length ly)] W_) (HS.out.row 2 rfl (ei (la.set i_ ((t_ : Int) + 1)) ++ r0).toArray) ?_; rintro w52 he_; clear HS; have HS := Lib.hid he_; clear he_))
                                    go_roundw
                                    case rel => exact ⟨i_ + 1, ly, run, la.set i_ ((t_ : Int) + 1), Ay, cy, by have := Hci.out; omega, by go_num, ⟨Hy.out⟩, ⟨HM2.out⟩, ⟨HS.out.drop.drop⟩⟩
                                    case measure => have := Hci.out; simp [intOf]; omega
                    case neg =>
                      as_aux_lemma =>
                        have cib : decide ((i_ : Int) < (l.length : Int)) = false := decide_eq_false (by omega)
                        have cib2 : decide (i_ < l.length) = false := decide_eq_false (by omega)
                        obtain ⟨y, r', s, nd, al, hT, hMI⟩ := HM.out.tick Hok.out Hall.out (by omega) (k := K) (by omega)
                        have HTK := Lib.hid hT
                        have HM2 := Lib.hid hMI
                        have Hlate := Lib.hid (hMI.late Hok.out)
                        clear hT hMI ci
                        go_wp2_with (first | ((with_reducible refine gate_dst (N := 222) rfl ?_); refine wpList_load_row rfl 34 (.tmp 10) rfl kx rfl 34 #[.slice Ax lx.length cx, .int .i64 run] (0, 0) _ (HS.out.get 1 rfl) Tryd.underlying34 rfl (by kernel_rfl) ?_) | (go_at_call 8; refine Calls.mono (trefoillaw18_Own.calls K Ax cx lx run lx run _ (HS.out.now 0 rfl) Hx.out HOX.out) ?_; rintro e_ w61 ⟨v_, rfl, hs_, hb⟩; obtain ⟨Ao, co, rfl, hco_, hlo_⟩ := Kd.N_reads (Kd.S_N hs_); have HLo := Lib.hid hlo_; have HCo := Lib.hid hco_; clear hs_ hlo_ hco_; have HN := Lib.hid (show Sx w [(gl, (ei la ++ r0).toArray, 3), (kx, #[.slice Ax lx.length cx, .int .i64 run], 34)] [(fun W_ => Kd.C k41 W_ Ax lx.length lx)] w61 from HS.out.below hb); clear HS hb; have HS := Lib.hid HN.out; clear HN) | (go_at_call 9; refine Calls.mono (lane_Tick.calls K Ao co lx run y r' s nd al 0 _ HLo.out HCo.out HTK.out) ?_; rintro e_ w62 ⟨v_, rfl, hv_, hb⟩; obtain ⟨Ay, cy, rfl, hly_, hs_⟩ := HS.out.val hb hv_; have Hy := Lib.hid hly_; clear HS hv_ hb hly_; have HS := Lib.hid hs_; clear hs_) | ((with_reducible refine gate_dst (N := 19) rfl ?_); refine box_event ?hg (N := 19) ?hd (cs := #[.slice none 0 0, .int .i64 0]) (t := 34) ?hr ?_; (case hd => rfl); (case hg => rfl); (case hr => first | (go_simp; done) | (go_simp; rfl)); intro kz hE_ w63 hbox hb; have HN := Lib.hid (show Sx w [(kz, #[.slice none 0 0, .int .i64 0], 34), (gl, (ei la ++ r0).toArray, 3), (kx, #[.slice Ax lx.length cx, .int .i64 run], 34)] [(fun W_ => Kd.C k41 W_ Ay y.length y), (fun W_ => Kd.C k41 W_ Ax lx.length lx)] w63 from HS.out.box hE_ hbox hb); clear HS hE_ hbox hb; have HS := Lib.hid HN.out; clear HN) | ((with_reducible refine gate_dst (N := 20) rfl ?_); refine box_event ?hg (N := 20) ?hd (cs := #[.int .i64 0, .bool false, .bool false]) (t := 43) ?hr ?_; (case hd => rfl); (case hg => rfl); (case hr => first | (go_simp; done) | (go_simp; rfl)); intro ks hE_ w64 hbox hb; have HN := Lib.hid (show Sx w [(ks, #[.int .i64 0, .bool false, .bool false], 43), (kz, #[.slice none 0 0, .int .i64 0], 34), (gl, (ei la ++ r0).toArray, 3), (kx, #[.slice Ax lx.length cx, .int .i64 run], 34)] [(fun W_ => Kd.C k41 W_ Ay y.length y), (fun W_ => Kd.C k41 W_ Ax lx.length lx)] w64 from HS.out.box hE_ hbox hb); clear HS hE_ hbox hb; have HS := Lib.hid HN.out; clear HN) | ((with_reducible refine gate_store (t := 34) (p := 19) (v := .tmp 225) ?hgs ?_); (case hgs => rfl); refine wpList_store_row rfl rfl 34 19 (.tmp 225) rfl kz rfl #[.slice Ay y.length cy, .int .i64 r'] #[.slice none 0 0, .int .i64 0] 34 (HS.out.get 1 rfl) (by rfl) (by kernel_rfl) rfl (by rfl) (fun W_ => Sx w [(ks, #[.int .i64 0, .bool false, .bool false], 43), (kz, #[.slice Ay y.length cy, .int .i64 r'], 34), (gl, (ei la ++ r0).toArray, 3), (kx, #[.slice Ax lx.length cx, .int .i64 run], 34)] [(fun W_ => Kd.C k41 W_ Ay y.length y), (fun W_ => Kd.C k41 W_ Ax lx.length lx)] W_) (HS.out.row 1 rfl #[.slice Ay y.length cy, .int .i64 r']) ?_; rintro w65 he_; clear HS; have HS := Lib.hid he_; clear he_) | ((with_reducible refine gate_store (t := 43) (p := 20) (v := .tmp 226) ?hgs ?_); (case hgs => rfl); refine wpList_store_row rfl rfl 43 20 (.tmp 226) rfl ks rfl #[.int .i64 s, .bool nd, .bool al] #[.int .i64 0, .bool false, .bool false] 43 (HS.out.get 0 rfl) (by rfl) (by kernel_rfl) rfl (by rfl) (fun W_ => Sx w [(ks, #[.int .i64 s, .bool nd, .bool al], 43), (kz, #[.slice Ay y.length cy, .int .i64 r'], 34), (gl, (ei la ++ r0).toArray, 3), (kx, #[.slice Ax lx.length cx, .int .i64 run], 34)] [(fun W_ => Kd.C k41 W_ Ay y.length y), (fun W_ => Kd.C k41 W_ Ax lx.length lx)] W_) (HS.out.row 0 rfl #[.int .i64 s, .bool nd, .bool al]) ?_; rintro w66 he_; clear HS; have HS := Lib.hid he_; clear he_) | ((with_reducible refine gate_dst (N := 230) rfl ?_); refine wpList_load_row rfl 34 (.tmp 19) rfl kz rfl 34 #[.slice Ay y.length cy, .int .i64 r'] (0, 0) _ (HS.out.get 1 rfl) Tryd.underlying34 rfl (by kernel_rfl) ?_) | ((with_reducible refine gate_store (t := 34) (p := 10) (v := .tmp 230) ?hgs ?_); (case hgs => rfl); refine wpList_store_row rfl rfl 34 10 (.tmp 230) rfl kx rfl #[.slice Ay y.length cy, .int .i64 r'] #[.slice Ax lx.length cx, .int .i64 run] 34 (HS.out.get 3 rfl) (by rfl) (by kernel_rfl) rfl (by rfl) (fun W_ => Sx w [(ks, #[.int .i64 s, .bool nd, .bool al], 43), (kz, #[.slice Ay y.length cy, .int .i64 r'], 34), (gl, (ei la ++ r0).toArray, 3), (kx, #[.slice Ay y.length cy, .int .i64 r'], 34)] [(fun W_ => Kd.C k41 W_ Ay y.length y), (fun W_ => Kd.C k41 W_ Ax lx.length lx)] W_) (HS.out.row 3 rfl #[.slice Ay y.length cy, .int .i64 r']) ?_; rintro w67 he_; clear HS; have HS := Lib.hid he_; clear he_))
                        go_loopw [22] (fun v22 w' => ∃ q_ : Nat, q_ ≤ y.length ∧ v22 = .int .i64 q_ ∧ Aside0 (Sx w [(ks, #[.int .i64 s, .bool nd, .bool al], 43), (kz, #[.slice Ay y.length cy, .int .i64 r'], 34), (gl, (ei la ++ r0).toArray, 3), (kx, #[.slice Ay y.length cy, .int .i64 r'], 34)] [(fun W_ => Kd.C k41 W_ Ay y.length y), (fun W_ => Kd.C k41 W_ Ax lx.length lx)] w')) (fun v22 _ => y.length - (intOf v22).toNat)
                        case atStart => exact ⟨0, Nat.zero_le _, rfl, ⟨HS.out⟩⟩
                        case round =>
                          clear HS
                          obtain ⟨q_, hq, rfl, HS0⟩ := hrel
                          have HS := Lib.hid HS0.out
                          clear HS0
                          have hq9 : q_ < 10 := by have := HM2.out.ok.len; omega
                          have k0 : wr.cell? ⟨kx, 0, none⟩ = some (.slice Ay y.length cy) := (blk_cell (HS.out.get 3 rfl) 0).trans rfl
                          by_cases cq : q_ < y.length
                          case pos =>
                            have cqb : decide ((q_ : Int) < (y.length : Int)) = true := decide_eq_true (by omega)
                            have cqb2 : decide (q_ < y.length) = true := decide_eq_true (by omega)
                            obtain ⟨ad6, A6, c6, hA6, j0, j1, j2, -, -⟩ := at_job (HS.out.now 0 rfl) cq
                            subst hA6
                            have Hj := Lib.hid (Hlate.out _ (mem_getD (z := z41) cq))
                            obtain ⟨jv, hjv⟩ : ∃ jv, (y.getD q_ z41).f1 = jv := ⟨_, rfl⟩
                            rw [hjv] at j1 Hj
                            have hw6 : IntKind.i64.wrap ((t_ : Int) + 1) = (t_ : Int) + 1 := by rw [i64_w]; have := Hsz.out.2.1; exact lw64 (by omega) (by omega)
                            have hlt : decide (jv ≤ (t_ : Int) + 1) = false := decide_eq_false (by have := Hj.out; omega)
                            clear hjv j0 j2
                            go_wp2
                            go_roundw
                            case rel => exact ⟨q_ + 1, by omega, by go_num, ⟨HS.out⟩⟩
                            case measure => simp [intOf]; omega
                          case neg =>
                            have cqb : decide ((q_ : Int) < (y.length : Int)) = false := decide_eq_false (by omega)
                            have cqb2 : decide (q_ < y.length) = false := decide_eq_false (by omega)
                            go_wp2
                            go_roundw
                            case rel => exact ⟨t_ + 1, y, r', la, Ay, cy, by have := Hct.out; omega, by go_num, ⟨Hy.out⟩, ⟨by have := HM2.out; rw [show ((t_ + 1 : Nat) : Int) = (t_ : Int) + 1 by omega]; exact this⟩, ⟨(HS.out.drop.drop.perm (.refl _) (.swap _ _ _)).lose⟩⟩
                            case measure => have := Hct.out; simp [intOf]; omega
end Go.Proofs.YteodhffgnkdcfaaDoor.Q
