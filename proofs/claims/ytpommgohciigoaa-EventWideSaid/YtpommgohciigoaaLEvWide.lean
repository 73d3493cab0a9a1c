/- The walk of carrierlaw09.EventWide: numbers that are too great are told behind them. -/
import Derived.Test.YtpommgohciigoaaLEvReads
namespace Go.Proofs.Ytpommgohciigoaa
open Go Go.RowKit Go.Proofs

set_option maxHeartbeats 3200000 in
set_option maxRecDepth 100000 in
theorem eventWide_walk (a b c d e : Int) (ha0 : 0 ≤ a) (ha1 : a ≤ 18446744073709551615) (hb0 : 0 ≤ b) (hb1 : b ≤ 18446744073709551615) (hc0 : 0 ≤ c) (hc1 : c ≤ 18446744073709551615) (hd0 : 0 ≤ d) (hd1 : d ≤ 18446744073709551615) (he0 : 0 ≤ e) (he1 : e ≤ 18446744073709551615) (w : World) :
    Calls Try.prog 7 #[.int .u64 a, .int .u64 b, .int .u64 c, .int .u64 d, .int .u64 e] w fun en w' => en = .returned (.bool true) ∧ Same w w' := by
  obtain ⟨M1, G1⟩ : ∃ L : List UInt8, Hid (numB a.toNat = L) := ⟨_, Lib.hid rfl⟩
  have g1 : M1.length ≤ 10 := by rw [← G1.out]; exact numB_len10 ha1
  obtain ⟨M2, G2⟩ : ∃ L : List UInt8, Hid (numB b.toNat = L) := ⟨_, Lib.hid rfl⟩
  have g2 : M2.length ≤ 10 := by rw [← G2.out]; exact numB_len10 hb1
  obtain ⟨M3, G3⟩ : ∃ L : List UInt8, Hid (numB c.toNat = L) := ⟨_, Lib.hid rfl⟩
  have g3 : M3.length ≤ 10 := by rw [← G3.out]; exact numB_len10 hc1
  obtain ⟨M4, G4⟩ : ∃ L : List UInt8, Hid (numB d.toNat = L) := ⟨_, Lib.hid rfl⟩
  have g4 : M4.length ≤ 10 := by rw [← G4.out]; exact numB_len10 hd1
  obtain ⟨M5, G5⟩ : ∃ L : List UInt8, Hid (numB e.toNat = L) := ⟨_, Lib.hid rfl⟩
  have g5 : M5.length ≤ 10 := by rw [← G5.out]; exact numB_len10 he1
  obtain ⟨N1, H1⟩ : ∃ L : List UInt8, Hid (M1 ++ M2 = L) := ⟨_, Lib.hid rfl⟩
  have n1 : N1.length ≤ 20 := by rw [← H1.out, List.length_append]; omega
  obtain ⟨N2, H2⟩ : ∃ L : List UInt8, Hid (N1 ++ [0] = L) := ⟨_, Lib.hid rfl⟩
  have n2 : N2.length ≤ 40 := by rw [← H2.out, List.length_append]; simp; omega
  obtain ⟨N3, H3⟩ : ∃ L : List UInt8, Hid (N2 ++ M3 = L) := ⟨_, Lib.hid rfl⟩
  have n3 : N3.length ≤ 60 := by rw [← H3.out, List.length_append]; omega
  obtain ⟨N4, H4⟩ : ∃ L : List UInt8, Hid (N3 ++ M4 = L) := ⟨_, Lib.hid rfl⟩
  have n4 : N4.length ≤ 80 := by rw [← H4.out, List.length_append]; omega
  obtain ⟨N5, H5⟩ : ∃ L : List UInt8, Hid (N4 ++ M5 = L) := ⟨_, Lib.hid rfl⟩
  have n5 : N5.length ≤ 100 := by rw [← H5.out, List.length_append]; omega
  obtain ⟨N6, H6⟩ : ∃ L : List UInt8, Hid (N5 ++ [0, 0] = L) := ⟨_, Lib.hid rfl⟩
  have n6 : N6.length ≤ 120 := by rw [← H6.out, List.length_append]; simp; omega
  obtain ⟨id1, tx1, o1, tr1, tb1, kd1, ky1, t1, f1, HV1⟩ := decV_form (decE N6)
  have HV1 := Lib.hid HV1
  go_enter Try.func7, Try.ntmps7
  go_wp2_with fail
  refine (rnumb_s a ha0 ha1 _ M1 G1).mono ?_
  rintro _ w1 ⟨A1, c1, rfl, R1⟩
  go_wp2_with fail
  refine (rnumb_s b hb0 hb1 _ M2 G2).mono ?_
  rintro _ w2 ⟨A2, c2, rfl, R2⟩
  go_wp2_with fail
  refine (join_s _ _ _ _ _ _ M1 M2 N1 _ _ _ (R1.bs.same R2.sm) R2.bs (by omega) H1).mono ?_
  rintro _ w3 ⟨A3, c3, rfl, R3⟩
  have hF3 := Lib.hid (fresh_since (R1.sm.trans R2.sm) R3)
  clear R1 R2 R3
  have hown3 := Lib.hid (hF3.out.own (Chg.alloc_ _ w3 (.cells #[.int .u8 0] 5)))
  go_wp2_with (at_builtin; refine wl_appB rfl _ _ rfl _ N1 _ _ _ (fun _ => True) [0] rfl rfl hown3.out (bs_one _ _ _ _ rfl) ?e2 ?_)
  case e2 => simp; omega
  intro A4 m4 c4 w4 hout
  have hF4 := hF3.out.app (Chg.alloc_ _ _ _) hout
  rw [H2.out] at hF4
  obtain ⟨A4', c4', hv⟩ := hF4.form
  injection hv with hv1 hv2 hv3
  subst hv1; subst hv2; subst hv3
  have hF4 := Lib.hid hF4
  clear hout hown3 hF3
  go_wp2_with fail
  refine (rnumb_s c hc0 hc1 _ M3 G3).mono ?_
  rintro _ w5 ⟨A5, c5, rfl, R5⟩
  go_wp2_with fail
  refine (join_s _ _ _ _ _ _ N2 M3 N3 _ _ _ (hF4.out.bs.same R5.sm) R5.bs (by omega) H3).mono ?_
  rintro _ w6 ⟨A6, c6, rfl, R6⟩
  have hF6 := Lib.hid (fresh_since (hF4.out.sm.trans R5.sm) R6)
  clear R5 R6 hF4
  go_wp2_with fail
  refine (rnumb_s d hd0 hd1 _ M4 G4).mono ?_
  rintro _ w7 ⟨A7, c7, rfl, R7⟩
  go_wp2_with fail
  refine (join_s _ _ _ _ _ _ N3 M4 N4 _ _ _ (hF6.out.bs.same R7.sm) R7.bs (by omega) H4).mono ?_
  rintro _ w8 ⟨A8, c8, rfl, R8⟩
  have hF8 := Lib.hid (fresh_since (hF6.out.sm.trans R7.sm) R8)
  clear R7 R8 hF6
  go_wp2_with fail
  refine (rnumb_s e he0 he1 _ M5 G5).mono ?_
  rintro _ w9 ⟨A9, c9, rfl, R9⟩
  go_wp2_with fail
  refine (join_s _ _ _ _ _ _ N4 M5 N5 _ _ _ (hF8.out.bs.same R9.sm) R9.bs (by omega) H5).mono ?_
  rintro _ w10 ⟨A10, c10, rfl, R10⟩
  have hF10 := Lib.hid (fresh_since (hF8.out.sm.trans R9.sm) R10)
  clear R9 R10 hF8
  have hlit := Lib.hid (bs_lit w10 5 #[.int .u8 0, .int .u8 0] [0, 0] 2 rfl (by unfold maxLen; simp) rfl)
  have hown10 := Lib.hid (hF10.out.own (Chg.alloc_ _ w10 (.cells #[.int .u8 0, .int .u8 0] 5)))
  go_wp2_with (at_builtin; refine wl_appB rfl _ _ rfl _ N5 _ _ _ _ [0, 0] rfl rfl hown10.out hlit.out ?e2 ?_)
  case e2 => simp; omega
  intro A11 m11 c11 w11 hout
  have hF11 := hF10.out.app (Chg.alloc_ _ _ _) hout
  rw [H6.out] at hF11
  obtain ⟨A11', c11', hv⟩ := hF11.form
  injection hv with hv1 hv2 hv3
  subst hv1; subst hv2; subst hv3
  have hF11 := Lib.hid hF11
  clear hout hown10 hF10 hlit
  go_wp2_with fail
  refine (edecode_is _ _ _ _ N6 _ hF11.out.bs (by omega) _ HV1).mono ?_
  rintro _ w12 ⟨rfl, hs12⟩
  unfold evv
  have hal12 : Same w12 (w12.alloc (.cells #[.int .i64 id1, .int .i64 tx1, .string o1, .int .i64 tr1, .int .i64 tb1, .int .u8 kd1, .int .i64 ky1, .string t1] 26)) := Chg.alloc_ _ _ _
  have hA12 := Lib.hid (heap_alloc_new w12 (.cells #[.int .i64 id1, .int .i64 tx1, .string o1, .int .i64 tr1, .int .i64 tb1, .int .u8 kd1, .int .i64 ky1, .string t1] 26))
  have hS12 := Lib.hid (hs12.trans hal12)
  clear hal12 hs12
  go_upto_region 6 with fail
  generalize w12.alloc (.cells #[.int .i64 id1, .int .i64 tx1, .string o1, .int .i64 tr1, .int .i64 tb1, .int .u8 kd1, .int .i64 ky1, .string t1] 26) = W12 at *
  generalize w12.heap.size = B12 at *
  go_wp2_with fail
  refine (pdecode_is _ _ _ _ N6 _ (hF11.out.bs.same hS12.out) (by omega) _ HV1).mono ?_
  rintro _ w13 ⟨rfl, hs13⟩
  unfold evv
  have hal13 : Same w13 (w13.alloc (.cells #[.int .i64 id1, .int .i64 tx1, .string o1, .int .i64 tr1, .int .i64 tb1, .int .u8 kd1, .int .i64 ky1, .string t1] 26)) := Chg.alloc_ _ _ _
  have hA13 := Lib.hid (heap_alloc_new w13 (.cells #[.int .i64 id1, .int .i64 tx1, .string o1, .int .i64 tr1, .int .i64 tb1, .int .u8 kd1, .int .i64 ky1, .string t1] 26))
  have hS13 := Lib.hid (hs13.trans hal13)
  clear hal13 hs13
  go_upto_region 7 with fail
  generalize w13.alloc (.cells #[.int .i64 id1, .int .i64 tx1, .string o1, .int .i64 tr1, .int .i64 tb1, .int .u8 kd1, .int .i64 ky1, .string t1] 26) = W13 at *
  generalize w13.heap.size = B13 at *
  go_wp2_with fail
  refine (nine_any _).mono ?_
  rintro _ w14 ⟨rfl, hs14⟩
  have k1 := hS13.out.trans hs14
  obtain ⟨a0, a1, a2, a3, a4, a5, a6, a7⟩ := ev_cells (k1.at_ hA12.out (fun h => h))
  obtain ⟨b0, b1, b2, b3, b4, b5, b6, b7⟩ := ev_cells (hs14.at_ hA13.out (fun h => h))
  have hfin := Lib.hid ((hF11.out.sm.trans hS12.out).trans k1)
  clear k1 hs14
  go_wp2_with fail
  go_ret
  exact ⟨rfl, hfin.out⟩
end Go.Proofs.Ytpommgohciigoaa
