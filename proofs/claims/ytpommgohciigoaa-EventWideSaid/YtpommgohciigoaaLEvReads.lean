/- The walk of carrierlaw09.EventReads: any bytes; also such as begin as an event's do. -/
import Derived.Test.YtpommgohciigoaaEvN
namespace Go.Proofs.Ytpommgohciigoaa
open Go Go.RowKit Go.Proofs

def preL : List UInt8 := [7, 3, 1, 97, 0]
theorem pre_lit (w : World) : Bs (w.alloc (.cells #[.int .u8 7, .int .u8 3, .int .u8 1, .int .u8 97, .int .u8 0] 5)) (fun k => k = w.heap.size) (.slice (some ⟨w.heap.size, 0, none⟩) 5 5) preL :=
  bs_lit w _ _ preL 5 rfl (by unfold maxLen; omega) rfl
theorem preL_len : preL.length = 5 := rfl
theorem decV_form (d : Dec) : ∃ (id tx : Int) (o : ByteArray) (tries table kind key : Int) (t : ByteArray) (f : Int), decV d = .tuple #[evv id tx o tries table kind key t, .int .i64 f] := by
  unfold decV
  split
  · exact ⟨_, _, _, _, _, _, _, _, _, rfl⟩
  · exact ⟨_, _, _, _, _, _, _, _, _, rfl⟩

set_option maxHeartbeats 1600000 in
theorem eventReads_walk (v : Value) (p : List UInt8) (F : Nat → Prop) (w : World) (hp : Bs w F v p) :
    Calls Try.prog 4 #[v] w fun e w' => e = .returned (.bool true) ∧ Same w w' := by
  obtain ⟨A, cap, hv, -, -, -⟩ := id hp
  subst hv
  by_cases hs : p.length ≤ 150
  · have hs' : (p.length : Int) ≤ 150 := by omega
    obtain ⟨id1, tx1, o1, tr1, tb1, kd1, ky1, t1, f1, HV1⟩ := decV_form (decE p)
    have HV1 := Lib.hid HV1
    obtain ⟨pq, HPQ⟩ : ∃ q : List UInt8, Hid (preL ++ p = q) := ⟨_, Lib.hid rfl⟩
    have hpq : pq.length ≤ 200 := by rw [← HPQ.out, List.length_append, preL_len]; omega
    have hlen5 : preL.length + p.length ≤ 140737488355328 := by rw [preL_len]; omega
    obtain ⟨id2, tx2, o2, tr2, tb2, kd2, ky2, t2, f2, HV2⟩ := decV_form (decE pq)
    have HV2 := Lib.hid HV2
    go_enter Try.func4, Try.ntmps4
    go_wp2_with fail
    refine (edecode_is _ _ _ _ p _ hp (by omega) _ HV1).mono ?_
    rintro _ w1 ⟨rfl, hs1⟩
    unfold evv
    have hal1 : Same w1 (w1.alloc (.cells #[.int .i64 id1, .int .i64 tx1, .string o1, .int .i64 tr1, .int .i64 tb1, .int .u8 kd1, .int .i64 ky1, .string t1] 26)) := Chg.alloc_ _ _ _
    have hA1 := Lib.hid (heap_alloc_new w1 (.cells #[.int .i64 id1, .int .i64 tx1, .string o1, .int .i64 tr1, .int .i64 tb1, .int .u8 kd1, .int .i64 ky1, .string t1] 26))
    have hS1 := Lib.hid (hs1.trans hal1)
    clear hal1 hs1
    go_upto_region 4 with fail
    generalize w1.alloc (.cells #[.int .i64 id1, .int .i64 tx1, .string o1, .int .i64 tr1, .int .i64 tb1, .int .u8 kd1, .int .i64 ky1, .string t1] 26) = W1 at *
    generalize w1.heap.size = B1 at *
    go_wp2_with fail
    refine (pdecode_is _ _ _ _ p _ (hp.same hS1.out) (by omega) _ HV1).mono ?_
    rintro _ w2 ⟨rfl, hs2⟩
    unfold evv
    have hal2 : Same w2 (w2.alloc (.cells #[.int .i64 id1, .int .i64 tx1, .string o1, .int .i64 tr1, .int .i64 tb1, .int .u8 kd1, .int .i64 ky1, .string t1] 26)) := Chg.alloc_ _ _ _
    have hA2 := Lib.hid (heap_alloc_new w2 (.cells #[.int .i64 id1, .int .i64 tx1, .string o1, .int .i64 tr1, .int .i64 tb1, .int .u8 kd1, .int .i64 ky1, .string t1] 26))
    have hS2 := Lib.hid (hs2.trans hal2)
    clear hal2 hs2
    go_upto_region 5 with fail
    generalize w2.alloc (.cells #[.int .i64 id1, .int .i64 tx1, .string o1, .int .i64 tr1, .int .i64 tb1, .int .u8 kd1, .int .i64 ky1, .string t1] 26) = W2 at *
    generalize w2.heap.size = B2 at *
    go_wp2_with fail
    refine (join_s _ _ _ _ _ _ preL p pq _ _ _ (pre_lit W2) (((hp.same hS1.out).same hS2.out).alloc _) hlen5 HPQ).mono ?_
    rintro _ w3 ⟨A3, c3, rfl, R3⟩
    have hS3 : Hid (Same W2 w3) := (Chg.alloc_ _ _ _).trans R3.sm
    have hb3 := R3.bs
    clear R3
    go_wp2_with fail
    refine (edecode_is _ _ _ _ pq _ hb3 (by omega) _ HV2).mono ?_
    rintro _ w4 ⟨rfl, hs4⟩
    unfold evv
    have hal4 : Same w4 (w4.alloc (.cells #[.int .i64 id2, .int .i64 tx2, .string o2, .int .i64 tr2, .int .i64 tb2, .int .u8 kd2, .int .i64 ky2, .string t2] 26)) := Chg.alloc_ _ _ _
    have hA4 := Lib.hid (heap_alloc_new w4 (.cells #[.int .i64 id2, .int .i64 tx2, .string o2, .int .i64 tr2, .int .i64 tb2, .int .u8 kd2, .int .i64 ky2, .string t2] 26))
    have hS4 := Lib.hid (hs4.trans hal4)
    clear hal4 hs4
    go_upto_region 7 with fail
    generalize w4.alloc (.cells #[.int .i64 id2, .int .i64 tx2, .string o2, .int .i64 tr2, .int .i64 tb2, .int .u8 kd2, .int .i64 ky2, .string t2] 26) = W4 at *
    generalize w4.heap.size = B4 at *
    go_wp2_with fail
    refine (pdecode_is _ _ _ _ pq _ (hb3.same hS4.out) (by omega) _ HV2).mono ?_
    rintro _ w5 ⟨rfl, hs5⟩
    unfold evv
    have hal5 : Same w5 (w5.alloc (.cells #[.int .i64 id2, .int .i64 tx2, .string o2, .int .i64 tr2, .int .i64 tb2, .int .u8 kd2, .int .i64 ky2, .string t2] 26)) := Chg.alloc_ _ _ _
    have hA5 := Lib.hid (heap_alloc_new w5 (.cells #[.int .i64 id2, .int .i64 tx2, .string o2, .int .i64 tr2, .int .i64 tb2, .int .u8 kd2, .int .i64 ky2, .string t2] 26))
    have hS5 := Lib.hid (hs5.trans hal5)
    clear hal5 hs5
    go_upto_region 8 with fail
    generalize w5.alloc (.cells #[.int .i64 id2, .int .i64 tx2, .string o2, .int .i64 tr2, .int .i64 tb2, .int .u8 kd2, .int .i64 ky2, .string t2] 26) = W5 at *
    generalize w5.heap.size = B5 at *
    go_wp2_with fail
    refine (nine_any _).mono ?_
    rintro _ w6 ⟨rfl, hs6⟩
    have k4 := hS5.out.trans hs6
    have k2 := (hS3.out.trans hS4.out).trans k4
    have k1 := hS2.out.trans k2
    obtain ⟨a0, a1, a2, a3, a4, a5, a6, a7⟩ := ev_cells (k1.at_ hA1.out (fun h => h))
    obtain ⟨b0, b1, b2, b3, b4, b5, b6, b7⟩ := ev_cells (k2.at_ hA2.out (fun h => h))
    obtain ⟨d0, d1, d2, d3, d4, d5, d6, d7⟩ := ev_cells (k4.at_ hA4.out (fun h => h))
    obtain ⟨e0, e1, e2, e3, e4, e5, e6, e7⟩ := ev_cells (hs6.at_ hA5.out (fun h => h))
    have hfin := Lib.hid (hS1.out.trans k1)
    clear k1 k2 k4 hs6 hb3
    go_wp2_with fail
    go_ret
    exact ⟨rfl, hfin.out⟩
  · have hs' : (150 : Int) < (p.length : Int) := by omega
    go_enter Try.func4, Try.ntmps4
    go_wp2_with fail
    refine (nine_any _).mono ?_
    rintro _ w0 ⟨rfl, hs0⟩
    go_wp2_with fail
    go_ret
    exact ⟨rfl, hs0⟩
end Go.Proofs.Ytpommgohciigoaa
