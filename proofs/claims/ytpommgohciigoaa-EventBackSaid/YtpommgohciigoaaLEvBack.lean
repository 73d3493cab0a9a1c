/- The walk of carrierlaw09.EventBack: an event is read as it was written. -/
import Derived.Test.YtpommgohciigoaaEvB
import Derived.Test.YtpommgohciigoaaLEvRight
namespace Go.Proofs.Ytpommgohciigoaa
open Go Go.RowKit Go.Proofs

set_option maxHeartbeats 3200000 in
set_option maxRecDepth 100000 in
theorem eventBack_walk (id tx : Int) (o : ByteArray) (tries table kind key : Int) (t : ByteArray) (hid : id ≤ 9223372036854775807) (htx : tx ≤ 9223372036854775807) (ht0 : 0 ≤ table) (ht1 : table ≤ 255) (hk0 : 0 ≤ kind) (hk1 : kind ≤ 255) (hy0 : -9223372036854775808 ≤ key) (hy1 : key ≤ 9223372036854775807) (w : World) :
    Calls Try.prog 3 #[.int .i64 id, .int .i64 tx, .string o, .int .i64 tries, .int .u8 table, .int .u8 kind, .agg #[.int .i64 key, .string t]] w fun en w' => en = .returned (.bool true) ∧ Same w w' := by
  have hB := Lib.hid (heap_alloc_new w (.cells #[.int .i64 key, .string t] 23))
  have hal : Same w (w.alloc (.cells #[.int .i64 key, .string t] 23)) := Chg.alloc_ _ _ _
  have HAL := Lib.hid hal
  clear hal
  by_cases ho : o.size ≤ 60
  · have ho' : (o.size : Int) ≤ 60 := by omega
    by_cases ht : t.size ≤ 60
    · have ht' : (t.size : Int) ≤ 60 := by omega
      go_enter Try.func3, Try.ntmps3
      go_wp2_with fail
      refine (nine_any _).mono ?_
      rintro _ w0 ⟨rfl, hs0⟩
      have hB0 := Lib.hid (hs0.at_ hB.out (fun h => h))
      have HS0 := Lib.hid (HAL.out.trans hs0)
      obtain ⟨c0, c1, -, -⟩ := two_cells hB0.out
      clear hs0
      generalize w.heap.size = B at *
      go_wp2_with fail
      refine (of_any id tx o tries table kind key t _ hid htx ht0 ht1 hk0 hk1).mono ?_
      rintro _ w1 ⟨id1, tx1, tr1, tb1, kd1, rfl, hok, hi1, hx1, hs1⟩
      unfold evv
      obtain ⟨o1, HO⟩ : ∃ S : ByteArray, cutB o 40 = S := ⟨_, rfl⟩
      obtain ⟨t1, HT⟩ : ∃ S : ByteArray, cutB t 40 = S := ⟨_, rfl⟩
      rw [HO, HT] at hok
      rw [HO, HT]
      clear HO HT c0 c1
      obtain ⟨L, HL⟩ : ∃ L, Hid (encB id1 tx1 o1 tr1 tb1 kd1 key t1 = L) := ⟨_, Lib.hid rfl⟩
      have hll : L.length ≤ 200 ∧ 0 < L.length := by rw [← HL.out]; exact enc_len id1 tx1 o1 tr1 tb1 kd1 key t1 hok hi1 hx1 hy0 hy1
      have HD : Hid (decV (decE L) = .tuple #[evv id1 tx1 o1 tr1 tb1 kd1 key t1, .int .i64 0]) := Lib.hid (by rw [← HL.out]; exact dec_enc id1 tx1 o1 tr1 tb1 kd1 key t1 hok hi1 hx1 hy0 hy1)
      have HR : Hid (decide (EvOk id1 tx1 o1.size tr1 tb1 kd1 t1.size) = true) := Lib.hid (decide_eq_true hok)
      have HOK := Lib.hid hok
      have hE := heap_alloc_new w1 (.cells #[.int .i64 id1, .int .i64 tx1, .string o1, .int .i64 tr1, .int .i64 tb1, .int .u8 kd1, .int .i64 key, .string t1] 26)
      have HS1 := Lib.hid ((HS0.out.trans hs1).trans (Chg.alloc_ (fun _ => False) w1 (.cells #[.int .i64 id1, .int .i64 tx1, .string o1, .int .i64 tr1, .int .i64 tb1, .int .u8 kd1, .int .i64 key, .string t1] 26)))
      have HE := Lib.hid hE
      clear hE hok hs1
      go_upto_region 4 with fail
      generalize w1.alloc (.cells #[.int .i64 id1, .int .i64 tx1, .string o1, .int .i64 tr1, .int .i64 tb1, .int .u8 kd1, .int .i64 key, .string t1] 26) = W1 at *
      generalize w1.heap.size = E at *
      obtain ⟨a0, a1, a2, a3, a4, a5, a6, a7⟩ := ev_cells HE.out
      go_wp2_with fail
      refine (eencode_is id1 tx1 o1 tr1 tb1 kd1 key t1 _ HOK.out hi1 hx1 hy0 hy1 L HL).mono ?_
      rintro _ w2 ⟨A2, c2, rfl, R2⟩
      have hb2 := R2.bs
      have HS2 := Lib.hid (HS1.out.trans R2.sm)
      have HE2 := Lib.hid (R2.sm.at_ HE.out (fun h => h))
      clear R2 a0 a1 a2 a3 a4 a5 a6 a7
      go_wp2_with fail
      refine (edecode_is _ _ _ _ L _ hb2 (by omega) _ HD).mono ?_
      rintro _ w3 ⟨rfl, hs3⟩
      unfold evv
      have hb3 := (hb2.same hs3).alloc (.cells #[.int .i64 id1, .int .i64 tx1, .string o1, .int .i64 tr1, .int .i64 tb1, .int .u8 kd1, .int .i64 key, .string t1] 26)
      have hal3 : Same w3 (w3.alloc (.cells #[.int .i64 id1, .int .i64 tx1, .string o1, .int .i64 tr1, .int .i64 tb1, .int .u8 kd1, .int .i64 key, .string t1] 26)) := Chg.alloc_ _ _ _
      have hX := Lib.hid (heap_alloc_new w3 (.cells #[.int .i64 id1, .int .i64 tx1, .string o1, .int .i64 tr1, .int .i64 tb1, .int .u8 kd1, .int .i64 key, .string t1] 26))
      have HS3 := Lib.hid (HS2.out.trans (hs3.trans hal3))
      have HE3 := Lib.hid ((hs3.trans hal3).at_ HE2.out (fun h => h))
      clear hs3 hal3 hb2
      go_upto_region 6 with fail
      generalize w3.alloc (.cells #[.int .i64 id1, .int .i64 tx1, .string o1, .int .i64 tr1, .int .i64 tb1, .int .u8 kd1, .int .i64 key, .string t1] 26) = W3 at *
      generalize w3.heap.size = X at *
      obtain ⟨a0, a1, a2, a3, a4, a5, a6, a7⟩ := ev_cells HE3.out
      go_wp2_with fail
      refine (eright_b id1 tx1 o1 tr1 tb1 kd1 key t1 _ true HR).mono ?_
      rintro _ w4 ⟨rfl, hs4⟩
      have HS4 := Lib.hid (HS3.out.trans hs4)
      have HE4 := Lib.hid (hs4.at_ HE3.out (fun h => h))
      have hX4 := Lib.hid (hs4.at_ hX.out (fun h => h))
      have hb4 := hb3.same hs4
      clear a0 a1 a2 a3 a4 a5 a6 a7 hs4 hb3
      obtain ⟨a0, a1, a2, a3, a4, a5, a6, a7⟩ := ev_cells HE4.out
      go_wp2_with fail
      refine (pencode_is id1 tx1 o1 tr1 tb1 kd1 key t1 _ HOK.out hi1 hx1 hy0 hy1 L HL).mono ?_
      rintro _ w5 ⟨A5, c5, rfl, R5⟩
      have HS5 := Lib.hid (HS4.out.trans R5.sm)
      have HE5 := Lib.hid (R5.sm.at_ HE4.out (fun h => h))
      have hX5 := Lib.hid (R5.sm.at_ hX4.out (fun h => h))
      have hb5 := hb4.same R5.sm
      have hbq := R5.bs
      clear a0 a1 a2 a3 a4 a5 a6 a7 R5 hb4
      go_wp2_with fail
      refine (alike_same _ _ L _ _ _ hb5 hbq).mono ?_
      rintro _ w6 ⟨rfl, hs6⟩
      obtain ⟨a0, a1, a2, a3, a4, a5, a6, a7⟩ := ev_cells (hs6.at_ HE5.out (fun h => h))
      obtain ⟨x0, x1, x2, x3, x4, x5, x6, x7⟩ := ev_cells (hs6.at_ hX5.out (fun h => h))
      have HS6 := Lib.hid (HS5.out.trans hs6)
      clear hs6 hb5 hbq
      go_wp2_with fail
      go_ret
      exact ⟨rfl, HS6.out⟩
    · have ht' : (60 : Int) < (t.size : Int) := by omega
      go_enter Try.func3, Try.ntmps3
      go_wp2_with fail
      refine (nine_any _).mono ?_
      rintro _ w0 ⟨rfl, hs0⟩
      have hB0 := Lib.hid (hs0.at_ hB.out (fun h => h))
      have HS0 := Lib.hid (HAL.out.trans hs0)
      obtain ⟨c0, c1, -, -⟩ := two_cells hB0.out
      clear hs0
      generalize w.heap.size = B at *
      go_wp2_with fail
      refine (nine_any _).mono ?_
      rintro _ w1 ⟨rfl, hs1⟩
      go_wp2_with fail
      go_ret
      exact ⟨rfl, HS0.out.trans hs1⟩
  · have ho' : (60 : Int) < (o.size : Int) := by omega
    go_enter Try.func3, Try.ntmps3
    go_wp2_with fail
    refine (nine_any _).mono ?_
    rintro _ w0 ⟨rfl, hs0⟩
    have HS0 := Lib.hid (HAL.out.trans hs0)
    clear hs0
    generalize w.heap.size = B at *
    go_wp2_with fail
    refine (nine_any _).mono ?_
    rintro _ w1 ⟨rfl, hs1⟩
    go_wp2_with fail
    go_ret
    exact ⟨rfl, HS0.out.trans hs1⟩
end Go.Proofs.Ytpommgohciigoaa
