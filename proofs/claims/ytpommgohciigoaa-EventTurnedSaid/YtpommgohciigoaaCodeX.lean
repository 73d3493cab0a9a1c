/- The walks of code.Reader's Num (at any error), Int, Text. -/
import Derived.Test.YtpommgohciigoaaCodeN
namespace Go.Proofs.Ytpommgohciigoaa
open Go Go.RowKit Go.Proofs

theorem rdNum_le (l : List UInt8) : ∀ k acc, acc < 128 ^ k → k ≤ 9 → (rdNum k acc l).1 < 18446744073709551616 := by
  induction l with
  | nil => intro k acc _ _; simp [rdNum]
  | cons x r ih =>
    intro k acc ha hk
    have hx := UInt8.toNat_lt x
    by_cases h1 : (k = 9 ∧ 1 < x.toNat) ∨ (0 < k ∧ x.toNat = 0)
    · rw [rdNum_bad h1]; simp
    · by_cases h2 : x.toNat < 128
      · rw [rdNum_last h1 h2]
        show acc + x.toNat * 128 ^ k < 18446744073709551616
        rcases Nat.lt_or_ge 8 k with h8 | h8
        · have hk9 : k = 9 := by omega
          subst hk9
          have := Nat.mul_le_mul (show x.toNat ≤ 1 by omega) (Nat.le_refl (128 ^ 9))
          have e : 128 ^ 9 = 9223372036854775808 := by decide
          omega
        · have hp := pow128_le8 h8
          have := Nat.mul_le_mul (show x.toNat ≤ 127 by omega) hp
          omega
      · have h8 : k ≤ 8 := by omega
        rw [rdNum_more (by omega) h8]
        refine ih (k + 1) _ ?_ (by omega)
        have := Nat.mul_le_mul_right (128 ^ k) (show x.toNat % 128 ≤ 127 by omega)
        rw [Nat.pow_succ]; omega
theorem readNum_le (l : List UInt8) (e : Int) : (readNum l e).1 < 18446744073709551616 := by
  unfold readNum
  split
  · exact rdNum_le l 0 0 (by simp) (by omega)
  · simp
theorem rdNum_len (l : List UInt8) : ∀ k acc, (rdNum k acc l).2.1.length ≤ l.length := by
  induction l with
  | nil => intro k acc; simp [rdNum]
  | cons x r ih =>
    intro k acc
    rw [rdNum]
    split
    · simp
    · split
      · simp
      · have := ih (k + 1) (acc + x.toNat % 128 * 128 ^ k); simp; omega
theorem readNum_len (l : List UInt8) (e : Int) : (readNum l e).2.1.length ≤ l.length := by
  unfold readNum
  split
  · exact rdNum_len l 0 0
  · simp

set_option maxHeartbeats 400000 in
theorem rnum_any' (a : Nat) (F : Nat → Prop) (l : List UInt8) (e : Int) (w : World) (h : Rd w F a l e) :
    Calls Try.prog 39 #[.pointer (some ⟨a, 0, none⟩)] w fun en w' => en = .returned (.int .u64 (readNum l e).1) ∧ RdPost w w' F a (readNum l e).2.1 (readNum l e).2.2 := by
  by_cases he : e = 0
  · subst he
    exact rnum_any_ok a F l w h
  · have HD : Hid (readNum l e = (0, l, e)) := by show _ = _; unfold readNum; rw [if_neg he]
    have he' : (e != 0) = true := by simp; exact he
    clear he
    go_enter Try.func39, Try.ntmps39
    go_wp2_with fail
    refine (rerr_any a F l e w h).mono ?_
    rintro _ _ ⟨rfl, rfl⟩
    go_wp2_with fail
    go_ret
    rw [HD.out]
    exact ⟨rfl, RdPost.refl h⟩

theorem i64_xor_zero (n : Nat) (h : n < 9223372036854775808) : bits BinOp.xor IntKind.i64 (n : Int) 0 = (n : Int) := by
  show IntKind.i64.wrap ((BitVec.ofInt 64 (n : Int) ^^^ BitVec.ofInt 64 0).toNat : Int) = _
  have e : BitVec.ofInt 64 0 = 0#64 := by decide
  rw [e, BitVec.xor_zero, ofInt_u64 n (by omega), IntKind.wrap_i64]
  omega
theorem i64_xor_ones (n : Nat) (h : n < 9223372036854775808) : bits BinOp.xor IntKind.i64 (n : Int) (-1) = -(n : Int) - 1 := by
  show IntKind.i64.wrap ((BitVec.ofInt 64 (n : Int) ^^^ BitVec.ofInt 64 (-1)).toNat : Int) = _
  have e : BitVec.ofInt 64 (-1) = BitVec.allOnes 64 := by decide
  rw [e, BitVec.toNat_xor, ofInt_u64 n (by omega), BitVec.toNat_allOnes]
  have e2 : n ^^^ (2 ^ 64 - 1) = 18446744073709551615 - n := nat_xor_ones n (by omega)
  rw [e2, IntKind.wrap_i64]
  omega
theorem unzig_bits (n : Nat) (h : n < 18446744073709551616) : bits BinOp.xor IntKind.i64 ((n : Int) / 2) (wrap64 (-wrap64 (bits BinOp.and IntKind.u64 (n : Int) 1))) = unzig n := by
  have e1 : bits BinOp.and IntKind.u64 (n : Int) 1 = ((n % 2 : Nat) : Int) := by
    have := u64_and_nat n 1 h (by omega)
    rw [nat_mask1] at this
    exact this
  have e2 : (n : Int) / 2 = ((n / 2 : Nat) : Int) := by omega
  rw [e1, e2]
  unfold unzig
  by_cases ho : n % 2 = 1
  · have e3 : wrap64 (-wrap64 ((n % 2 : Nat) : Int)) = -1 := by rw [ho]; decide +kernel
    rw [e3, if_pos ho, i64_xor_ones _ (by omega)]
  · have e3 : wrap64 (-wrap64 ((n % 2 : Nat) : Int)) = 0 := by rw [show n % 2 = 0 by omega]; decide +kernel
    rw [e3, if_neg ho, i64_xor_zero _ (by omega)]

set_option maxHeartbeats 400000 in
theorem rint_any' (a : Nat) (F : Nat → Prop) (l : List UInt8) (e : Int) (w : World) (h : Rd w F a l e) :
    Calls Try.prog 30 #[.pointer (some ⟨a, 0, none⟩)] w fun en w' => en = .returned (.int .i64 (readInt l e).1) ∧ RdPost w w' F a (readInt l e).2.1 (readInt l e).2.2 := by
  have hle := readNum_le l e
  go_enter Try.func30, Try.ntmps30
  go_wp2_with fail
  refine (rnum_any' a F l e w h).mono ?_
  rintro _ w1 ⟨rfl, R⟩
  have HU := Lib.hid (unzig_bits (readNum l e).1 hle)
  go_wp2
  go_ret
  exact ⟨ret_int HU.out, R⟩

theorem RdV.take {w : World} {F : Nat → Prop} {a : Nat} {v : Value} {l : List UInt8} {e : Int} {A : Option Addr} {n c k : Nat} (h : RdV w F a v l e) (hv : v = .slice A n c) (hk : k ≤ l.length) :
    Bs w (fun k => F k ∧ k ≠ a) (.slice A k c) (l.take k) := by
  obtain ⟨A', c', hv', h1, h2, h3⟩ := h.bs
  rw [hv'] at hv
  injection hv with e1 e2 e3
  subst e1; subst e3
  have hl : (l.take k).length = k := by rw [List.length_take]; omega
  refine ⟨_, _, by rw [hl], by omega, h2, fun h0 => ?_⟩
  obtain ⟨b, o, hA, hF, hx⟩ := h3 (by omega)
  refine ⟨b, o, hA, hF, fun i x hi => hx i x ?_⟩
  rw [List.getElem?_take] at hi
  split at hi
  · exact hi
  · cases hi

theorem addr_add (b o k : Nat) : (⟨b, o, none⟩ : Addr).add k = ⟨b, o + k, none⟩ := by unfold Addr.add; split <;> simp_all
theorem RdV.cutm {w : World} {F : Nat → Prop} {a cap k : Nat} {A : Option Addr} {l : List UInt8} {e : Int} (h : RdV w F a (.slice A l.length cap) l e) (hk : k ≤ l.length) :
    RdPost w (w.setCell ⟨a, 0, none⟩ (.slice (Option.map (fun x => x.add k) A) (l.length - k) (cap - k))) F a (l.drop k) e := by
  refine h.set ?_
  obtain ⟨A', c, hv, h1, h2, h3⟩ := h.bs
  injection hv with e1 e2 e3
  subst e1; subst e3
  refine ⟨_, _, by rw [List.length_drop], by rw [List.length_drop]; omega, by omega, fun h0 => ?_⟩
  rw [List.length_drop] at h0
  obtain ⟨b', o', hA, hF, hx⟩ := h3 (by omega)
  subst hA
  refine ⟨b', o' + k, by rw [← addr_add]; rfl, hF, fun i x hi => ?_⟩
  rw [List.getElem?_drop] at hi
  rw [Nat.add_assoc]
  exact hx _ x hi

set_option maxHeartbeats 800000 in
set_option maxRecDepth 100000 in
theorem rtext_any' (a : Nat) (F : Nat → Prop) (l : List UInt8) (e most : Int) (w : World) (h : Rd w F a l e) (hl : l.length ≤ 140737488355328) (hm0 : -9223372036854775808 ≤ most) (hm1 : most ≤ 9223372036854775807) :
    Calls Try.prog 41 #[.pointer (some ⟨a, 0, none⟩), .int .i64 most] w fun en w' => en = .returned (.string ⟨(readText l e most).1.toArray⟩) ∧ RdPost w w' F a (readText l e most).2.1 (readText l e most).2.2 := by
  have hle := readNum_le l e
  have hll := readNum_len l e
  have hT : readText l e most = rdText most (readNum l e) := rfl
  have HC := rnum_any' a F l e w h
  generalize readNum l e = q at *
  obtain ⟨n, l1, e1⟩ := q
  simp only at hle hll HC
  have hl1 : l1.length ≤ 140737488355328 := by omega
  by_cases he : e1 = 0
  · subst he
    by_cases hn : most.toNat < n
    · have HD : Hid (readText l e most = ([], [], 2)) := by show _ = _; rw [hT]; unfold rdText; simp [hn]
      have hn' : most < (n : Int) := by omega
      have hn0 : (0 : Int) < (n : Int) := by omega
      clear hT
      have HC' := Lib.hid HC
      clear HC
      go_enter Try.func41, Try.ntmps41
      go_wp2_with fail
      refine HC'.out.mono ?_
      rintro _ w1 ⟨rfl, hR1, hchg⟩
      go_wp2_with fail
      refine (rerr_any a F l1 0 w1 hR1).mono ?_
      rintro _ _ ⟨rfl, rfl⟩
      go_wp2_with fail
      all_goals
        refine (rfail_any a F l1 0 2 w1 hR1).mono ?_
        rintro _ w2 ⟨rfl, R⟩
        go_wp2
        go_ret
        rw [HD.out]
        exact ⟨rfl, R.trans hchg⟩
    · have hn' : 0 ≤ most → (n : Int) ≤ most := by omega
      have hn0 : most < 0 → (n : Int) ≤ 0 := by omega
      by_cases hn2 : l1.length < n
      · have HD : Hid (readText l e most = ([], [], 3)) := by show _ = _; rw [hT]; unfold rdText; simp [hn, hn2]
        have hn3 : (l1.length : Int) < (n : Int) := by omega
        clear hT
        have HC' := Lib.hid HC
        clear HC
        go_enter Try.func41, Try.ntmps41
        go_wp2_with fail
        refine HC'.out.mono ?_
        rintro _ w1 ⟨rfl, hR1, hchg⟩
        go_wp2_with fail
        refine (rerr_any a F l1 0 w1 hR1).mono ?_
        rintro _ _ ⟨rfl, rfl⟩
        obtain ⟨v1, hV1⟩ := id hR1
        obtain ⟨c0, c1, f0, f1⟩ := two_cells hV1.blk
        obtain ⟨A, cap, hv, -, -, -⟩ := id hV1.bs
        subst hv
        go_wp2_with fail
        all_goals
          refine (rfail_any a F l1 0 3 w1 hR1).mono ?_
          rintro _ w2 ⟨rfl, R⟩
          go_wp2
          go_ret
          rw [HD.out]
          exact ⟨rfl, R.trans hchg⟩
      · have HD : Hid (readText l e most = (l1.take n, l1.drop n, 0)) := by show _ = _; rw [hT]; unfold rdText; simp [hn, hn2]
        have hn3 : (n : Int) ≤ (l1.length : Int) := by omega
        have hn4 : n ≤ l1.length := by omega
        clear hT hn hn2
        have HC' := Lib.hid HC
        clear HC
        go_enter Try.func41, Try.ntmps41
        go_wp2_with fail
        refine HC'.out.mono ?_
        rintro _ w1 ⟨rfl, hR1, hchg⟩
        go_wp2_with fail
        refine (rerr_any a F l1 0 w1 hR1).mono ?_
        rintro _ _ ⟨rfl, rfl⟩
        obtain ⟨v1, hV1⟩ := id hR1
        obtain ⟨c0, c1, f0, f1⟩ := two_cells hV1.blk
        obtain ⟨A, cap, hv, hlc, hcm, -⟩ := id hV1.bs
        have HB := Lib.hid (hV1.take (k := n) hv hn4)
        subst hv
        unfold maxLen at hcm
        go_wp2_with (refine wl_toS rfl _ rfl _ _ _ rfl HB.out ?_)
        all_goals
          go_ret
          rw [HD.out]
          refine ⟨rfl, RdPost.trans hchg ?_⟩
          first | exact hV1.cutm hn4 | exact hV1.over (by omega) (by unfold maxLen; omega)
  · have HD : Hid (readText l e most = ([], l1, e1)) := by show _ = _; rw [hT]; unfold rdText; simp [he]
    have he' : (e1 != 0) = true := by simp; exact he
    clear hT he
    have HC' := Lib.hid HC
    clear HC
    go_enter Try.func41, Try.ntmps41
    go_wp2_with fail
    refine HC'.out.mono ?_
    rintro _ w1 ⟨rfl, hR1, hchg⟩
    go_wp2_with fail
    refine (rerr_any a F l1 e1 w1 hR1).mono ?_
    rintro _ _ ⟨rfl, rfl⟩
    go_wp2
    go_ret
    rw [HD.out]
    exact ⟨rfl, hR1, hchg⟩
end Go.Proofs.Ytpommgohciigoaa
