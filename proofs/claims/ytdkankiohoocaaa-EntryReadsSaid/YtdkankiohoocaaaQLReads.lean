/- The law EntryReads. -/
import Derived.Test.YtdkankiohoocaaaQLeG
namespace Go.Proofs.Ytdkankiohoocaaa
set_option linter.unusedSimpArgs false
set_option linter.unusedVariables false
open Go Go.RowKit Go.Proofs

theorem bs_lit5 (w : World) (n : Nat) (hn : n = w.heap.size) : Bs (w.alloc (.cells #[.int .u8 1, .int .u8 5, .int .u8 6, .int .u8 7, .int .u8 0] 5)) (fun k => k = n) (.slice (some ⟨n, 0, none⟩) 5 5) [1, 5, 6, 7, 0] := by
  subst hn
  exact bs_lit w _ _ [1, 5, 6, 7, 0] 5 rfl (by unfold maxLen; omega) rfl
theorem bs_lit4 (w : World) (n : Nat) (hn : n = w.heap.size) : Bs (w.alloc (.cells #[.int .u8 8, .int .u8 5, .int .u8 6, .int .u8 7] 5)) (fun k => k = n) (.slice (some ⟨n, 0, none⟩) 4 4) [8, 5, 6, 7] := by
  subst hn
  exact bs_lit w _ _ [8, 5, 6, 7] 4 rfl (by unfold maxLen; omega) rfl
theorem bs_lit1 (w : World) (n : Nat) (z : Int) (h0 : 0 ≤ z) (h1 : z < 256) (hn : n = w.heap.size) : Bs (w.alloc (.cells #[.int .u8 z] 5)) (fun k => k = n) (.slice (some ⟨n, 0, none⟩) 1 1) [UInt8.ofNat z.toNat] := by
  subst hn
  refine bs_lit w _ _ [UInt8.ofNat z.toNat] 1 rfl (by unfold maxLen; omega) ?_
  simp [bvs]
  omega

set_option maxHeartbeats 6400000 in
set_option maxRecDepth 100000 in
theorem entryReads_any (v : Value) (l : List UInt8) (k : Int) (h0 : 0 ≤ k) (h1 : k < 256) (F : Nat → Prop) (w : World) (h : Bs w F v l) :
    Calls Try.prog 6 #[v, .int .u8 k] w fun en w' => en = .returned (.bool true) ∧ Same w w' := by
  obtain ⟨A, c, e, hb⟩ := id h
  subst e
  have hw1 : IntKind.u8.wrap (1 + k.tmod 12) = 1 + k % 12 := by rw [Int.tmod_eq_emod_of_nonneg h0, IntKind.wrap_u8]; omega
  clear hb
  have HB := Lib.hid h
  clear h
  go_enter Try.func6, Try.ntmps6
  by_cases hl : l.length > 150
  · have hl' : (l.length : Int) > 150 := by omega
    go_wp2_with fail
    refine (nine_any _).mono ?_
    rintro _ w1 ⟨rfl, hs1⟩
    go_wp2_with fail
    go_ret
    exact ⟨rfl, hs1⟩
  · have hl' : ¬ (l.length : Int) > 150 := by omega
    go_wp2_with fail
    refine (nine_any _).mono ?_
    rintro _ w1 ⟨rfl, hs1⟩
    have HS1 := Lib.hid hs1
    clear hs1
    go_wp2_with fail
    refine (reads_any _ l _ w1 (HB.out.same HS1.out) (by omega)).mono ?_
    rintro _ w2 ⟨rfl, hs2⟩
    have HS2 := Lib.hid (HS1.out.trans hs2)
    clear hs2 HS1
    go_wp2_with fail
    have hB1 := bs_lit1 w2 w2.heap.size (1 + k % 12) (by omega) (by omega) rfl
    have hc1 := Chg.alloc_ (fun _ => False) w2 (.cells #[.int .u8 (1 + k % 12)] 5)
    refine (join_any _ _ _ l _ F _ hB1 (HB.out.same (HS2.out.trans hc1)) (by simp; omega)).mono ?_
    rintro _ w3 ⟨v3, rfl, R3⟩
    obtain ⟨A3, c3, hv3⟩ := R3.form
    subst hv3
    have HB3 := Lib.hid R3.bs
    have HS3 := Lib.hid (HS2.out.trans (hc1.trans R3.sm))
    clear hB1 hc1 R3 HS2
    go_wp2_with fail
    refine (reads_any _ _ _ w3 HB3.out (by simp; omega)).mono ?_
    rintro _ w4 ⟨rfl, hs4⟩
    have HS4 := Lib.hid (HS3.out.trans hs4)
    clear hs4 HS3 HB3
    go_wp2_with fail
    have hB1 := bs_lit5 w4 w4.heap.size rfl
    have hc1 := Chg.alloc_ (fun _ => False) w4 (.cells #[.int .u8 1, .int .u8 5, .int .u8 6, .int .u8 7, .int .u8 0] 5)
    refine (join_any _ _ _ l _ F _ hB1 (HB.out.same (HS4.out.trans hc1)) (by simp; omega)).mono ?_
    rintro _ w5 ⟨v5, rfl, R5⟩
    obtain ⟨A5, c5, hv5⟩ := R5.form
    subst hv5
    have HB5 := Lib.hid R5.bs
    have HS5 := Lib.hid (HS4.out.trans (hc1.trans R5.sm))
    clear hB1 hc1 R5 HS4
    go_wp2_with fail
    refine (reads_any _ _ _ w5 HB5.out (by simp; omega)).mono ?_
    rintro _ w6 ⟨rfl, hs6⟩
    have HS6 := Lib.hid (HS5.out.trans hs6)
    clear hs6 HS5 HB5
    go_wp2_with fail
    have hB1 := bs_lit4 w6 w6.heap.size rfl
    have hc1 := Chg.alloc_ (fun _ => False) w6 (.cells #[.int .u8 8, .int .u8 5, .int .u8 6, .int .u8 7] 5)
    refine (join_any _ _ _ l _ F _ hB1 (HB.out.same (HS6.out.trans hc1)) (by simp; omega)).mono ?_
    rintro _ w7 ⟨v7, rfl, R7⟩
    obtain ⟨A7, c7, hv7⟩ := R7.form
    subst hv7
    have HB7 := Lib.hid R7.bs
    have HS7 := Lib.hid (HS6.out.trans (hc1.trans R7.sm))
    clear hB1 hc1 R7 HS6
    go_wp2_with fail
    refine (reads_any _ _ _ w7 HB7.out (by simp; omega)).mono ?_
    rintro _ w8 ⟨rfl, hs8⟩
    go_wp2_with fail
    go_ret
    exact ⟨rfl, HS7.out.trans hs8⟩
end Go.Proofs.Ytdkankiohoocaaa
