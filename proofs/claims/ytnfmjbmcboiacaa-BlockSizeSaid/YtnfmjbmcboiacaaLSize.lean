/- The walk of carrierlaw03.BlockSize: of so many blocks, at first noughts. -/
import Derived.Test.YtnfmjbmcboiacaaTwo
namespace Go.Proofs.Ytnfmjbmcboiacaa
open Go Go.RowKit Go.Proofs

set_option maxHeartbeats 3200000 in
set_option maxRecDepth 100000 in
theorem blockSize_walk (n : Int) (h0 : -9223372036854775808 ≤ n) (h1 : n ≤ 9223372036854775807) (w : World) :
    Calls Try.prog 5 #[.int .i64 n] w fun e w' => e = .returned (.bool true) ∧ Same w w' := by
  by_cases hn : n < 0
  · obtain ⟨s0, HS0⟩ : ∃ s0 : List UInt8, Hid (List.replicate (32 * 0) 0 = s0) := ⟨_, Lib.hid rfl⟩
    go_enter Try.func5, Try.ntmps5
    go_wp2_with fail
    refine (dnew_any n (by omega) (by omega) w).mono ?_
    rintro _ w1 ⟨d, F, rfl, hv, hs, ho⟩
    go_wp2_with fail
    refine (rnew_any n (by omega) (by omega) w1).mono ?_
    rintro _ w2 ⟨m, G, rfl, hv2, hs2, ho2⟩
    have hT := Two.start hv hs ho hv2 hs2 ho2 (k := 0) (by omega) HS0
    clear hv hs ho hv2 hs2 ho2
    go_wp2_with fail
    refine (dread_no d 0 (-1) F _ _ _ hT.a (by omega)).mono ?_
    rintro _ _ ⟨rfl, rfl⟩
    go_wp2_with fail
    refine (rread_no m 0 (-1) G _ _ _ hT.b (by omega)).mono ?_
    rintro _ _ ⟨rfl, rfl⟩
    have hb1 : Bs w2 (fun _ => False) (.slice none 0 0) [] := Bs.nil_ _ _
    have hb2 := hb1
    obtain ⟨R, HR⟩ : ∃ R : List UInt8, Hid (([] : List UInt8) = R) := ⟨_, Lib.hid rfl⟩
    rw [HR.out] at hb1 hb2
    go_wp2_with fail
    refine (dread_no d 0 0 F _ _ _ hT.a (by omega)).mono ?_
    rintro _ _ ⟨rfl, rfl⟩
    go_wp2_with fail
    refine (kept_any _).mono ?_
    rintro _ w5 ⟨rfl, hs5⟩
    have hT := hT.keep hs5
    have hb1 := hb1.same hs5
    have hb2 := hb2.same hs5
    clear hs5
    go_wp2_with fail
    refine (dsize_any d 0 F _ _ _ hT.a).mono ?_
    rintro _ _ ⟨rfl, rfl⟩
    go_wp2_with fail
    refine (alike_same _ _ R _ _ _ hb1 hb2).mono ?_
    rintro _ w6 ⟨rfl, hs6⟩
    have hT := hT.keep hs6
    clear hs6
    go_wp2_with fail
    refine (dwrite_no d 0 0 F (fun _ => False) _ [] _ (.slice none 0 0) _ hT.a (Bs.nil_ _ _) (by omega)).mono ?_
    rintro _ _ ⟨rfl, rfl⟩
    go_wp2_with fail
    refine (dwrite_no d 0 (-1) F (fun _ => False) _ [] _ (.slice none 0 0) _ hT.a (Bs.nil_ _ _) (by omega)).mono ?_
    rintro _ _ ⟨rfl, rfl⟩
    go_wp2_with fail
    go_ret
    exact ⟨rfl, hT.same⟩
  · by_cases hn0 : n = 0
    · subst hn0
      clear hn
      obtain ⟨s0, HS0⟩ : ∃ s0 : List UInt8, Hid (List.replicate (32 * 0) 0 = s0) := ⟨_, Lib.hid rfl⟩
      go_enter Try.func5, Try.ntmps5
      go_wp2_with fail
      refine (dnew_any 0 (by omega) (by omega) w).mono ?_
      rintro _ w1 ⟨d, F, rfl, hv, hs, ho⟩
      go_wp2_with fail
      refine (rnew_any 0 (by omega) (by omega) w1).mono ?_
      rintro _ w2 ⟨m, G, rfl, hv2, hs2, ho2⟩
      have hT := Two.start hv hs ho hv2 hs2 ho2 (k := 0) (by omega) HS0
      clear hv hs ho hv2 hs2 ho2
      go_wp2_with fail
      refine (dread_no d 0 (-1) F _ _ _ hT.a (by omega)).mono ?_
      rintro _ _ ⟨rfl, rfl⟩
      go_wp2_with fail
      refine (rread_no m 0 (-1) G _ _ _ hT.b (by omega)).mono ?_
      rintro _ _ ⟨rfl, rfl⟩
      have hb1 : Bs w2 (fun _ => False) (.slice none 0 0) [] := Bs.nil_ _ _
      have hb2 := hb1
      obtain ⟨R, HR⟩ : ∃ R : List UInt8, Hid (([] : List UInt8) = R) := ⟨_, Lib.hid rfl⟩
      rw [HR.out] at hb1 hb2
      go_wp2_with fail
      refine (dread_no d 0 0 F _ _ _ hT.a (by omega)).mono ?_
      rintro _ _ ⟨rfl, rfl⟩
      go_wp2_with fail
      refine (kept_any _).mono ?_
      rintro _ w5 ⟨rfl, hs5⟩
      have hT := hT.keep hs5
      have hb1 := hb1.same hs5
      have hb2 := hb2.same hs5
      clear hs5
      go_wp2_with fail
      refine (dsize_any d 0 F _ _ _ hT.a).mono ?_
      rintro _ _ ⟨rfl, rfl⟩
      go_wp2_with fail
      refine (alike_same _ _ R _ _ _ hb1 hb2).mono ?_
      rintro _ w6 ⟨rfl, hs6⟩
      have hT := hT.keep hs6
      clear hs6
      go_wp2_with fail
      refine (dwrite_no d 0 0 F (fun _ => False) _ [] _ (.slice none 0 0) _ hT.a (Bs.nil_ _ _) (by omega)).mono ?_
      rintro _ _ ⟨rfl, rfl⟩
      go_wp2_with fail
      refine (dwrite_no d 0 (-1) F (fun _ => False) _ [] _ (.slice none 0 0) _ hT.a (Bs.nil_ _ _) (by omega)).mono ?_
      rintro _ _ ⟨rfl, rfl⟩
      go_wp2_with fail
      go_ret
      exact ⟨rfl, hT.same⟩
    · by_cases hn2 : n ≤ 4096
      · obtain ⟨N, rfl⟩ : ∃ N : Nat, n = (N : Int) := ⟨n.toNat, by omega⟩
        obtain ⟨k, e1⟩ : ∃ k : Nat, (N : Int) - 1 = (k : Int) := ⟨N - 1, by omega⟩
        have hk4 : k < N := by omega
        have hk5 : (k : Int) < (N : Int) := by omega
        clear hn hn0
        obtain ⟨s0, HS0⟩ : ∃ s0 : List UInt8, Hid (List.replicate (32 * N) 0 = s0) := ⟨_, Lib.hid rfl⟩
        go_enter Try.func5, Try.ntmps5
        go_wp2_with fail
        refine (dnew_any (N : Int) (by omega) (by omega) w).mono ?_
        rintro _ w1 ⟨d, F, rfl, hv, hs, ho⟩
        go_wp2_with fail
        refine (rnew_any (N : Int) (by omega) (by omega) w1).mono ?_
        rintro _ w2 ⟨m, G, rfl, hv2, hs2, ho2⟩
        have hT := Two.start hv hs ho hv2 hs2 ho2 (k := N) (by omega) HS0
        clear hv hs ho hv2 hs2 ho2
        obtain ⟨R, HR⟩ : ∃ R, Hid (now k (blk s0 k) [] = R) := ⟨_, Lib.hid rfl⟩
        go_wp2_with fail
        refine (dread_s d N k F _ _ _ hT.a (by omega) R HR).mono ?_
        rintro _ w3 ⟨g, rfl, hG⟩
        have hT := hT.keep hG.sm
        have hb1 := hG.bs
        clear hG
        go_wp2_with fail
        refine (rread_s m N k G _ _ _ hT.b (by omega) R HR).mono ?_
        rintro _ w4 ⟨A, c, rfl, hb2, hs4⟩
        have hT := hT.keep hs4
        have hb1 := hb1.same hs4
        clear hs4
        go_wp2_with fail
        refine (dread_no d N (N : Int) F _ _ _ hT.a (by omega)).mono ?_
        rintro _ _ ⟨rfl, rfl⟩
        go_wp2_with fail
        refine (kept_any _).mono ?_
        rintro _ w5 ⟨rfl, hs5⟩
        have hT := hT.keep hs5
        have hb1 := hb1.same hs5
        have hb2 := hb2.same hs5
        clear hs5
        go_wp2_with fail
        refine (dsize_any d N F _ _ _ hT.a).mono ?_
        rintro _ _ ⟨rfl, rfl⟩
        go_wp2_with fail
        refine (alike_same _ _ R _ _ _ hb1 hb2).mono ?_
        rintro _ w6 ⟨rfl, hs6⟩
        have hT := hT.keep hs6
        clear hs6
        go_wp2_with fail
        refine (dwrite_no d N (N : Int) F (fun _ => False) _ [] _ (.slice none 0 0) _ hT.a (Bs.nil_ _ _) (by omega)).mono ?_
        rintro _ _ ⟨rfl, rfl⟩
        go_wp2_with fail
        refine (dwrite_no d N (-1) F (fun _ => False) _ [] _ (.slice none 0 0) _ hT.a (Bs.nil_ _ _) (by omega)).mono ?_
        rintro _ _ ⟨rfl, rfl⟩
        go_wp2_with fail
        go_ret
        exact ⟨rfl, hT.same⟩
      · have hn3 : 4096 < n := by omega
        clear hn hn0 hn2
        obtain ⟨s0, HS0⟩ : ∃ s0 : List UInt8, Hid (List.replicate (32 * 4096) 0 = s0) := ⟨_, Lib.hid rfl⟩
        go_enter Try.func5, Try.ntmps5
        go_wp2_with fail
        refine (dnew_any n (by omega) (by omega) w).mono ?_
        rintro _ w1 ⟨d, F, rfl, hv, hs, ho⟩
        go_wp2_with fail
        refine (rnew_any n (by omega) (by omega) w1).mono ?_
        rintro _ w2 ⟨m, G, rfl, hv2, hs2, ho2⟩
        have hT := Two.start hv hs ho hv2 hs2 ho2 (k := 4096) (by omega) HS0
        clear hv hs ho hv2 hs2 ho2
        obtain ⟨R, HR⟩ : ∃ R, Hid (now 4095 (blk s0 4095) [] = R) := ⟨_, Lib.hid rfl⟩
        go_wp2_with fail
        refine (dread_s d 4096 4095 F _ _ _ hT.a (by omega) R HR).mono ?_
        rintro _ w3 ⟨g, rfl, hG⟩
        have hT := hT.keep hG.sm
        have hb1 := hG.bs
        clear hG
        go_wp2_with fail
        refine (rread_s m 4096 4095 G _ _ _ hT.b (by omega) R HR).mono ?_
        rintro _ w4 ⟨A, c, rfl, hb2, hs4⟩
        have hT := hT.keep hs4
        have hb1 := hb1.same hs4
        clear hs4
        go_wp2_with fail
        refine (dread_no d 4096 4096 F _ _ _ hT.a (by omega)).mono ?_
        rintro _ _ ⟨rfl, rfl⟩
        go_wp2_with fail
        refine (kept_any _).mono ?_
        rintro _ w5 ⟨rfl, hs5⟩
        have hT := hT.keep hs5
        have hb1 := hb1.same hs5
        have hb2 := hb2.same hs5
        clear hs5
        go_wp2_with fail
        refine (dsize_any d 4096 F _ _ _ hT.a).mono ?_
        rintro _ _ ⟨rfl, rfl⟩
        go_wp2_with fail
        refine (alike_same _ _ R _ _ _ hb1 hb2).mono ?_
        rintro _ w6 ⟨rfl, hs6⟩
        have hT := hT.keep hs6
        clear hs6
        go_wp2_with fail
        refine (dwrite_no d 4096 4096 F (fun _ => False) _ [] _ (.slice none 0 0) _ hT.a (Bs.nil_ _ _) (by omega)).mono ?_
        rintro _ _ ⟨rfl, rfl⟩
        go_wp2_with fail
        refine (dwrite_no d 4096 (-1) F (fun _ => False) _ [] _ (.slice none 0 0) _ hT.a (Bs.nil_ _ _) (by omega)).mono ?_
        rintro _ _ ⟨rfl, rfl⟩
        go_wp2_with fail
        go_ret
        exact ⟨rfl, hT.same⟩
end Go.Proofs.Ytnfmjbmcboiacaa
