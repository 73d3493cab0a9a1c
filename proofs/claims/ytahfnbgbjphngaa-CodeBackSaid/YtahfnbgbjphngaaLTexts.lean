/- The walk of carrierlaw02.CodeTexts: a text of so many bytes, with so many at most. -/
import Derived.Test.YtahfnbgbjphngaaCodeL
import Derived.Deep.RegionHeld3
namespace Go.Proofs.Ytahfnbgbjphngaa
open Go Go.RowKit Go.Proofs

theorem rtext_is (a : Nat) (F : Nat → Prop) (l : List UInt8) (e most : Int) (w : World) (h : Rd w F a l e) (hl : l.length ≤ 140737488355328) (hm0 : -9223372036854775808 ≤ most) (hm1 : most ≤ 9223372036854775807)
    (t : List UInt8) (l1 : List UInt8) (e1 : Int) (hq : readText l e most = (t, l1, e1)) :
    Calls Try.prog 21 #[.pointer (some ⟨a, 0, none⟩), .int .i64 most] w fun en w' => en = .returned (.string ⟨t.toArray⟩) ∧ RdPost w w' F a l1 e1 :=
  (rtext_any' a F l e most w h hl hm0 hm1).mono fun e w' h => by rw [hq] at h; exact h

set_option maxHeartbeats 1600000 in
set_option maxRecDepth 100000 in
theorem codeTexts_walk (s : ByteArray) (most cut : Int) (hm0 : -9223372036854775808 ≤ most) (hm1 : most ≤ 9223372036854775807) (hc0 : 0 ≤ cut) (hc1 : cut ≤ 255) (w : World) :
    Calls Try.prog 5 #[.string s, .int .i64 most, .int .u8 cut] w fun e w' => e = .returned (.bool true) ∧ Same w w' := by
  by_cases hs : s.size ≤ 200
  · have hs' : (s.size : Int) ≤ 200 := by omega
    have hT : Hid ([] ++ textB s.data.toList = textB s.data.toList) := rfl
    have htl : (textB s.data.toList).length ≤ 210 := by
      unfold textB
      rw [List.length_append, size_toList]
      have := (numB_len 10 s.size (by omega) (by omega)).1
      omega
    have htp : 0 < (textB s.data.toList).length := by
      unfold textB
      rw [List.length_append, size_toList]
      have := (numB_len 10 s.size (by omega) (by omega)).2
      omega
    go_enter Try.func5, Try.ntmps5
    go_wp2_with fail
    refine (three_any _).mono ?_
    rintro _ w0 ⟨rfl, hs0⟩
    go_wp2_with fail
    refine (wtext_any _ s _ [] _ (Wr.new w0) (by simp) (by omega)).mono ?_
    rintro _ w1 ⟨rfl, F1, hW1, hc1', hn1⟩
    rw [hT.out] at hW1
    have hs1 : Same w w1 := Chg.since (hs0.alloc _) hc1' (fun k hk => by have := hs0.size; omega)
    clear hc1' hn1 hs0
    go_wp2_with fail
    refine (wbytes_any _ F1 _ w1 hW1 (by omega)).mono ?_
    rintro _ w2 ⟨v2, rfl, R2⟩
    have hs2 : Same w w2 := hs1.trans R2.2
    obtain ⟨A2, cap2, rfl⟩ := R2.form
    have hb2 := R2.bs
    clear R2 hs1 hW1
    generalize textB s.data.toList = l at *
    clear hT
    have hl0 : (0 : Int) < (l.length : Int) := by omega
    have hl1 : ((l.length : Int) == 0) = false := by rw [beq_eq_false_iff_ne]; omega
    obtain ⟨-, hlc, hcm⟩ := hb2.bounds
    have hk1 : l.length - 1 ≤ l.length := Nat.sub_le _ _
    have hbt := Lib.hid (hb2.takeN (k := l.length - 1) hk1)
    have hle : (l.take (l.length - 1)).length ≤ 210 := by rw [List.length_take]; omega
    have HLE := Lib.hid hle
    clear hle hk1
    go_upto_if 31 with (fail)
    go_cut [8] (fun v wc => ∃ lx A n, v = .slice A n cap2 ∧ lx.length ≤ 210 ∧ Bs wc (fun k => w1.heap.size ≤ k) (.slice A n cap2) lx ∧ Same w wc)
    case first =>
      go_wp2_with fail
      all_goals
        go_meet
        case rel => first | exact ⟨_, A2, _, rfl, HLE.out, hbt.out, hs2⟩ | exact ⟨_, A2, _, rfl, htl, hb2, hs2⟩
    case rest =>
      obtain ⟨lx, A3, n3, rfl, hlx, hb3, hs3⟩ := hcut
      clear hbt HLE hb2 hs2 htl htp hl0 hl1 hlc hcm
      go_wp2_with fail
      refine (newr_any _ lx _ wc hb3 (by omega)).mono ?_
      rintro _ w4 ⟨a4, F4, rfl, hR4, hs4, hN4⟩
      have hb4 := hb3.same hs4
      have hs5 : Same w w4 := hs3.trans hs4
      go_wp2_with fail
      refine (ptext_any _ _ lx 0 most _ hb4 (by omega) hm0 hm1).mono ?_
      rintro _ w6 ⟨v6, rfl, hb6, hs6⟩
      have hR6 := hR4.keep hs6 (fun _ _ h => h)
      have hs7 : Same w w6 := hs5.trans hs6
      obtain ⟨t6, l6, e6, HQ⟩ : ∃ t6 l6 e6, Hid (readText lx 0 most = (t6, l6, e6)) := ⟨_, _, _, rfl⟩
      rw [HQ.out] at hb6 ⊢
      obtain ⟨A6, c6, hv6, -, -, -⟩ := id hb6
      subst hv6
      go_wp2_with fail
      obtain ⟨W, hW⟩ : ∃ W, W = w6.alloc (.cells #[.slice A6 l6.length c6, .int .i64 e6] 35) := ⟨_, rfl⟩
      have hRW : Rd W F4 a4 lx 0 := by rw [hW]; exact hR6.keep (Chg.alloc_ (fun _ => False) _ _) (fun _ _ h => h)
      have hsW : Same w W := by rw [hW]; exact hs7.alloc _
      have hblk : W.heap[w6.heap.size]? = some (.cells #[.slice A6 l6.length c6, .int .i64 e6] 35 (0, 0)) := by rw [hW]; exact heap_alloc_new w6 _
      have hlt4 : a4 < w6.heap.size := by obtain ⟨v, h⟩ := hR6; exact h.lt _ h.mine
      have hold4 : w.heap.size ≤ a4 := by have := hN4 a4 hR4.mine; have := hs3.size; omega
      rw [← hW]
      obtain ⟨c0, c1, -, -⟩ := two_cells hblk
      have HB := Lib.hid hblk
      generalize w6.heap.size = M at *
      clear hW hblk hR6 hR4 hb4 hb6 hs4 hs5 hs6 hs7 hs3 hb3 hN4
      go_region_held3 (fun w' => w'.cell? ⟨M, 0, none⟩ = some (.slice A6 l6.length c6) ∧ w'.cell? ⟨M, 1, none⟩ = some (.int .i64 e6)) (go_keep) (first | (go_at_call 21; refine (rtext_is a4 F4 lx 0 most _ hRW.drew (by omega) hm0 hm1 t6 l6 e6 HQ.out).mono ?_; rintro _ w7 ⟨rfl, hR7, hc7⟩; have k0 := hc7.cell' c0 (show ¬ M = a4 by omega); have k1 := hc7.cell' c1 (show ¬ M = a4 by omega)) | (go_at_call 18; refine (rerr_any a4 F4 l6 e6 _ hR7).mono ?_; rintro _ _ ⟨rfl, rfl⟩) | (go_at_call 22; refine (rleft_any a4 F4 l6 e6 _ hR7).mono ?_; rintro _ _ ⟨rfl, rfl⟩))
      all_goals
        go_wp2_with fail
        go_ret
        exact ⟨rfl, Chg.since hsW.drew hc7 (fun k hk => by omega)⟩
  · have hs' : (200 : Int) < (s.size : Int) := by omega
    go_enter Try.func5, Try.ntmps5
    go_wp2_with fail
    refine (three_any _).mono ?_
    rintro _ w0 ⟨rfl, hs0⟩
    go_wp2_with fail
    refine (three_any _).mono ?_
    rintro _ w1 ⟨rfl, hs1⟩
    go_wp2_with fail
    go_ret
    exact ⟨rfl, hs0.trans hs1⟩
end Go.Proofs.Ytahfnbgbjphngaa
