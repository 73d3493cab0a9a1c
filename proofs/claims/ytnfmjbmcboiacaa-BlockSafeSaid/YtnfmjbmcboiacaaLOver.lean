/- The walk of carrierlaw03.BlockOver: several writes of one block: all that aren't lost, in order, one over the other. -/
import Derived.Test.YtnfmjbmcboiacaaLTorn
namespace Go.Proofs.Ytnfmjbmcboiacaa
open Go Go.RowKit Go.Proofs

theorem FillAt.step' {ws wr : World} {B : Nat} {A : Option Addr} {c : Nat} {b : UInt8} {j k : Nat} {y : Int} (hy : (b.toNat : Int) = y) (h : FillAt ws wr B (.slice A k c) b j k) (hj : j < k) :
    ∃ g x, A = some ⟨g, 0, none⟩ ∧ k ≤ c ∧ c ≤ 9223372036854775807 ∧ wr.cell? ⟨g, j, none⟩ = some (.int .u8 x) ∧ wr.frozen? ⟨g, j, none⟩ = false ∧ FillAt ws (wr.setCell ⟨g, j, none⟩ (.int .u8 y)) B (.slice A k c) b (j + 1) k := by
  subst hy; exact h.step hj

/-- Where the loop of the writes stands: j of them wait. -/
def Puts (w0 wr : World) (d m : Nat) (s0 : List UInt8) (j : Nat) : Prop := ∃ F G ts, Two w0 wr F G d m 1 s0 ts s0 ts ∧ ts.length = j

set_option maxHeartbeats 6400000 in
set_option maxRecDepth 100000 in
theorem blockOver_walk (v : Value) (l : List UInt8) (F0 : Nat → Prop) (vl : Value) (lost : List Bool) (G0 : Nat → Prop) (w : World) (hp : Bs w F0 v l) (hl : Bl w G0 vl lost) :
    Calls Try.prog 6 #[v, vl] w fun e w' => e = .returned (.bool true) ∧ Same w w' := by
  obtain ⟨A, cap, hv, -, -, -⟩ := id hp
  subst hv
  obtain ⟨AL, capL, hvL, -, -, -⟩ := id hl
  subst hvL
  by_cases hs : l.length ≤ 30
  · have hs' : (l.length : Int) ≤ 30 := by omega
    by_cases hlo : lost.length ≤ 40
    · have hlo' : (lost.length : Int) ≤ 40 := by omega
      obtain ⟨s0, HS0⟩ : ∃ s0 : List UInt8, Hid (List.replicate (32 * 1) 0 = s0) := ⟨_, Lib.hid rfl⟩
      go_enter Try.func6, Try.ntmps6
      go_wp2_with fail
      refine (kept_any _).mono ?_
      rintro _ w0 ⟨rfl, hs0⟩
      have hp0 := (hp.same hs0).old
      have hl0 := (hl.keep hs0 (fun _ _ h => h)).mono (G := fun k => k < w0.heap.size) (fun k _ h => h)
      go_wp2_with fail
      refine (dnew_any 1 (by omega) (by omega) w0).mono ?_
      rintro _ w1 ⟨d, F, rfl, hv, hs1, ho⟩
      go_wp2_with fail
      refine (rnew_any 1 (by omega) (by omega) w1).mono ?_
      rintro _ w2 ⟨m, G, rfl, hv2, hs2, ho2⟩
      have hT0 : Puts w0 w2 d m s0 0 := ⟨F, G, [], Two.start hv hs1 ho hv2 hs2 ho2 (k := 1) (by omega) HS0, rfl⟩
      clear hv hs1 ho hv2 hs2 ho2
      go_wp2_with fail
      go_loopw [7] (fun i wr => ∃ j : Nat, i = .int .i64 j ∧ j ≤ l.length ∧ Puts w0 wr d m s0 j) (fun i _ => l.length - (intOf i).toNat)
      case atStart => exact ⟨0, rfl, Nat.zero_le _, hT0⟩
      case round =>
        obtain ⟨j, rfl, hj, F1, G1, ts, hT, htl⟩ := hrel
        clear hT0
        by_cases hlt : j < l.length
        · obtain ⟨-, bb, oo, x, hA, -, hx, hcx⟩ := (hp0.same hT.same).at_ hlt
          subst hA
          have hx255 := x.toNat_lt
          obtain ⟨k, hk⟩ : ∃ k : Nat, ((x.toNat : Int)).tmod 33 = (k : Int) := ⟨x.toNat % 33, by rw [Int.tmod_eq_emod_of_nonneg (by omega)]; omega⟩
          have hk32 : k ≤ 32 := by rw [Int.tmod_eq_emod_of_nonneg (by omega)] at hk; omega
          have hk33 : (k : Int) ≤ 32 := by omega
          obtain ⟨b, hb⟩ : ∃ b : UInt8, (b.toNat : Int) = (j : Int) + 1 := ⟨UInt8.ofNat (j + 1), by rw [UInt8.toNat_ofNat']; omega⟩
          have HBV := Lib.hid hb
          obtain ⟨P, HP⟩ : ∃ P : List UInt8, Hid (List.replicate k b = P) := ⟨_, Lib.hid rfl⟩
          have HPL : Hid (P.length = k) := Lib.hid (by rw [← HP.out]; simp)
          obtain ⟨Z, HZ⟩ : ∃ Z : Array Value, Hid ((bvs (List.replicate k 0)).toArray = Z) := ⟨_, Lib.hid rfl⟩
          have hmk : ∀ w, (Instr.makeSlice 25 (.int .i64 (k : Int)) (.int .i64 (k : Int))).run Try.prog w = .ok (.slice (some ⟨w.heap.size, 0, none⟩) k k) (w.alloc (.cells Z 5)) := fun w => by rw [← HZ.out]; exact run_mkB k w (by omega)
          have hown := mk_own wr k (by unfold maxLen; omega)
          rw [HZ.out] at hown
          have hT2 := hT.keep (Chg.alloc_ (fun _ => False) wr (.cells Z 5))
          have hFl : FillAt (wr.alloc (.cells Z 5)) (wr.alloc (.cells Z 5)) wr.heap.size (.slice (some ⟨wr.heap.size, 0, none⟩) k k) b 0 k := ⟨by simpa using hown, Chg.refl _ _⟩
          have hlF : ∀ g, F1 g → g < wr.heap.size := hT.a.lt
          have hlG : ∀ g, G1 g → g < wr.heap.size := hT.b.lt
          have hwz : w0.heap.size ≤ wr.heap.size := hT.same.size
          have HTL := Lib.hid htl
          have HX := Lib.hid hx
          have hj1 : (j : Int) + 1 ≤ 255 := by omega
          have hjl : (j : Int) < (l.length : Int) := by omega
          clear hT hown hb htl hx
          go_upto_region 8 with fail
          generalize hw3 : wr.alloc (.cells Z 5) = w3 at *
          have hsz3 : wr.heap.size < w3.heap.size := by rw [← hw3]; simp
          clear hw3
          generalize wr.heap.size = B at *
          go_wp2_with fail
          go_loopw [9] (fun i wq => ∃ q : Nat, i = .int .i64 q ∧ q ≤ k ∧ FillAt w3 wq B (.slice (some ⟨B, 0, none⟩) k k) b q k) (fun i _ => k - (intOf i).toNat)
          case atStart => exact ⟨0, rfl, Nat.zero_le _, hFl⟩
          case round =>
            obtain ⟨q, rfl, hq, hR⟩ := hrel
            by_cases hlt2 : q < k
            · obtain ⟨g, y, hA, hkc, hcm, hcy, hfy, hst⟩ := hR.step' HBV.out hlt2
              injection hA with hA
              injection hA with hA
              subst hA
              have hlt' : (q : Int) < (k : Int) := by omega
              have HST := Lib.hid hst
              clear hst
              go_wp2_with fail
              go_roundw
              case rel => exact ⟨q + 1, by go_num, by omega, HST.out⟩
              case measure => simp [intOf]; omega
            · obtain rfl : q = k := by omega
              have hbp : Bs wr (fun g => g = B) (.slice (some ⟨B, 0, none⟩) q q) P := by
                have := Own.bs (F := fun g => g = B) hR.1 (fun g hg => by simp [Value.ownBlock] at hg; exact hg.symm)
                rw [Nat.sub_self, List.replicate_zero, List.append_nil, HP.out] at this
                exact this
              have hcR : Chg (fun g => g = B) w3 wr := hR.2.mono (fun g hg => by simp [Value.ownBlock] at hg; exact hg.symm)
              have hT3 : Two w0 wr F1 G1 d m 1 s0 ts s0 ts := ⟨hT2.a.keep hcR (fun k hk e => by have := hlF k hk; omega), hT2.b.keep hcR (fun k hk e => by have := hlG k hk; omega), hT2.aold, hT2.bold, hT2.dj, hT2.same.since hcR (fun k hk => by omega)⟩
              have hBr : B < wr.heap.size := by have := hcR.size; omega
              clear hR hcR hT2 hFl
              go_wp2_with fail
              refine (dwrite_ok d 1 0 F1 _ _ P ts _ _ hT3.a (by omega) (by rw [HPL.out]; exact hk32) hbp (by rw [HTL.out]; omega)).mono ?_
              rintro _ w5 ⟨rfl, hP⟩
              obtain ⟨F2, hT4⟩ := hT3.dstep hP
              have hbp5 := hbp.keep hP.choose_spec.2.1 (fun g hg hF => by have := hlF g hF; omega)
              clear hP hT3 hbp
              go_wp2_with fail
              refine (rput_ok m 1 0 G1 _ _ P ts _ _ hT4.b (by omega) (by rw [HPL.out]; exact hk32) hbp5 (by rw [HTL.out]; omega)).mono ?_
              rintro _ w6 ⟨rfl, hP⟩
              obtain ⟨G2, hT5⟩ := hT4.rstep hP
              clear hP hT4 hbp5
              go_wp2_with fail
              go_roundw
              case rel => exact ⟨j + 1, by go_num, by omega, F2, G2, _, hT5, by simp [HTL.out]⟩
              case measure => simp [intOf]; omega
        · have hjl : (l.length : Int) ≤ (j : Int) := by omega
          have htl' : ts.length ≤ 1000000 := by omega
          have hf := hT.a.fine
          have hlF : ∀ g, F1 g → g < wr.heap.size := hT.a.lt
          have hlG : ∀ g, G1 g → g < wr.heap.size := hT.b.lt
          obtain ⟨R1, HR1⟩ : ∃ R, Hid (now 0 (blk s0 0) ts = R) := ⟨_, Lib.hid rfl⟩
          have HR2 : Hid (blk (allB s0 ts) 0 = R1) := Lib.hid (by rw [← HR1.out]; exact blk_allB (by omega) ts s0 hf)
          obtain ⟨S, HS⟩ : ∃ S, Hid (crash lost 32 ts.length 0 s0 ts = S) := ⟨_, Lib.hid rfl⟩
          obtain ⟨R3, HR3⟩ : ∃ R, Hid (now 0 (blk S 0) [] = R) := ⟨_, Lib.hid rfl⟩
          have HR4 : Hid (blk (allB S []) 0 = R3) := HR3
          clear htl
          go_wp2_with fail
          refine (dread_s d 1 0 F1 _ _ _ hT.a (by omega) R1 HR1).mono ?_
          rintro _ w5 ⟨g5, rfl, hG⟩
          have hT5 := hT.keep hG.sm
          have hb5 := hG.bs
          have hG5 := hG.sm
          clear hT hG
          go_wp2_with fail
          refine (rread_s m 1 0 G1 _ _ _ hT5.b (by omega) R1 HR2).mono ?_
          rintro _ w6 ⟨A6, c6, rfl, hb6, hs6⟩
          have hT6 := hT5.keep hs6
          have hb5' := hb5.same hs6
          have hsz5 := hG5.size
          clear hT5 hb5 hs6 hG5
          go_wp2_with fail
          have hl6 := hl0.keep hT6.same (fun _ _ h => h)
          refine (dcrash_ok d 1 32 (by omega) (by omega) F1 _ _ _ lost _ _ hT6.a hl6 (fun k hk hF => by have := hT6.aold k hF; omega)).mono ?_
          rintro _ w7 ⟨rfl, hP⟩
          rw [HS.out] at hP
          obtain ⟨F7, hT7⟩ := hT6.dstep hP
          have hb57 := hb5'.keep hP.choose_spec.2.1 (fun g hg hF => by have := hlF g hF; omega)
          have hb67 := hb6.keep hP.choose_spec.2.1 (fun g hg hF => by have := hlF g hF; omega)
          clear hP hT6 hb5' hb6 hl6
          go_wp2_with fail
          have hl7 := hl0.keep hT7.same (fun _ _ h => h)
          refine (rcrash_ok m 1 32 (by omega) (by omega) G1 _ _ _ lost _ _ hT7.b hl7 htl').mono ?_
          rintro _ w8 ⟨rfl, hP⟩
          rw [HS.out] at hP
          obtain ⟨G8, hT8⟩ := hT7.rstep hP
          have hb58 := hb57.keep hP.choose_spec.2.1 (fun g hg hF => by have := hlG g hF; omega)
          have hb68 := hb67.keep hP.choose_spec.2.1 (fun g hg hF => by have := hlG g hF; omega)
          clear hP hT7 hb57 hb67 hl7
          go_wp2_with fail
          refine (dread_s d 1 0 F7 _ _ _ hT8.a (by omega) R3 HR3).mono ?_
          rintro _ w9 ⟨g9, rfl, hG⟩
          have hT9 := hT8.keep hG.sm
          have hb9 := hG.bs
          have hb59 := hb58.same hG.sm
          have hb69 := hb68.same hG.sm
          clear hT8 hG hb58 hb68
          go_wp2_with fail
          refine (rread_s m 1 0 G8 _ _ _ hT9.b (by omega) R3 HR4).mono ?_
          rintro _ v1 ⟨Av, cv, rfl, hbv, hsv⟩
          have hTv := hT9.keep hsv
          have hb9v := hb9.same hsv
          have hb5v := hb59.same hsv
          have hb6v := hb69.same hsv
          clear hT9 hsv hb9 hb59 hb69
          go_wp2_with fail
          refine (alike_same _ _ R1 _ _ _ hb5v hb6v).mono ?_
          rintro _ v2 ⟨rfl, hs2⟩
          have hT2 := hTv.keep hs2
          have hb92 := hb9v.same hs2
          have hbv2 := hbv.same hs2
          clear hTv hs2 hb5v hb6v hb9v hbv
          go_wp2_with fail
          refine (alike_same _ _ R3 _ _ _ hb92 hbv2).mono ?_
          rintro _ v3 ⟨rfl, hs3⟩
          have hT3 := hT2.keep hs3
          clear hT2 hs3
          go_wp2_with fail
          refine (dwaiting_any d 1 F7 _ _ _ hT3.a).mono ?_
          rintro _ _ ⟨rfl, rfl⟩
          go_wp2_with fail
          go_ret
          exact ⟨rfl, hs0.trans hT3.same⟩
    · have hlo' : (40 : Int) < (lost.length : Int) := by omega
      go_enter Try.func6, Try.ntmps6
      go_wp2_with fail
      refine (kept_any _).mono ?_
      rintro _ w0 ⟨rfl, hs0⟩
      go_wp2_with fail
      refine (kept_any _).mono ?_
      rintro _ w1 ⟨rfl, hs1⟩
      go_wp2_with fail
      go_ret
      exact ⟨rfl, hs0.trans hs1⟩
  · have hs' : (30 : Int) < (l.length : Int) := by omega
    go_enter Try.func6, Try.ntmps6
    go_wp2_with fail
    refine (kept_any _).mono ?_
    rintro _ w0 ⟨rfl, hs0⟩
    go_wp2_with fail
    refine (kept_any _).mono ?_
    rintro _ w1 ⟨rfl, hs1⟩
    go_wp2_with fail
    go_ret
    exact ⟨rfl, hs0.trans hs1⟩
end Go.Proofs.Ytnfmjbmcboiacaa
