/- The walks of carrierref16's ops and events. -/
import Derived.Test.YtdkankiohoocaaaQRf1
import Derived.Test.YtdkankiohoocaaaQWrQ
namespace Go.Proofs.Ytdkankiohoocaaa
set_option linter.unusedSimpArgs false
set_option linter.unusedVariables false
open Go Go.RowKit Go.Proofs

theorem rfnum_s (n : Int) (hn : wholeI n) (A : Option Addr) (m c : Nat) (l L : List UInt8) (F : Nat → Prop) (w : World) (h : Bs w F (.slice A m c) l) (hl : l.length ≤ 1099511620000) (hq : Hid (l ++ numB n.toNat = L)) :
    Calls Try.prog 42 #[.slice A m c, .int .i64 n] w fun en w' => ∃ A' c', en = .returned (.slice A' L.length c') ∧ Fresh w w' (.slice A' L.length c') L :=
  (rfnum_any _ l n F w h hn hl).mono fun en w' ⟨v, h1, h2⟩ => by
    rw [hq.out] at h2
    obtain ⟨A, c, rfl⟩ := h2.form
    exact ⟨A, c, h1, h2⟩
/-- Bytes of the call's own that grow. -/
def Gr (w wr : World) (p : Value) (L : List UInt8) : Prop := ∃ A c, p = .slice A L.length c ∧ Fresh w wr (.slice A L.length c) L

set_option maxHeartbeats 3200000 in
set_option maxRecDepth 100000 in
theorem rfops_any (A0 : Option Addr) (c0 : Nat) (F G : Nat → Prop) (l : List UInt8) (os : List OpD) (v : Value) (w : World) (h : Bs w F (.slice A0 l.length c0) l) (hv : Sl w G 4 v (os.map opCells)) (hn : ∀ o ∈ os, o.ok) (hl : l.length ≤ 1099510000000) (hf : os.length ≤ 1000) (L : List UInt8) (hq : Hid (l ++ opsB os = L)) :
    Calls Try.prog 43 #[.slice A0 l.length c0, v] w fun en w' => ∃ A' c', en = .returned (.slice A' L.length c') ∧ Fresh w w' (.slice A' L.length c') L := by
  obtain ⟨A, cap, hv1, -, -⟩ := hv.form
  subst hv1
  have hml : (os.map opCells).length = os.length := by simp
  rw [hml] at hv ⊢
  obtain ⟨L1, H1⟩ : ∃ L, Hid (l ++ numB (os.length : Int).toNat = L) := ⟨_, rfl⟩
  have hL1 : L1.length ≤ 1099510000010 := by rw [← H1.out, List.length_append]; have := (numB_len 10 (os.length : Int).toNat (by omega) (by omega)).1; omega
  have HL : Hid (L1 ++ opsOf os os.length = L) := by show _ = _; rw [← hq.out, opsOf_all, ← List.append_assoc, ← H1.out]; rfl
  clear hq
  go_enter Try.func43, Try.ntmps43
  go_wp2_with fail
  refine (rfnum_s os.length ⟨by omega, by omega⟩ _ _ _ l L1 F w h (by omega) H1).mono ?_
  rintro _ w1 ⟨A1, c1, rfl, R1⟩
  have HR1 := Lib.hid R1
  clear R1
  go_wp2_with fail
  go_loopw [0, 5] (fun p i wr => ∃ k : Nat, i = .int .i64 k ∧ k ≤ os.length ∧ Gr w wr p (L1 ++ opsOf os k)) (fun _ i _ => os.length - (intOf i).toNat)
  case atStart => exact ⟨0, rfl, Nat.zero_le _, A1, c1, by simp [opsOf], by simpa [opsOf] using HR1.out⟩
  case round =>
    obtain ⟨k, rfl, hk, Ar, cr, rfl, hR⟩ := hrel
    by_cases hkl : k < os.length
    · obtain ⟨b, o, x, hA, hGb, hx, hc⟩ := hv.at_ (i := k) (by rw [hml]; exact hkl)
      have hg : os[k]? = some os[k] := List.getElem?_eq_getElem hkl
      generalize os[k] = od at hg
      have hxn : x = opCells od := by rw [List.getElem?_map, hg] at hx; simpa using hx.symm
      subst hxn
      subst hA
      have hok := hn od (List.mem_of_getElem? hg)
      obtain ⟨tb, gn, ky, tx⟩ := od
      have p0 := hR.2.cell' (hc 0 (.int .i64 tb) rfl) (fun h => h)
      have p1 := hR.2.cell' (hc 1 (.bool gn) rfl) (fun h => h)
      have p2 := hR.2.cell' (hc 2 (.int .i64 ky) rfl) (fun h => h)
      have p3 := hR.2.cell' (hc 3 (.string tx) rfl) (fun h => h)
      rw [Nat.add_zero] at p0
      have hkl' : (k : Int) < (os.length : Int) := by omega
      have htb := hok.1
      have hky := hok.2.1
      have htx := hok.2.2
      simp only at htb hky htx
      have hb1 := numB_len10 (n := tb) (by have := htb.2; omega)
      have hb2 : (numB (0 : Int).toNat).length ≤ 10 ∧ (numB (1 : Int).toNat).length ≤ 10 := ⟨numB_len10 (by omega), numB_len10 (by omega)⟩
      unfold i64I at hky
      have hb3 : (intB ky).length ≤ 10 := by unfold intB zig; split <;> exact numB_len10 (by omega)
      obtain ⟨M0, G0⟩ : ∃ M, Hid (L1 ++ opsOf os k = M) := ⟨_, rfl⟩
      have hM0 : M0.length ≤ 1099511110010 := by rw [← G0.out, List.length_append]; have := opsOf_len os k hn; omega
      rw [G0.out] at hR ⊢
      obtain ⟨M1, G1⟩ : ∃ M, Hid (M0 ++ numB tb.toNat = M) := ⟨_, rfl⟩
      obtain ⟨M2, G2⟩ : ∃ M, Hid (M1 ++ numB (if gn then (1 : Int) else 0).toNat = M) := ⟨_, rfl⟩
      obtain ⟨K3, J3⟩ : ∃ M, Hid (intB ky = M) := ⟨_, rfl⟩
      obtain ⟨K4, J4⟩ : ∃ M, Hid (textB tx.data.toList = M) := ⟨_, rfl⟩
      obtain ⟨M3, G3⟩ : ∃ M, Hid (M2 ++ K3 = M) := ⟨_, rfl⟩
      obtain ⟨M4, G4⟩ : ∃ M, Hid (M3 ++ K4 = M) := ⟨_, rfl⟩
      have hM1 : M1.length ≤ 1099511110020 := by rw [← G1.out, List.length_append]; omega
      have hM2 : M2.length ≤ 1099511110030 := by rw [← G2.out, List.length_append]; split <;> omega
      have hK3 : K3.length ≤ 10 := by rw [← J3.out]; exact hb3
      have hK4 : K4.length ≤ 1010 := by rw [← J4.out]; unfold textB; rw [List.length_append, size_toList]; have := (numB_len 10 tx.size (by omega) (by omega)).1; omega
      have hM3 : M3.length ≤ 1099511110040 := by rw [← G3.out, List.length_append]; omega
      have HQ : Hid (M4 = L1 ++ opsOf os (k + 1)) := by
        show _ = _
        rw [opsOf_succ os k _ hg, ← List.append_assoc, G0.out, ← G4.out, ← G3.out, ← J4.out, ← J3.out, ← G2.out, ← G1.out]
        cases gn <;> simp [opB]
      have hbR := hR.bs
      have HS := Lib.hid hR.2
      clear hb1 hb2 hb3 hc hx hg hR
      go_upto_region 6 with fail
      refine (rfnum_s tb htb _ _ _ M0 M1 _ _ hbR (by omega) G1).mono ?_
      rintro _ w2 ⟨A2, c2, rfl, R2⟩
      have s2 := HS.out.trans R2.2
      have p12 := R2.2.cell' p1 (fun h => h)
      have p22 := R2.2.cell' p2 (fun h => h)
      have p32 := R2.2.cell' p3 (fun h => h)
      have hb2 := R2.bs
      clear HS R2 p0 p1 p2 p3 hbR
      go_upto_if 28 with (fail)
      go_cut [0] (fun p wc => ∃ A3 c3, p = .slice A3 M2.length c3 ∧ Fresh w2 wc (.slice A3 M2.length c3) M2)
      case first =>
        cases gn
        · go_wp2_with fail
          refine (rfnum_s 0 ⟨by omega, by omega⟩ _ _ _ M1 M2 _ _ hb2 (by omega) G2).mono ?_
          rintro _ w3 ⟨A3, c3, rfl, R3⟩
          go_wp2_with fail
          go_meet
          case rel => exact ⟨_, _, rfl, R3⟩
        · go_wp2_with fail
          refine (rfnum_s 1 ⟨by omega, by omega⟩ _ _ _ M1 M2 _ _ hb2 (by omega) G2).mono ?_
          rintro _ w3 ⟨A3, c3, rfl, R3⟩
          go_wp2_with fail
          go_meet
          case rel => exact ⟨_, _, rfl, R3⟩
      case rest =>
        obtain ⟨A3, c3, rfl, R3⟩ := hcut
        have s3 := s2.trans R3.sm
        have p23 := R3.sm.cell' p22 (fun h => h)
        have p33 := R3.sm.cell' p32 (fun h => h)
        have hb3 := R3.bs
        clear R3 p12 p22 p32 hb2 s2
        go_wp2_with fail
        go_region_held3 (fun w' => w'.cell? ⟨b, o + k * 4 + 2, none⟩ = some (.int .i64 ky) ∧ w'.cell? ⟨b, o + k * 4 + 3, none⟩ = some (.string tx)) (go_keep) (first | (go_at_call 45; ((with_reducible refine (rintb_s ky (by omega) (by omega) _ K3 J3).mono ?_); rintro _ w9 ⟨A9, c9, rfl, R9⟩; have q96 := R9.sm.cell' p23 (fun h => h); have q97 := R9.sm.cell' p33 (fun h => h))) | (go_at_call 22; ((with_reducible refine (join_s _ _ _ _ _ _ M2 K3 M3 _ _ _ (hb3.drew.same R9.sm) R9.bs (by omega) G3).mono ?_); rintro _ w10 ⟨A10, c10, rfl, R10⟩; have q106 := R10.sm.cell' q96 (fun h => h); have q107 := R10.sm.cell' q97 (fun h => h))) | (go_at_call 46; ((with_reducible refine (rtextb_s tx (by omega) _ K4 J4).mono ?_); rintro _ w11 ⟨A11, c11, rfl, R11⟩; have q116 := R11.sm.cell' q106 (fun h => h); have q117 := R11.sm.cell' q107 (fun h => h))) | (go_at_call 22; ((with_reducible refine (join_s _ _ _ _ _ _ M3 K4 M4 _ _ _ (R10.bs.same R11.sm) R11.bs (by omega) G4).mono ?_); rintro _ w12 ⟨A12, c12, rfl, R12⟩; have q126 := R12.sm.cell' q116 (fun h => h); have q127 := R12.sm.cell' q117 (fun h => h))))
        all_goals
          have hF := fresh_since ((((s3.drew).trans R9.sm).trans R10.sm).trans R11.sm) R12
          have HF := Lib.hid hF
          clear hF R9 R10 R11 R12
          go_wp2_with fail
          go_roundw
          case rel => exact ⟨k + 1, by go_num, by omega, A12, c12, by rw [← HQ.out], by rw [← HQ.out]; exact HF.out⟩
          case measure => simp [intOf]; omega
    · have hke : k = os.length := by omega
      subst hke
      rw [HL.out] at hR ⊢
      have HR := Lib.hid hR
      clear hR
      go_wp2_with fail
      go_ret
      exact ⟨_, _, rfl, HR.out⟩
end Go.Proofs.Ytdkankiohoocaaa
