/- The walk of carrierref16.events. -/
import Derived.Test.YtdkankiohoocaaaQRfO
import Derived.Deep.RegionLaw
namespace Go.Proofs.Ytdkankiohoocaaa
set_option linter.unusedSimpArgs false
set_option linter.unusedVariables false
open Go Go.RowKit Go.Proofs

theorem pencode_s (p : PlD) (hp : p.ok) (w : World) (L : List UInt8) (hq : Hid (encB p.id p.tx p.owner p.tries p.table p.kind p.key p.text = L)) :
    Calls Try.prog 71 #[.agg #[.int .i64 p.id, .int .i64 p.tx, .string p.owner, .int .i64 p.tries, .int .i64 p.table, .int .u8 p.kind, .int .i64 p.key, .string p.text]] w fun en w' => ∃ A c, en = .returned (.slice A L.length c) ∧ Fresh w w' (.slice A L.length c) L ∧ (convert 22 9 (.slice A L.length c)).run Try.prog w' = .ok (.string ⟨L.toArray⟩) w' :=
  (pencode_any p.id p.tx p.owner p.tries p.table p.kind p.key p.text w hp.2.1 hp.2.2.1 hp.2.2.2.1 hp.2.2.2.2.1 hp.2.2.2.2.2).mono fun en w' ⟨v, h1, h2⟩ => by
    rw [hq.out] at h2
    obtain ⟨A, c, rfl⟩ := h2.form
    exact ⟨A, c, h1, h2, run_toS w' _ _ L h2.bs⟩

set_option maxHeartbeats 3200000 in
set_option maxRecDepth 100000 in
theorem rfevents_any (A0 : Option Addr) (c0 : Nat) (F G : Nat → Prop) (l : List UInt8) (os : List PlD) (v : Value) (w : World) (h : Bs w F (.slice A0 l.length c0) l) (hv : Sl w G 9 v (os.map plCells)) (hn : ∀ o ∈ os, o.ok) (hl : l.length ≤ 1099510000000) (hf : os.length ≤ 1000) (L : List UInt8) (hq : Hid (l ++ plsB os = L)) :
    Calls Try.prog 44 #[.slice A0 l.length c0, v] w fun en w' => ∃ A' c', en = .returned (.slice A' L.length c') ∧ Fresh w w' (.slice A' L.length c') L := by
  obtain ⟨A, cap, hv1, -, -⟩ := hv.form
  subst hv1
  have hml : (os.map plCells).length = os.length := by simp
  rw [hml] at hv ⊢
  obtain ⟨L1, H1⟩ : ∃ L, Hid (l ++ numB (os.length : Int).toNat = L) := ⟨_, rfl⟩
  have hL1 : L1.length ≤ 1099510000010 := by rw [← H1.out, List.length_append]; have := (numB_len 10 (os.length : Int).toNat (by omega) (by omega)).1; omega
  have HL : Hid (L1 ++ plsOf os os.length = L) := by show _ = _; rw [← hq.out, plsOf_all, ← List.append_assoc, ← H1.out]; rfl
  clear hq
  go_enter Try.func44, Try.ntmps44
  go_wp2_with fail
  refine (rfnum_s os.length ⟨by omega, by omega⟩ _ _ _ l L1 F w h (by omega) H1).mono ?_
  rintro _ w1 ⟨A1, c1, rfl, R1⟩
  have HR1 := Lib.hid R1
  clear R1
  go_wp2_with fail
  go_loopw [0, 5] (fun p i wr => ∃ k : Nat, i = .int .i64 k ∧ k ≤ os.length ∧ Gr w wr p (L1 ++ plsOf os k)) (fun _ i _ => os.length - (intOf i).toNat)
  case atStart => exact ⟨0, rfl, Nat.zero_le _, A1, c1, by simp [plsOf], by simpa [plsOf] using HR1.out⟩
  case round =>
    obtain ⟨k, rfl, hk, Ar, cr, rfl, hR⟩ := hrel
    by_cases hkl : k < os.length
    · obtain ⟨b, o, x, hA, hGb, hx, hc⟩ := hv.at_ (i := k) (by rw [hml]; exact hkl)
      have hg : os[k]? = some os[k] := List.getElem?_eq_getElem hkl
      generalize os[k] = od at hg
      have hxn : x = plCells od := by rw [List.getElem?_map, hg] at hx; simpa using hx.symm
      subst hxn
      subst hA
      have hok := hn od (List.mem_of_getElem? hg)
      have p0 := hR.2.cell' (hc 0 (.int .i64 od.spool) rfl) (fun h => h)
      have p1 := hR.2.cell' (hc 1 (.int .i64 od.id) rfl) (fun h => h)
      have p2 := hR.2.cell' (hc 2 (.int .i64 od.tx) rfl) (fun h => h)
      have p3 := hR.2.cell' (hc 3 (.string od.owner) rfl) (fun h => h)
      have p4 := hR.2.cell' (hc 4 (.int .i64 od.tries) rfl) (fun h => h)
      have p5 := hR.2.cell' (hc 5 (.int .i64 od.table) rfl) (fun h => h)
      have p6 := hR.2.cell' (hc 6 (.int .u8 od.kind) rfl) (fun h => h)
      have p7 := hR.2.cell' (hc 7 (.int .i64 od.key) rfl) (fun h => h)
      have p8 := hR.2.cell' (hc 8 (.string od.text) rfl) (fun h => h)
      rw [Nat.add_zero] at p0
      have hkl' : (k : Int) < (os.length : Int) := by omega
      have hsp := hok.1
      have hb1 := numB_len10 (n := od.spool) (by have := hsp.2; omega)
      have hel := encB_len od hok
      obtain ⟨M0, G0⟩ : ∃ M, Hid (L1 ++ plsOf os k = M) := ⟨_, rfl⟩
      have hM0 : M0.length ≤ 1099511110010 := by rw [← G0.out, List.length_append]; have := plsOf_len os k hn; omega
      rw [G0.out] at hR ⊢
      obtain ⟨M1, G1⟩ : ∃ M, Hid (M0 ++ numB od.spool.toNat = M) := ⟨_, rfl⟩
      obtain ⟨K2, J2⟩ : ∃ M, Hid (encB od.id od.tx od.owner od.tries od.table od.kind od.key od.text = M) := ⟨_, rfl⟩
      have hK2 : K2.length ≤ 200 := by rw [← J2.out]; exact hel
      have hsz : (⟨K2.toArray⟩ : ByteArray).size ≤ 200 := by rw [← size_toList]; simpa using hK2
      obtain ⟨K3, J3⟩ : ∃ M, Hid (textB (⟨K2.toArray⟩ : ByteArray).data.toList = M) := ⟨_, rfl⟩
      obtain ⟨M2, G2⟩ : ∃ M, Hid (M1 ++ K3 = M) := ⟨_, rfl⟩
      have hM1 : M1.length ≤ 1099511110020 := by rw [← G1.out, List.length_append]; omega
      have hK3 : K3.length ≤ 1010 := by rw [← J3.out]; unfold textB; rw [List.length_append, size_toList]; have := (numB_len 10 (⟨K2.toArray⟩ : ByteArray).size (by omega) (by omega)).1; omega
      have HQ : Hid (M2 = L1 ++ plsOf os (k + 1)) := by
        show _ = _
        rw [plsOf_succ os k _ hg, ← List.append_assoc, G0.out, ← G2.out, ← J3.out, ← J2.out, ← G1.out]
        simp [plB]
      have hbR := hR.bs
      have s0 := hR.sm
      clear hb1 hel hc hx hg hR
      go_upto_region 5 with fail
      go_region_law (first | (go_simp; go_at_call 42; ((with_reducible refine (rfnum_s od.spool hsp _ _ _ M0 M1 _ _ hbR.drew (by omega) G1).mono ?_); rintro _ w2 ⟨A2, c2, rfl, R2⟩; have q0 := R2.sm.cell' p0 (fun h => h); have q1 := R2.sm.cell' p1 (fun h => h); have q2 := R2.sm.cell' p2 (fun h => h); have q3 := R2.sm.cell' p3 (fun h => h); have q4 := R2.sm.cell' p4 (fun h => h); have q5 := R2.sm.cell' p5 (fun h => h); have q6 := R2.sm.cell' p6 (fun h => h); have q7 := R2.sm.cell' p7 (fun h => h); have q8 := R2.sm.cell' p8 (fun h => h))) | (go_simp; go_at_call 71; ((with_reducible refine (pencode_s od hok _ K2 J2).mono ?_); rintro _ w3 ⟨A3, c3, rfl, R3, hT3⟩; have r0 := R3.sm.cell' q0 (fun h => h); have r1 := R3.sm.cell' q1 (fun h => h); have r2 := R3.sm.cell' q2 (fun h => h); have r3 := R3.sm.cell' q3 (fun h => h); have r4 := R3.sm.cell' q4 (fun h => h); have r5 := R3.sm.cell' q5 (fun h => h); have r6 := R3.sm.cell' q6 (fun h => h); have r7 := R3.sm.cell' q7 (fun h => h); have r8 := R3.sm.cell' q8 (fun h => h))) | (go_simp; go_at_call 46; ((with_reducible refine (rtextb_s _ (by omega) _ K3 J3).mono ?_); rintro _ w4 ⟨A4, c4, rfl, R4⟩; have t0 := R4.sm.cell' r0 (fun h => h); have t1 := R4.sm.cell' r1 (fun h => h); have t2 := R4.sm.cell' r2 (fun h => h); have t3 := R4.sm.cell' r3 (fun h => h); have t4 := R4.sm.cell' r4 (fun h => h); have t5 := R4.sm.cell' r5 (fun h => h); have t6 := R4.sm.cell' r6 (fun h => h); have t7 := R4.sm.cell' r7 (fun h => h); have t8 := R4.sm.cell' r8 (fun h => h))) | (go_simp; go_at_call 22; ((with_reducible refine (join_s _ _ _ _ _ _ M1 K3 M2 _ _ _ ((R2.bs.same R3.sm).same R4.sm) R4.bs (by omega) G2).mono ?_); rintro _ w5 ⟨A5, c5, rfl, R5⟩; have u0 := R5.sm.cell' t0 (fun h => h); have u1 := R5.sm.cell' t1 (fun h => h); have u2 := R5.sm.cell' t2 (fun h => h); have u3 := R5.sm.cell' t3 (fun h => h); have u4 := R5.sm.cell' t4 (fun h => h); have u5 := R5.sm.cell' t5 (fun h => h); have u6 := R5.sm.cell' t6 (fun h => h); have u7 := R5.sm.cell' t7 (fun h => h); have u8 := R5.sm.cell' t8 (fun h => h))))
      all_goals
        have HF := Lib.hid (fresh_since ((((s0.drew).trans R2.sm).trans R3.sm).trans R4.sm) R5)
        clear R2 R3 R4 R5
        go_wp2_with fail
        go_roundw
        case rel => exact ⟨k + 1, by go_num, by omega, A5, c5, by rw [← HQ.out], by rw [← HQ.out]; exact HF.out⟩
        case measure => simp [intOf]; omega
    · have hke : k = os.length := by omega
      subst hke
      rw [HL.out] at hR ⊢
      have HR := Lib.hid hR
      clear hR
      go_wp2_with fail
      go_ret
      exact ⟨_, _, rfl, HR.out⟩
end Go.Proofs.Ytdkankiohoocaaa
