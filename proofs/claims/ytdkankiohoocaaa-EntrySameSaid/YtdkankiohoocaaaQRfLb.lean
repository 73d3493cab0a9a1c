/- The walk of carrierref16.Decode: the kinds 3 4 5 6 9 10. -/
import Derived.Test.YtdkankiohoocaaaQRfK
namespace Go.Proofs.Ytdkankiohoocaaa
set_option linter.unusedSimpArgs false
set_option linter.unusedVariables false
open Go Go.RowKit Go.Proofs

set_option maxHeartbeats 6400000 in
set_option maxRecDepth 100000 in
theorem rdec_3 (v : Value) (F0 : Nat → Prop) (x : UInt8) (l : List UInt8) (w : World) (hx : (x.toNat : Int) = 3) (h : Bs w F0 v (x :: l)) (hl : l.length < 140737488355328) :
    Calls Try.prog 20 #[v] w (DecPost w (decOf (rdBody 3 (l, 0)))) := by
  obtain ⟨q1, H1⟩ : ∃ q, Hid (readText l 0 40 = q) := ⟨_, rfl⟩
  obtain ⟨q2, H2⟩ : ∃ q, Hid (wholeN q1.2 = q) := ⟨_, rfl⟩
  obtain ⟨A, cap, hv, hlc, hcm, -⟩ := id h
  have hmx : maxLen = 9223372036854775807 := by decide +kernel
  subst hv
  obtain ⟨-, b0, o0, x', hA, -, hx', hc⟩ := h.at_ (k := 0) (by simp)
  subst hA
  have hxx : x = x' := by simpa using hx'
  subst hxx
  have hcutb : Bs w F0 (.slice (some ⟨b0, o0 + 1, none⟩) l.length (cap - 1)) l := h.cut (k := 1) (l := x :: l) (by simp)
  simp only [List.length_cons] at hlc h ⊢
  have hl1 : ((l.length : Int) + 1 == 0) = false := by rw [beq_eq_false_iff_ne]; omega
  rw [hx, Nat.add_zero] at hc
  have hc1 := (Chg.alloc_ (fun _ => False) w (.cells (ent0 0) 35)).cell' hc (fun h => h)
  obtain ⟨n1, n2, -, hsW⟩ := two_new (Chg.refl (fun _ => False) ((w.alloc (.cells (ent0 0) 35)).alloc (.cells (ent0 3) 35)))
  have HN1 := Lib.hid n1
  have HN2 := Lib.hid n2
  have HSW := Lib.hid hsW
  clear n1 n2 hsW hx' hx
  go_enter Try.func20, Try.ntmps20
  go_upto_region 4 with fail
  have hE2 := HN2.out
  have hR2 := HN1.out
  have hS2 := HSW.out
  clear HN1 HN2 HSW hc hc1
  generalize (w.alloc (.cells (ent0 0) 35)).alloc (.cells (ent0 3) 35) = W2 at *
  obtain ⟨R, hR⟩ : ∃ R, w.heap.size = R := ⟨_, rfl⟩
  obtain ⟨E, hE⟩ : ∃ E, w.heap.size + 1 = E := ⟨_, rfl⟩
  rw [hR] at hR2
  rw [hE] at hE2
  rw [hE, hR]
  have hER : E = R + 1 := by omega
  have hwR : w.heap.size ≤ R := by omega
  clear hE hR
  have hE2l := lt_of_block hE2
  have hREl : R < E := by omega
  clear hER
  go_cut [5] (fun v wc => ∃ b A c, v = .pointer (some ⟨b, 0, none⟩) ∧ E < b ∧ LM w wc F0 b E A c (l, 0) 35 (ent0 3) (PR0 R))
  case first =>
    by_cases hcap : cap = 1
    · subst hcap
      have hl0 : l.length = 0 := by omega
      go_wp2_with fail
      go_meet
      case rel => exact ⟨W2.heap.size, some ⟨b0, o0, none⟩, 0, rfl, hE2l, by have hM := LM.start (A := some ⟨b0, o0, none⟩) (c := 0) (l := l) (F := F0) hS2 hE2 hR2 (by omega) (by omega) ⟨_, 0, rfl, by omega, by omega, fun h => by omega⟩ (by omega); rw [hl0] at hM; exact ⟨by have := hM.rd; simpa [hl0] using this, hM.bs, hM.el, hM.same, hM.old, hM.len, hM.ex, hM.kp⟩⟩
    · have hcap1 : ¬ cap - 1 = 0 := by omega
      go_wp2_with fail
      go_meet
      case rel => exact ⟨W2.heap.size, some ⟨b0, o0 + 1, none⟩, cap - 1, rfl, hE2l, LM.start hS2 hE2 hR2 (by omega) (by omega) (hcutb.old.same hS2) (by omega)⟩
  case rest =>
    obtain ⟨b, A0, c0, rfl, hEb, hM0⟩ := hcut
    have hRb : R < b := by omega
    have hRE : R ≠ E := by omega
    clear hE2 hR2 hS2 hE2l h hcutb hREl
    have hMb := hM0.old.2.2
    obtain ⟨b0', b1', g0, g1⟩ := hM0.rdc
    obtain ⟨k0, -⟩ := hM0.cell 0 _ rfl
    go_wp2_with fail
    refine (hM0.text 40 (by omega) (by omega) q1 H1).mono ?_
    rintro _ v1 ⟨A1, c1, rfl, hK1⟩
    clear b0' b1' g0 g1 k0 hM0
    obtain ⟨b0', b1', g0, g1⟩ := hK1.at_.rdc
    obtain ⟨k0, -⟩ := hK1.at_.cell 0 _ rfl
    obtain ⟨y0, y1⟩ := hK1.at_.cell 10 _ rfl
    have HM1 := Lib.hid (hK1.put' 10 (.string ⟨q1.1.toArray⟩))
    obtain ⟨y2, -⟩ := HM1.out.cell 0 _ rfl
    go_wp2_with fail
    refine (HM1.out.whole q2 H2).mono ?_
    rintro _ v2 ⟨A2, c2, rfl, hK2⟩
    clear b0' b1' g0 g1 k0 y0 y1 y2 hK1 HM1
    obtain ⟨b0', b1', g0, g1⟩ := hK2.at_.rdc
    obtain ⟨k0, -⟩ := hK2.at_.cell 0 _ rfl
    obtain ⟨y0, y1⟩ := hK2.at_.cell 11 _ rfl
    have HM2 := Lib.hid (hK2.put' 11 (.int .i64 (q2.1 : Int)))
    obtain ⟨y2, -⟩ := HM2.out.cell 0 _ rfl
    go_upto_region 44 with fail
    have hM9 : LM w _ F0 b E A2 c2 q2.2 35 #[.int .u8 3, .int .i64 0, .int .i64 0, .int .i64 0, .slice none 0 0, .slice none 0 0, .int .i64 0, .int .i64 0, .slice none 0 0, .int .i64 0, .string ⟨q1.1.toArray⟩, .int .i64 (q2.1 : Int), .int .i64 0] _ := HM2.out
    clear HM2 hK2 b0' b1' g0 g1 k0 y0 y1 y2
    generalize ((v2.setCell ⟨E, 11, none⟩ (.int .i64 (q2.1 : Int))).setCell ⟨b, 0, none⟩ (.slice A2 q2.2.1.length c2)).setCell ⟨b, 1, none⟩ (.int .i64 q2.2.2) = W9 at *
    obtain ⟨b0', b1', g0, g1⟩ := hM9.rdc
    go_wp2_with fail
    refine (pend_any _ _ q2.2.1 q2.2.2 _ hM9.bs).mono ?_
    rintro _ w10 ⟨rfl, hs10⟩
    have hM10 := hM9.keep hs10
    clear hM9 hs10 b0' b1' g0 g1
    obtain ⟨f, HF⟩ : ∃ f, Hid (endErr q2.2.1 q2.2.2 = f) := ⟨_, rfl⟩
    rw [HF.out]
    obtain ⟨e, HE⟩ : ∃ e : EntD, Hid ({ noEnt with kind := 3, name := ⟨q1.1.toArray⟩, n := q2.1 } = e) := ⟨_, rfl⟩
    have HR : Hid (rdBody 3 (l, 0) = some (e, q2.2)) := by
      show _ = _
      rw [← HE.out]
      have h1 := H1.out
      have h2 := H2.out
      subst h1
      subst h2
      rfl
    have hX10 : w10.heap[E]? = some (.cells #[.int .u8 e.kind, .int .i64 e.tx, .int .i64 e.next, .int .i64 e.nextID, .slice none 0 0, .slice none 0 0, .int .i64 e.tickN, .int .i64 e.max, .slice none 0 0, .int .i64 e.tickAt, .string e.name, .int .i64 e.n, .int .i64 e.at_] 35 (0, 0)) := by
      have h10 := hM10.el
      rw [← HE.out]
      exact h10
    have hES : f = 0 → EntS w10 (fun b' => b < b') e (.slice none 0 0) (.slice none 0 0) (.slice none 0 0) := fun hf => by
      have z9 : q2.2.2 = 0 := endErr_zero (HF.out.trans hf)
      rw [← HE.out]
      have z1 : q1.2.2 = 0 := (stepNum_zero H2 z9).1; exact ⟨Sl.nil_ _ _ _, Sl.nil_ _ _ _, Sl.nil_ _ _ _⟩
    obtain ⟨x0, x1, x2, x3, x4, x5, x6, x7, x8, x9, x10, x11, x12⟩ := ent_cells hX10
    obtain ⟨r0, r1, r2, r3, r4, r5, r6, r7, r8, r9, r10, r11, r12⟩ := ent_cells (show w10.heap[R]? = _ from hM10.ex)
    obtain ⟨f0, f1, f2, f3, f4, f5, f6, f7, f8, f9, f10, f11, f12⟩ := ent_free (show w10.heap[R]? = _ from hM10.ex)
    have HP := Lib.hid (hM10.same.since (putEnt_chg w10 R (.int .u8 e.kind) (.int .i64 e.tx) (.int .i64 e.next) (.int .i64 e.nextID) (.slice none 0 0) (.slice none 0 0) (.int .i64 e.tickN) (.int .i64 e.max) (.slice none 0 0) (.int .i64 e.tickAt) (.string e.name) (.int .i64 e.n) (.int .i64 e.at_)) (fun k hk => by omega))
    have HZ := Lib.hid (hM10.same.since (putEnt_chg w10 R (.int .u8 0) (.int .i64 0) (.int .i64 0) (.int .i64 0) (.slice none 0 0) (.slice none 0 0) (.int .i64 0) (.int .i64 0) (.slice none 0 0) (.int .i64 0) (.string ⟨#[]⟩) (.int .i64 0) (.int .i64 0)) (fun k hk => by omega))
    have HES := Lib.hid (fun hf => ((hES hf).keep (putEnt_chg w10 R (.int .u8 e.kind) (.int .i64 e.tx) (.int .i64 e.next) (.int .i64 e.nextID) (.slice none 0 0) (.slice none 0 0) (.int .i64 e.tickN) (.int .i64 e.max) (.slice none 0 0) (.int .i64 e.tickAt) (.string e.name) (.int .i64 e.n) (.int .i64 e.at_)) (fun b' hb => by have hb' : b < b' := hb; omega)))
    have hwb : w.heap.size ≤ b + 1 := by omega
    have HWB := Lib.hid hwb
    clear hM10 hES hX10 hwb hwR hRb hEb hMb hlc hcm hl HE
    by_cases hf : f = 0
    · have HD : Hid (decOf (rdBody 3 (l, 0)) = (e, 0)) := by show _ = _; rw [HR.out]; unfold decOf; simp only [HF.out, hf, if_true]
      have HES0 := Lib.hid (HES.out hf)
      subst hf
      clear HF HR HES
      go_wp2_with fail
      refine bodyPost_ret (v := (.tuple #[entV e (.slice none 0 0) (.slice none 0 0) (.slice none 0 0), .int .i64 0])) (by simp [results, Try.results20, go_sem, entV, entCells, noEnt, r0, r1, r2, r3, r4, r5, r6, r7, r8, r9, r10, r11, r12]) rfl ?_
      rw [HD.out]
      exact ⟨_, _, _, rfl, EntS.low (n := b + 1) HES0.out HWB.out, HP.out⟩
    · have HD : Hid (decOf (rdBody 3 (l, 0)) = (noEnt, f)) := by show _ = _; rw [HR.out]; unfold decOf; simp only [HF.out]; rw [if_neg hf]
      have hf1 : (f != 0) = true := by simp [hf]
      clear HF HR hf
      go_wp2_with fail
      refine bodyPost_ret (v := (.tuple #[entV noEnt (.slice none 0 0) (.slice none 0 0) (.slice none 0 0), .int .i64 f])) (by simp [results, Try.results20, go_sem, entV, entCells, noEnt, r0, r1, r2, r3, r4, r5, r6, r7, r8, r9, r10, r11, r12]) rfl ?_
      rw [HD.out]
      exact ⟨_, _, _, rfl, EntS.none_ _ _ rfl rfl rfl, HZ.out⟩

set_option maxHeartbeats 6400000 in
set_option maxRecDepth 100000 in
theorem rdec_4 (v : Value) (F0 : Nat → Prop) (x : UInt8) (l : List UInt8) (w : World) (hx : (x.toNat : Int) = 4) (h : Bs w F0 v (x :: l)) (hl : l.length < 140737488355328) :
    Calls Try.prog 20 #[v] w (DecPost w (decOf (rdBody 4 (l, 0)))) := by
  obtain ⟨q1, H1⟩ : ∃ q, Hid (readText l 0 40 = q) := ⟨_, rfl⟩
  obtain ⟨q2, H2⟩ : ∃ q, Hid (wholeN q1.2 = q) := ⟨_, rfl⟩
  obtain ⟨A, cap, hv, hlc, hcm, -⟩ := id h
  have hmx : maxLen = 9223372036854775807 := by decide +kernel
  subst hv
  obtain ⟨-, b0, o0, x', hA, -, hx', hc⟩ := h.at_ (k := 0) (by simp)
  subst hA
  have hxx : x = x' := by simpa using hx'
  subst hxx
  have hcutb : Bs w F0 (.slice (some ⟨b0, o0 + 1, none⟩) l.length (cap - 1)) l := h.cut (k := 1) (l := x :: l) (by simp)
  simp only [List.length_cons] at hlc h ⊢
  have hl1 : ((l.length : Int) + 1 == 0) = false := by rw [beq_eq_false_iff_ne]; omega
  rw [hx, Nat.add_zero] at hc
  have hc1 := (Chg.alloc_ (fun _ => False) w (.cells (ent0 0) 35)).cell' hc (fun h => h)
  obtain ⟨n1, n2, -, hsW⟩ := two_new (Chg.refl (fun _ => False) ((w.alloc (.cells (ent0 0) 35)).alloc (.cells (ent0 4) 35)))
  have HN1 := Lib.hid n1
  have HN2 := Lib.hid n2
  have HSW := Lib.hid hsW
  clear n1 n2 hsW hx' hx
  go_enter Try.func20, Try.ntmps20
  go_upto_region 4 with fail
  have hE2 := HN2.out
  have hR2 := HN1.out
  have hS2 := HSW.out
  clear HN1 HN2 HSW hc hc1
  generalize (w.alloc (.cells (ent0 0) 35)).alloc (.cells (ent0 4) 35) = W2 at *
  obtain ⟨R, hR⟩ : ∃ R, w.heap.size = R := ⟨_, rfl⟩
  obtain ⟨E, hE⟩ : ∃ E, w.heap.size + 1 = E := ⟨_, rfl⟩
  rw [hR] at hR2
  rw [hE] at hE2
  rw [hE, hR]
  have hER : E = R + 1 := by omega
  have hwR : w.heap.size ≤ R := by omega
  clear hE hR
  have hE2l := lt_of_block hE2
  have hREl : R < E := by omega
  clear hER
  go_cut [5] (fun v wc => ∃ b A c, v = .pointer (some ⟨b, 0, none⟩) ∧ E < b ∧ LM w wc F0 b E A c (l, 0) 35 (ent0 4) (PR0 R))
  case first =>
    by_cases hcap : cap = 1
    · subst hcap
      have hl0 : l.length = 0 := by omega
      go_wp2_with fail
      go_meet
      case rel => exact ⟨W2.heap.size, some ⟨b0, o0, none⟩, 0, rfl, hE2l, by have hM := LM.start (A := some ⟨b0, o0, none⟩) (c := 0) (l := l) (F := F0) hS2 hE2 hR2 (by omega) (by omega) ⟨_, 0, rfl, by omega, by omega, fun h => by omega⟩ (by omega); rw [hl0] at hM; exact ⟨by have := hM.rd; simpa [hl0] using this, hM.bs, hM.el, hM.same, hM.old, hM.len, hM.ex, hM.kp⟩⟩
    · have hcap1 : ¬ cap - 1 = 0 := by omega
      go_wp2_with fail
      go_meet
      case rel => exact ⟨W2.heap.size, some ⟨b0, o0 + 1, none⟩, cap - 1, rfl, hE2l, LM.start hS2 hE2 hR2 (by omega) (by omega) (hcutb.old.same hS2) (by omega)⟩
  case rest =>
    obtain ⟨b, A0, c0, rfl, hEb, hM0⟩ := hcut
    have hRb : R < b := by omega
    have hRE : R ≠ E := by omega
    clear hE2 hR2 hS2 hE2l h hcutb hREl
    have hMb := hM0.old.2.2
    obtain ⟨b0', b1', g0, g1⟩ := hM0.rdc
    obtain ⟨k0, -⟩ := hM0.cell 0 _ rfl
    go_wp2_with fail
    refine (hM0.text 40 (by omega) (by omega) q1 H1).mono ?_
    rintro _ v1 ⟨A1, c1, rfl, hK1⟩
    clear b0' b1' g0 g1 k0 hM0
    obtain ⟨b0', b1', g0, g1⟩ := hK1.at_.rdc
    obtain ⟨k0, -⟩ := hK1.at_.cell 0 _ rfl
    obtain ⟨y0, y1⟩ := hK1.at_.cell 10 _ rfl
    have HM1 := Lib.hid (hK1.put' 10 (.string ⟨q1.1.toArray⟩))
    obtain ⟨y2, -⟩ := HM1.out.cell 0 _ rfl
    go_wp2_with fail
    refine (HM1.out.whole q2 H2).mono ?_
    rintro _ v2 ⟨A2, c2, rfl, hK2⟩
    clear b0' b1' g0 g1 k0 y0 y1 y2 hK1 HM1
    obtain ⟨b0', b1', g0, g1⟩ := hK2.at_.rdc
    obtain ⟨k0, -⟩ := hK2.at_.cell 0 _ rfl
    obtain ⟨y0, y1⟩ := hK2.at_.cell 11 _ rfl
    have HM2 := Lib.hid (hK2.put' 11 (.int .i64 (q2.1 : Int)))
    obtain ⟨y2, -⟩ := HM2.out.cell 0 _ rfl
    go_upto_region 44 with fail
    have hM9 : LM w _ F0 b E A2 c2 q2.2 35 #[.int .u8 4, .int .i64 0, .int .i64 0, .int .i64 0, .slice none 0 0, .slice none 0 0, .int .i64 0, .int .i64 0, .slice none 0 0, .int .i64 0, .string ⟨q1.1.toArray⟩, .int .i64 (q2.1 : Int), .int .i64 0] _ := HM2.out
    clear HM2 hK2 b0' b1' g0 g1 k0 y0 y1 y2
    generalize ((v2.setCell ⟨E, 11, none⟩ (.int .i64 (q2.1 : Int))).setCell ⟨b, 0, none⟩ (.slice A2 q2.2.1.length c2)).setCell ⟨b, 1, none⟩ (.int .i64 q2.2.2) = W9 at *
    obtain ⟨b0', b1', g0, g1⟩ := hM9.rdc
    go_wp2_with fail
    refine (pend_any _ _ q2.2.1 q2.2.2 _ hM9.bs).mono ?_
    rintro _ w10 ⟨rfl, hs10⟩
    have hM10 := hM9.keep hs10
    clear hM9 hs10 b0' b1' g0 g1
    obtain ⟨f, HF⟩ : ∃ f, Hid (endErr q2.2.1 q2.2.2 = f) := ⟨_, rfl⟩
    rw [HF.out]
    obtain ⟨e, HE⟩ : ∃ e : EntD, Hid ({ noEnt with kind := 4, name := ⟨q1.1.toArray⟩, n := q2.1 } = e) := ⟨_, rfl⟩
    have HR : Hid (rdBody 4 (l, 0) = some (e, q2.2)) := by
      show _ = _
      rw [← HE.out]
      have h1 := H1.out
      have h2 := H2.out
      subst h1
      subst h2
      rfl
    have hX10 : w10.heap[E]? = some (.cells #[.int .u8 e.kind, .int .i64 e.tx, .int .i64 e.next, .int .i64 e.nextID, .slice none 0 0, .slice none 0 0, .int .i64 e.tickN, .int .i64 e.max, .slice none 0 0, .int .i64 e.tickAt, .string e.name, .int .i64 e.n, .int .i64 e.at_] 35 (0, 0)) := by
      have h10 := hM10.el
      rw [← HE.out]
      exact h10
    have hES : f = 0 → EntS w10 (fun b' => b < b') e (.slice none 0 0) (.slice none 0 0) (.slice none 0 0) := fun hf => by
      have z9 : q2.2.2 = 0 := endErr_zero (HF.out.trans hf)
      rw [← HE.out]
      have z1 : q1.2.2 = 0 := (stepNum_zero H2 z9).1; exact ⟨Sl.nil_ _ _ _, Sl.nil_ _ _ _, Sl.nil_ _ _ _⟩
    obtain ⟨x0, x1, x2, x3, x4, x5, x6, x7, x8, x9, x10, x11, x12⟩ := ent_cells hX10
    obtain ⟨r0, r1, r2, r3, r4, r5, r6, r7, r8, r9, r10, r11, r12⟩ := ent_cells (show w10.heap[R]? = _ from hM10.ex)
    obtain ⟨f0, f1, f2, f3, f4, f5, f6, f7, f8, f9, f10, f11, f12⟩ := ent_free (show w10.heap[R]? = _ from hM10.ex)
    have HP := Lib.hid (hM10.same.since (putEnt_chg w10 R (.int .u8 e.kind) (.int .i64 e.tx) (.int .i64 e.next) (.int .i64 e.nextID) (.slice none 0 0) (.slice none 0 0) (.int .i64 e.tickN) (.int .i64 e.max) (.slice none 0 0) (.int .i64 e.tickAt) (.string e.name) (.int .i64 e.n) (.int .i64 e.at_)) (fun k hk => by omega))
    have HZ := Lib.hid (hM10.same.since (putEnt_chg w10 R (.int .u8 0) (.int .i64 0) (.int .i64 0) (.int .i64 0) (.slice none 0 0) (.slice none 0 0) (.int .i64 0) (.int .i64 0) (.slice none 0 0) (.int .i64 0) (.string ⟨#[]⟩) (.int .i64 0) (.int .i64 0)) (fun k hk => by omega))
    have HES := Lib.hid (fun hf => ((hES hf).keep (putEnt_chg w10 R (.int .u8 e.kind) (.int .i64 e.tx) (.int .i64 e.next) (.int .i64 e.nextID) (.slice none 0 0) (.slice none 0 0) (.int .i64 e.tickN) (.int .i64 e.max) (.slice none 0 0) (.int .i64 e.tickAt) (.string e.name) (.int .i64 e.n) (.int .i64 e.at_)) (fun b' hb => by have hb' : b < b' := hb; omega)))
    have hwb : w.heap.size ≤ b + 1 := by omega
    have HWB := Lib.hid hwb
    clear hM10 hES hX10 hwb hwR hRb hEb hMb hlc hcm hl HE
    by_cases hf : f = 0
    · have HD : Hid (decOf (rdBody 4 (l, 0)) = (e, 0)) := by show _ = _; rw [HR.out]; unfold decOf; simp only [HF.out, hf, if_true]
      have HES0 := Lib.hid (HES.out hf)
      subst hf
      clear HF HR HES
      go_wp2_with fail
      refine bodyPost_ret (v := (.tuple #[entV e (.slice none 0 0) (.slice none 0 0) (.slice none 0 0), .int .i64 0])) (by simp [results, Try.results20, go_sem, entV, entCells, noEnt, r0, r1, r2, r3, r4, r5, r6, r7, r8, r9, r10, r11, r12]) rfl ?_
      rw [HD.out]
      exact ⟨_, _, _, rfl, EntS.low (n := b + 1) HES0.out HWB.out, HP.out⟩
    · have HD : Hid (decOf (rdBody 4 (l, 0)) = (noEnt, f)) := by show _ = _; rw [HR.out]; unfold decOf; simp only [HF.out]; rw [if_neg hf]
      have hf1 : (f != 0) = true := by simp [hf]
      clear HF HR hf
      go_wp2_with fail
      refine bodyPost_ret (v := (.tuple #[entV noEnt (.slice none 0 0) (.slice none 0 0) (.slice none 0 0), .int .i64 f])) (by simp [results, Try.results20, go_sem, entV, entCells, noEnt, r0, r1, r2, r3, r4, r5, r6, r7, r8, r9, r10, r11, r12]) rfl ?_
      rw [HD.out]
      exact ⟨_, _, _, rfl, EntS.none_ _ _ rfl rfl rfl, HZ.out⟩

set_option maxHeartbeats 6400000 in
set_option maxRecDepth 100000 in
theorem rdec_5 (v : Value) (F0 : Nat → Prop) (x : UInt8) (l : List UInt8) (w : World) (hx : (x.toNat : Int) = 5) (h : Bs w F0 v (x :: l)) (hl : l.length < 140737488355328) :
    Calls Try.prog 20 #[v] w (DecPost w (decOf (rdBody 5 (l, 0)))) := by
  obtain ⟨q1, H1⟩ : ∃ q, Hid (readText l 0 40 = q) := ⟨_, rfl⟩
  obtain ⟨q2, H2⟩ : ∃ q, Hid (wholeN q1.2 = q) := ⟨_, rfl⟩
  obtain ⟨A, cap, hv, hlc, hcm, -⟩ := id h
  have hmx : maxLen = 9223372036854775807 := by decide +kernel
  subst hv
  obtain ⟨-, b0, o0, x', hA, -, hx', hc⟩ := h.at_ (k := 0) (by simp)
  subst hA
  have hxx : x = x' := by simpa using hx'
  subst hxx
  have hcutb : Bs w F0 (.slice (some ⟨b0, o0 + 1, none⟩) l.length (cap - 1)) l := h.cut (k := 1) (l := x :: l) (by simp)
  simp only [List.length_cons] at hlc h ⊢
  have hl1 : ((l.length : Int) + 1 == 0) = false := by rw [beq_eq_false_iff_ne]; omega
  rw [hx, Nat.add_zero] at hc
  have hc1 := (Chg.alloc_ (fun _ => False) w (.cells (ent0 0) 35)).cell' hc (fun h => h)
  obtain ⟨n1, n2, -, hsW⟩ := two_new (Chg.refl (fun _ => False) ((w.alloc (.cells (ent0 0) 35)).alloc (.cells (ent0 5) 35)))
  have HN1 := Lib.hid n1
  have HN2 := Lib.hid n2
  have HSW := Lib.hid hsW
  clear n1 n2 hsW hx' hx
  go_enter Try.func20, Try.ntmps20
  go_upto_region 4 with fail
  have hE2 := HN2.out
  have hR2 := HN1.out
  have hS2 := HSW.out
  clear HN1 HN2 HSW hc hc1
  generalize (w.alloc (.cells (ent0 0) 35)).alloc (.cells (ent0 5) 35) = W2 at *
  obtain ⟨R, hR⟩ : ∃ R, w.heap.size = R := ⟨_, rfl⟩
  obtain ⟨E, hE⟩ : ∃ E, w.heap.size + 1 = E := ⟨_, rfl⟩
  rw [hR] at hR2
  rw [hE] at hE2
  rw [hE, hR]
  have hER : E = R + 1 := by omega
  have hwR : w.heap.size ≤ R := by omega
  clear hE hR
  have hE2l := lt_of_block hE2
  have hREl : R < E := by omega
  clear hER
  go_cut [5] (fun v wc => ∃ b A c, v = .pointer (some ⟨b, 0, none⟩) ∧ E < b ∧ LM w wc F0 b E A c (l, 0) 35 (ent0 5) (PR0 R))
  case first =>
    by_cases hcap : cap = 1
    · subst hcap
      have hl0 : l.length = 0 := by omega
      go_wp2_with fail
      go_meet
      case rel => exact ⟨W2.heap.size, some ⟨b0, o0, none⟩, 0, rfl, hE2l, by have hM := LM.start (A := some ⟨b0, o0, none⟩) (c := 0) (l := l) (F := F0) hS2 hE2 hR2 (by omega) (by omega) ⟨_, 0, rfl, by omega, by omega, fun h => by omega⟩ (by omega); rw [hl0] at hM; exact ⟨by have := hM.rd; simpa [hl0] using this, hM.bs, hM.el, hM.same, hM.old, hM.len, hM.ex, hM.kp⟩⟩
    · have hcap1 : ¬ cap - 1 = 0 := by omega
      go_wp2_with fail
      go_meet
      case rel => exact ⟨W2.heap.size, some ⟨b0, o0 + 1, none⟩, cap - 1, rfl, hE2l, LM.start hS2 hE2 hR2 (by omega) (by omega) (hcutb.old.same hS2) (by omega)⟩
  case rest =>
    obtain ⟨b, A0, c0, rfl, hEb, hM0⟩ := hcut
    have hRb : R < b := by omega
    have hRE : R ≠ E := by omega
    clear hE2 hR2 hS2 hE2l h hcutb hREl
    have hMb := hM0.old.2.2
    obtain ⟨b0', b1', g0, g1⟩ := hM0.rdc
    obtain ⟨k0, -⟩ := hM0.cell 0 _ rfl
    go_wp2_with fail
    refine (hM0.text 40 (by omega) (by omega) q1 H1).mono ?_
    rintro _ v1 ⟨A1, c1, rfl, hK1⟩
    clear b0' b1' g0 g1 k0 hM0
    obtain ⟨b0', b1', g0, g1⟩ := hK1.at_.rdc
    obtain ⟨k0, -⟩ := hK1.at_.cell 0 _ rfl
    obtain ⟨y0, y1⟩ := hK1.at_.cell 10 _ rfl
    have HM1 := Lib.hid (hK1.put' 10 (.string ⟨q1.1.toArray⟩))
    obtain ⟨y2, -⟩ := HM1.out.cell 0 _ rfl
    go_wp2_with fail
    refine (HM1.out.whole q2 H2).mono ?_
    rintro _ v2 ⟨A2, c2, rfl, hK2⟩
    clear b0' b1' g0 g1 k0 y0 y1 y2 hK1 HM1
    obtain ⟨b0', b1', g0, g1⟩ := hK2.at_.rdc
    obtain ⟨k0, -⟩ := hK2.at_.cell 0 _ rfl
    obtain ⟨y0, y1⟩ := hK2.at_.cell 11 _ rfl
    have HM2 := Lib.hid (hK2.put' 11 (.int .i64 (q2.1 : Int)))
    obtain ⟨y2, -⟩ := HM2.out.cell 0 _ rfl
    go_upto_region 44 with fail
    have hM9 : LM w _ F0 b E A2 c2 q2.2 35 #[.int .u8 5, .int .i64 0, .int .i64 0, .int .i64 0, .slice none 0 0, .slice none 0 0, .int .i64 0, .int .i64 0, .slice none 0 0, .int .i64 0, .string ⟨q1.1.toArray⟩, .int .i64 (q2.1 : Int), .int .i64 0] _ := HM2.out
    clear HM2 hK2 b0' b1' g0 g1 k0 y0 y1 y2
    generalize ((v2.setCell ⟨E, 11, none⟩ (.int .i64 (q2.1 : Int))).setCell ⟨b, 0, none⟩ (.slice A2 q2.2.1.length c2)).setCell ⟨b, 1, none⟩ (.int .i64 q2.2.2) = W9 at *
    obtain ⟨b0', b1', g0, g1⟩ := hM9.rdc
    go_wp2_with fail
    refine (pend_any _ _ q2.2.1 q2.2.2 _ hM9.bs).mono ?_
    rintro _ w10 ⟨rfl, hs10⟩
    have hM10 := hM9.keep hs10
    clear hM9 hs10 b0' b1' g0 g1
    obtain ⟨f, HF⟩ : ∃ f, Hid (endErr q2.2.1 q2.2.2 = f) := ⟨_, rfl⟩
    rw [HF.out]
    obtain ⟨e, HE⟩ : ∃ e : EntD, Hid ({ noEnt with kind := 5, name := ⟨q1.1.toArray⟩, n := q2.1 } = e) := ⟨_, rfl⟩
    have HR : Hid (rdBody 5 (l, 0) = some (e, q2.2)) := by
      show _ = _
      rw [← HE.out]
      have h1 := H1.out
      have h2 := H2.out
      subst h1
      subst h2
      rfl
    have hX10 : w10.heap[E]? = some (.cells #[.int .u8 e.kind, .int .i64 e.tx, .int .i64 e.next, .int .i64 e.nextID, .slice none 0 0, .slice none 0 0, .int .i64 e.tickN, .int .i64 e.max, .slice none 0 0, .int .i64 e.tickAt, .string e.name, .int .i64 e.n, .int .i64 e.at_] 35 (0, 0)) := by
      have h10 := hM10.el
      rw [← HE.out]
      exact h10
    have hES : f = 0 → EntS w10 (fun b' => b < b') e (.slice none 0 0) (.slice none 0 0) (.slice none 0 0) := fun hf => by
      have z9 : q2.2.2 = 0 := endErr_zero (HF.out.trans hf)
      rw [← HE.out]
      have z1 : q1.2.2 = 0 := (stepNum_zero H2 z9).1; exact ⟨Sl.nil_ _ _ _, Sl.nil_ _ _ _, Sl.nil_ _ _ _⟩
    obtain ⟨x0, x1, x2, x3, x4, x5, x6, x7, x8, x9, x10, x11, x12⟩ := ent_cells hX10
    obtain ⟨r0, r1, r2, r3, r4, r5, r6, r7, r8, r9, r10, r11, r12⟩ := ent_cells (show w10.heap[R]? = _ from hM10.ex)
    obtain ⟨f0, f1, f2, f3, f4, f5, f6, f7, f8, f9, f10, f11, f12⟩ := ent_free (show w10.heap[R]? = _ from hM10.ex)
    have HP := Lib.hid (hM10.same.since (putEnt_chg w10 R (.int .u8 e.kind) (.int .i64 e.tx) (.int .i64 e.next) (.int .i64 e.nextID) (.slice none 0 0) (.slice none 0 0) (.int .i64 e.tickN) (.int .i64 e.max) (.slice none 0 0) (.int .i64 e.tickAt) (.string e.name) (.int .i64 e.n) (.int .i64 e.at_)) (fun k hk => by omega))
    have HZ := Lib.hid (hM10.same.since (putEnt_chg w10 R (.int .u8 0) (.int .i64 0) (.int .i64 0) (.int .i64 0) (.slice none 0 0) (.slice none 0 0) (.int .i64 0) (.int .i64 0) (.slice none 0 0) (.int .i64 0) (.string ⟨#[]⟩) (.int .i64 0) (.int .i64 0)) (fun k hk => by omega))
    have HES := Lib.hid (fun hf => ((hES hf).keep (putEnt_chg w10 R (.int .u8 e.kind) (.int .i64 e.tx) (.int .i64 e.next) (.int .i64 e.nextID) (.slice none 0 0) (.slice none 0 0) (.int .i64 e.tickN) (.int .i64 e.max) (.slice none 0 0) (.int .i64 e.tickAt) (.string e.name) (.int .i64 e.n) (.int .i64 e.at_)) (fun b' hb => by have hb' : b < b' := hb; omega)))
    have hwb : w.heap.size ≤ b + 1 := by omega
    have HWB := Lib.hid hwb
    clear hM10 hES hX10 hwb hwR hRb hEb hMb hlc hcm hl HE
    by_cases hf : f = 0
    · have HD : Hid (decOf (rdBody 5 (l, 0)) = (e, 0)) := by show _ = _; rw [HR.out]; unfold decOf; simp only [HF.out, hf, if_true]
      have HES0 := Lib.hid (HES.out hf)
      subst hf
      clear HF HR HES
      go_wp2_with fail
      refine bodyPost_ret (v := (.tuple #[entV e (.slice none 0 0) (.slice none 0 0) (.slice none 0 0), .int .i64 0])) (by simp [results, Try.results20, go_sem, entV, entCells, noEnt, r0, r1, r2, r3, r4, r5, r6, r7, r8, r9, r10, r11, r12]) rfl ?_
      rw [HD.out]
      exact ⟨_, _, _, rfl, EntS.low (n := b + 1) HES0.out HWB.out, HP.out⟩
    · have HD : Hid (decOf (rdBody 5 (l, 0)) = (noEnt, f)) := by show _ = _; rw [HR.out]; unfold decOf; simp only [HF.out]; rw [if_neg hf]
      have hf1 : (f != 0) = true := by simp [hf]
      clear HF HR hf
      go_wp2_with fail
      refine bodyPost_ret (v := (.tuple #[entV noEnt (.slice none 0 0) (.slice none 0 0) (.slice none 0 0), .int .i64 f])) (by simp [results, Try.results20, go_sem, entV, entCells, noEnt, r0, r1, r2, r3, r4, r5, r6, r7, r8, r9, r10, r11, r12]) rfl ?_
      rw [HD.out]
      exact ⟨_, _, _, rfl, EntS.none_ _ _ rfl rfl rfl, HZ.out⟩

set_option maxHeartbeats 6400000 in
set_option maxRecDepth 100000 in
theorem rdec_6 (v : Value) (F0 : Nat → Prop) (x : UInt8) (l : List UInt8) (w : World) (hx : (x.toNat : Int) = 6) (h : Bs w F0 v (x :: l)) (hl : l.length < 140737488355328) :
    Calls Try.prog 20 #[v] w (DecPost w (decOf (rdBody 6 (l, 0)))) := by
  obtain ⟨q1, H1⟩ : ∃ q, Hid (readText l 0 40 = q) := ⟨_, rfl⟩
  obtain ⟨q2, H2⟩ : ∃ q, Hid (wholeN q1.2 = q) := ⟨_, rfl⟩
  obtain ⟨A, cap, hv, hlc, hcm, -⟩ := id h
  have hmx : maxLen = 9223372036854775807 := by decide +kernel
  subst hv
  obtain ⟨-, b0, o0, x', hA, -, hx', hc⟩ := h.at_ (k := 0) (by simp)
  subst hA
  have hxx : x = x' := by simpa using hx'
  subst hxx
  have hcutb : Bs w F0 (.slice (some ⟨b0, o0 + 1, none⟩) l.length (cap - 1)) l := h.cut (k := 1) (l := x :: l) (by simp)
  simp only [List.length_cons] at hlc h ⊢
  have hl1 : ((l.length : Int) + 1 == 0) = false := by rw [beq_eq_false_iff_ne]; omega
  rw [hx, Nat.add_zero] at hc
  have hc1 := (Chg.alloc_ (fun _ => False) w (.cells (ent0 0) 35)).cell' hc (fun h => h)
  obtain ⟨n1, n2, -, hsW⟩ := two_new (Chg.refl (fun _ => False) ((w.alloc (.cells (ent0 0) 35)).alloc (.cells (ent0 6) 35)))
  have HN1 := Lib.hid n1
  have HN2 := Lib.hid n2
  have HSW := Lib.hid hsW
  clear n1 n2 hsW hx' hx
  go_enter Try.func20, Try.ntmps20
  go_upto_region 4 with fail
  have hE2 := HN2.out
  have hR2 := HN1.out
  have hS2 := HSW.out
  clear HN1 HN2 HSW hc hc1
  generalize (w.alloc (.cells (ent0 0) 35)).alloc (.cells (ent0 6) 35) = W2 at *
  obtain ⟨R, hR⟩ : ∃ R, w.heap.size = R := ⟨_, rfl⟩
  obtain ⟨E, hE⟩ : ∃ E, w.heap.size + 1 = E := ⟨_, rfl⟩
  rw [hR] at hR2
  rw [hE] at hE2
  rw [hE, hR]
  have hER : E = R + 1 := by omega
  have hwR : w.heap.size ≤ R := by omega
  clear hE hR
  have hE2l := lt_of_block hE2
  have hREl : R < E := by omega
  clear hER
  go_cut [5] (fun v wc => ∃ b A c, v = .pointer (some ⟨b, 0, none⟩) ∧ E < b ∧ LM w wc F0 b E A c (l, 0) 35 (ent0 6) (PR0 R))
  case first =>
    by_cases hcap : cap = 1
    · subst hcap
      have hl0 : l.length = 0 := by omega
      go_wp2_with fail
      go_meet
      case rel => exact ⟨W2.heap.size, some ⟨b0, o0, none⟩, 0, rfl, hE2l, by have hM := LM.start (A := some ⟨b0, o0, none⟩) (c := 0) (l := l) (F := F0) hS2 hE2 hR2 (by omega) (by omega) ⟨_, 0, rfl, by omega, by omega, fun h => by omega⟩ (by omega); rw [hl0] at hM; exact ⟨by have := hM.rd; simpa [hl0] using this, hM.bs, hM.el, hM.same, hM.old, hM.len, hM.ex, hM.kp⟩⟩
    · have hcap1 : ¬ cap - 1 = 0 := by omega
      go_wp2_with fail
      go_meet
      case rel => exact ⟨W2.heap.size, some ⟨b0, o0 + 1, none⟩, cap - 1, rfl, hE2l, LM.start hS2 hE2 hR2 (by omega) (by omega) (hcutb.old.same hS2) (by omega)⟩
  case rest =>
    obtain ⟨b, A0, c0, rfl, hEb, hM0⟩ := hcut
    have hRb : R < b := by omega
    have hRE : R ≠ E := by omega
    clear hE2 hR2 hS2 hE2l h hcutb hREl
    have hMb := hM0.old.2.2
    obtain ⟨b0', b1', g0, g1⟩ := hM0.rdc
    obtain ⟨k0, -⟩ := hM0.cell 0 _ rfl
    go_wp2_with fail
    refine (hM0.text 40 (by omega) (by omega) q1 H1).mono ?_
    rintro _ v1 ⟨A1, c1, rfl, hK1⟩
    clear b0' b1' g0 g1 k0 hM0
    obtain ⟨b0', b1', g0, g1⟩ := hK1.at_.rdc
    obtain ⟨k0, -⟩ := hK1.at_.cell 0 _ rfl
    obtain ⟨y0, y1⟩ := hK1.at_.cell 10 _ rfl
    have HM1 := Lib.hid (hK1.put' 10 (.string ⟨q1.1.toArray⟩))
    obtain ⟨y2, -⟩ := HM1.out.cell 0 _ rfl
    go_wp2_with fail
    refine (HM1.out.whole q2 H2).mono ?_
    rintro _ v2 ⟨A2, c2, rfl, hK2⟩
    clear b0' b1' g0 g1 k0 y0 y1 y2 hK1 HM1
    obtain ⟨b0', b1', g0, g1⟩ := hK2.at_.rdc
    obtain ⟨k0, -⟩ := hK2.at_.cell 0 _ rfl
    obtain ⟨y0, y1⟩ := hK2.at_.cell 11 _ rfl
    have HM2 := Lib.hid (hK2.put' 11 (.int .i64 (q2.1 : Int)))
    obtain ⟨y2, -⟩ := HM2.out.cell 0 _ rfl
    go_upto_region 44 with fail
    have hM9 : LM w _ F0 b E A2 c2 q2.2 35 #[.int .u8 6, .int .i64 0, .int .i64 0, .int .i64 0, .slice none 0 0, .slice none 0 0, .int .i64 0, .int .i64 0, .slice none 0 0, .int .i64 0, .string ⟨q1.1.toArray⟩, .int .i64 (q2.1 : Int), .int .i64 0] _ := HM2.out
    clear HM2 hK2 b0' b1' g0 g1 k0 y0 y1 y2
    generalize ((v2.setCell ⟨E, 11, none⟩ (.int .i64 (q2.1 : Int))).setCell ⟨b, 0, none⟩ (.slice A2 q2.2.1.length c2)).setCell ⟨b, 1, none⟩ (.int .i64 q2.2.2) = W9 at *
    obtain ⟨b0', b1', g0, g1⟩ := hM9.rdc
    go_wp2_with fail
    refine (pend_any _ _ q2.2.1 q2.2.2 _ hM9.bs).mono ?_
    rintro _ w10 ⟨rfl, hs10⟩
    have hM10 := hM9.keep hs10
    clear hM9 hs10 b0' b1' g0 g1
    obtain ⟨f, HF⟩ : ∃ f, Hid (endErr q2.2.1 q2.2.2 = f) := ⟨_, rfl⟩
    rw [HF.out]
    obtain ⟨e, HE⟩ : ∃ e : EntD, Hid ({ noEnt with kind := 6, name := ⟨q1.1.toArray⟩, n := q2.1 } = e) := ⟨_, rfl⟩
    have HR : Hid (rdBody 6 (l, 0) = some (e, q2.2)) := by
      show _ = _
      rw [← HE.out]
      have h1 := H1.out
      have h2 := H2.out
      subst h1
      subst h2
      rfl
    have hX10 : w10.heap[E]? = some (.cells #[.int .u8 e.kind, .int .i64 e.tx, .int .i64 e.next, .int .i64 e.nextID, .slice none 0 0, .slice none 0 0, .int .i64 e.tickN, .int .i64 e.max, .slice none 0 0, .int .i64 e.tickAt, .string e.name, .int .i64 e.n, .int .i64 e.at_] 35 (0, 0)) := by
      have h10 := hM10.el
      rw [← HE.out]
      exact h10
    have hES : f = 0 → EntS w10 (fun b' => b < b') e (.slice none 0 0) (.slice none 0 0) (.slice none 0 0) := fun hf => by
      have z9 : q2.2.2 = 0 := endErr_zero (HF.out.trans hf)
      rw [← HE.out]
      have z1 : q1.2.2 = 0 := (stepNum_zero H2 z9).1; exact ⟨Sl.nil_ _ _ _, Sl.nil_ _ _ _, Sl.nil_ _ _ _⟩
    obtain ⟨x0, x1, x2, x3, x4, x5, x6, x7, x8, x9, x10, x11, x12⟩ := ent_cells hX10
    obtain ⟨r0, r1, r2, r3, r4, r5, r6, r7, r8, r9, r10, r11, r12⟩ := ent_cells (show w10.heap[R]? = _ from hM10.ex)
    obtain ⟨f0, f1, f2, f3, f4, f5, f6, f7, f8, f9, f10, f11, f12⟩ := ent_free (show w10.heap[R]? = _ from hM10.ex)
    have HP := Lib.hid (hM10.same.since (putEnt_chg w10 R (.int .u8 e.kind) (.int .i64 e.tx) (.int .i64 e.next) (.int .i64 e.nextID) (.slice none 0 0) (.slice none 0 0) (.int .i64 e.tickN) (.int .i64 e.max) (.slice none 0 0) (.int .i64 e.tickAt) (.string e.name) (.int .i64 e.n) (.int .i64 e.at_)) (fun k hk => by omega))
    have HZ := Lib.hid (hM10.same.since (putEnt_chg w10 R (.int .u8 0) (.int .i64 0) (.int .i64 0) (.int .i64 0) (.slice none 0 0) (.slice none 0 0) (.int .i64 0) (.int .i64 0) (.slice none 0 0) (.int .i64 0) (.string ⟨#[]⟩) (.int .i64 0) (.int .i64 0)) (fun k hk => by omega))
    have HES := Lib.hid (fun hf => ((hES hf).keep (putEnt_chg w10 R (.int .u8 e.kind) (.int .i64 e.tx) (.int .i64 e.next) (.int .i64 e.nextID) (.slice none 0 0) (.slice none 0 0) (.int .i64 e.tickN) (.int .i64 e.max) (.slice none 0 0) (.int .i64 e.tickAt) (.string e.name) (.int .i64 e.n) (.int .i64 e.at_)) (fun b' hb => by have hb' : b < b' := hb; omega)))
    have hwb : w.heap.size ≤ b + 1 := by omega
    have HWB := Lib.hid hwb
    clear hM10 hES hX10 hwb hwR hRb hEb hMb hlc hcm hl HE
    by_cases hf : f = 0
    · have HD : Hid (decOf (rdBody 6 (l, 0)) = (e, 0)) := by show _ = _; rw [HR.out]; unfold decOf; simp only [HF.out, hf, if_true]
      have HES0 := Lib.hid (HES.out hf)
      subst hf
      clear HF HR HES
      go_wp2_with fail
      refine bodyPost_ret (v := (.tuple #[entV e (.slice none 0 0) (.slice none 0 0) (.slice none 0 0), .int .i64 0])) (by simp [results, Try.results20, go_sem, entV, entCells, noEnt, r0, r1, r2, r3, r4, r5, r6, r7, r8, r9, r10, r11, r12]) rfl ?_
      rw [HD.out]
      exact ⟨_, _, _, rfl, EntS.low (n := b + 1) HES0.out HWB.out, HP.out⟩
    · have HD : Hid (decOf (rdBody 6 (l, 0)) = (noEnt, f)) := by show _ = _; rw [HR.out]; unfold decOf; simp only [HF.out]; rw [if_neg hf]
      have hf1 : (f != 0) = true := by simp [hf]
      clear HF HR hf
      go_wp2_with fail
      refine bodyPost_ret (v := (.tuple #[entV noEnt (.slice none 0 0) (.slice none 0 0) (.slice none 0 0), .int .i64 f])) (by simp [results, Try.results20, go_sem, entV, entCells, noEnt, r0, r1, r2, r3, r4, r5, r6, r7, r8, r9, r10, r11, r12]) rfl ?_
      rw [HD.out]
      exact ⟨_, _, _, rfl, EntS.none_ _ _ rfl rfl rfl, HZ.out⟩

set_option maxHeartbeats 6400000 in
set_option maxRecDepth 100000 in
theorem rdec_9 (v : Value) (F0 : Nat → Prop) (x : UInt8) (l : List UInt8) (w : World) (hx : (x.toNat : Int) = 9) (h : Bs w F0 v (x :: l)) (hl : l.length < 140737488355328) :
    Calls Try.prog 20 #[v] w (DecPost w (decOf (rdBody 9 (l, 0)))) := by
  obtain ⟨q1, H1⟩ : ∃ q, Hid (wholeN (l, 0) = q) := ⟨_, rfl⟩
  obtain ⟨A, cap, hv, hlc, hcm, -⟩ := id h
  have hmx : maxLen = 9223372036854775807 := by decide +kernel
  subst hv
  obtain ⟨-, b0, o0, x', hA, -, hx', hc⟩ := h.at_ (k := 0) (by simp)
  subst hA
  have hxx : x = x' := by simpa using hx'
  subst hxx
  have hcutb : Bs w F0 (.slice (some ⟨b0, o0 + 1, none⟩) l.length (cap - 1)) l := h.cut (k := 1) (l := x :: l) (by simp)
  simp only [List.length_cons] at hlc h ⊢
  have hl1 : ((l.length : Int) + 1 == 0) = false := by rw [beq_eq_false_iff_ne]; omega
  rw [hx, Nat.add_zero] at hc
  have hc1 := (Chg.alloc_ (fun _ => False) w (.cells (ent0 0) 35)).cell' hc (fun h => h)
  obtain ⟨n1, n2, -, hsW⟩ := two_new (Chg.refl (fun _ => False) ((w.alloc (.cells (ent0 0) 35)).alloc (.cells (ent0 9) 35)))
  have HN1 := Lib.hid n1
  have HN2 := Lib.hid n2
  have HSW := Lib.hid hsW
  clear n1 n2 hsW hx' hx
  go_enter Try.func20, Try.ntmps20
  go_upto_region 4 with fail
  have hE2 := HN2.out
  have hR2 := HN1.out
  have hS2 := HSW.out
  clear HN1 HN2 HSW hc hc1
  generalize (w.alloc (.cells (ent0 0) 35)).alloc (.cells (ent0 9) 35) = W2 at *
  obtain ⟨R, hR⟩ : ∃ R, w.heap.size = R := ⟨_, rfl⟩
  obtain ⟨E, hE⟩ : ∃ E, w.heap.size + 1 = E := ⟨_, rfl⟩
  rw [hR] at hR2
  rw [hE] at hE2
  rw [hE, hR]
  have hER : E = R + 1 := by omega
  have hwR : w.heap.size ≤ R := by omega
  clear hE hR
  have hE2l := lt_of_block hE2
  have hREl : R < E := by omega
  clear hER
  go_cut [5] (fun v wc => ∃ b A c, v = .pointer (some ⟨b, 0, none⟩) ∧ E < b ∧ LM w wc F0 b E A c (l, 0) 35 (ent0 9) (PR0 R))
  case first =>
    by_cases hcap : cap = 1
    · subst hcap
      have hl0 : l.length = 0 := by omega
      go_wp2_with fail
      go_meet
      case rel => exact ⟨W2.heap.size, some ⟨b0, o0, none⟩, 0, rfl, hE2l, by have hM := LM.start (A := some ⟨b0, o0, none⟩) (c := 0) (l := l) (F := F0) hS2 hE2 hR2 (by omega) (by omega) ⟨_, 0, rfl, by omega, by omega, fun h => by omega⟩ (by omega); rw [hl0] at hM; exact ⟨by have := hM.rd; simpa [hl0] using this, hM.bs, hM.el, hM.same, hM.old, hM.len, hM.ex, hM.kp⟩⟩
    · have hcap1 : ¬ cap - 1 = 0 := by omega
      go_wp2_with fail
      go_meet
      case rel => exact ⟨W2.heap.size, some ⟨b0, o0 + 1, none⟩, cap - 1, rfl, hE2l, LM.start hS2 hE2 hR2 (by omega) (by omega) (hcutb.old.same hS2) (by omega)⟩
  case rest =>
    obtain ⟨b, A0, c0, rfl, hEb, hM0⟩ := hcut
    have hRb : R < b := by omega
    have hRE : R ≠ E := by omega
    clear hE2 hR2 hS2 hE2l h hcutb hREl
    have hMb := hM0.old.2.2
    obtain ⟨b0', b1', g0, g1⟩ := hM0.rdc
    obtain ⟨k0, -⟩ := hM0.cell 0 _ rfl
    go_wp2_with fail
    refine (hM0.whole q1 H1).mono ?_
    rintro _ v1 ⟨A1, c1, rfl, hK1⟩
    clear b0' b1' g0 g1 k0 hM0
    obtain ⟨b0', b1', g0, g1⟩ := hK1.at_.rdc
    obtain ⟨k0, -⟩ := hK1.at_.cell 0 _ rfl
    obtain ⟨y0, y1⟩ := hK1.at_.cell 11 _ rfl
    have HM1 := Lib.hid (hK1.put' 11 (.int .i64 (q1.1 : Int)))
    obtain ⟨y2, -⟩ := HM1.out.cell 0 _ rfl
    go_upto_region 44 with fail
    have hM9 : LM w _ F0 b E A1 c1 q1.2 35 #[.int .u8 9, .int .i64 0, .int .i64 0, .int .i64 0, .slice none 0 0, .slice none 0 0, .int .i64 0, .int .i64 0, .slice none 0 0, .int .i64 0, .string ⟨#[]⟩, .int .i64 (q1.1 : Int), .int .i64 0] _ := HM1.out
    clear HM1 hK1 b0' b1' g0 g1 k0 y0 y1 y2
    generalize ((v1.setCell ⟨E, 11, none⟩ (.int .i64 (q1.1 : Int))).setCell ⟨b, 0, none⟩ (.slice A1 q1.2.1.length c1)).setCell ⟨b, 1, none⟩ (.int .i64 q1.2.2) = W9 at *
    obtain ⟨b0', b1', g0, g1⟩ := hM9.rdc
    go_wp2_with fail
    refine (pend_any _ _ q1.2.1 q1.2.2 _ hM9.bs).mono ?_
    rintro _ w10 ⟨rfl, hs10⟩
    have hM10 := hM9.keep hs10
    clear hM9 hs10 b0' b1' g0 g1
    obtain ⟨f, HF⟩ : ∃ f, Hid (endErr q1.2.1 q1.2.2 = f) := ⟨_, rfl⟩
    rw [HF.out]
    obtain ⟨e, HE⟩ : ∃ e : EntD, Hid ({ noEnt with kind := 9, n := q1.1 } = e) := ⟨_, rfl⟩
    have HR : Hid (rdBody 9 (l, 0) = some (e, q1.2)) := by
      show _ = _
      rw [← HE.out]
      have h1 := H1.out
      subst h1
      rfl
    have hX10 : w10.heap[E]? = some (.cells #[.int .u8 e.kind, .int .i64 e.tx, .int .i64 e.next, .int .i64 e.nextID, .slice none 0 0, .slice none 0 0, .int .i64 e.tickN, .int .i64 e.max, .slice none 0 0, .int .i64 e.tickAt, .string e.name, .int .i64 e.n, .int .i64 e.at_] 35 (0, 0)) := by
      have h10 := hM10.el
      rw [← HE.out]
      exact h10
    have hES : f = 0 → EntS w10 (fun b' => b < b') e (.slice none 0 0) (.slice none 0 0) (.slice none 0 0) := fun hf => by
      have z9 : q1.2.2 = 0 := endErr_zero (HF.out.trans hf)
      rw [← HE.out]
      exact ⟨Sl.nil_ _ _ _, Sl.nil_ _ _ _, Sl.nil_ _ _ _⟩
    obtain ⟨x0, x1, x2, x3, x4, x5, x6, x7, x8, x9, x10, x11, x12⟩ := ent_cells hX10
    obtain ⟨r0, r1, r2, r3, r4, r5, r6, r7, r8, r9, r10, r11, r12⟩ := ent_cells (show w10.heap[R]? = _ from hM10.ex)
    obtain ⟨f0, f1, f2, f3, f4, f5, f6, f7, f8, f9, f10, f11, f12⟩ := ent_free (show w10.heap[R]? = _ from hM10.ex)
    have HP := Lib.hid (hM10.same.since (putEnt_chg w10 R (.int .u8 e.kind) (.int .i64 e.tx) (.int .i64 e.next) (.int .i64 e.nextID) (.slice none 0 0) (.slice none 0 0) (.int .i64 e.tickN) (.int .i64 e.max) (.slice none 0 0) (.int .i64 e.tickAt) (.string e.name) (.int .i64 e.n) (.int .i64 e.at_)) (fun k hk => by omega))
    have HZ := Lib.hid (hM10.same.since (putEnt_chg w10 R (.int .u8 0) (.int .i64 0) (.int .i64 0) (.int .i64 0) (.slice none 0 0) (.slice none 0 0) (.int .i64 0) (.int .i64 0) (.slice none 0 0) (.int .i64 0) (.string ⟨#[]⟩) (.int .i64 0) (.int .i64 0)) (fun k hk => by omega))
    have HES := Lib.hid (fun hf => ((hES hf).keep (putEnt_chg w10 R (.int .u8 e.kind) (.int .i64 e.tx) (.int .i64 e.next) (.int .i64 e.nextID) (.slice none 0 0) (.slice none 0 0) (.int .i64 e.tickN) (.int .i64 e.max) (.slice none 0 0) (.int .i64 e.tickAt) (.string e.name) (.int .i64 e.n) (.int .i64 e.at_)) (fun b' hb => by have hb' : b < b' := hb; omega)))
    have hwb : w.heap.size ≤ b + 1 := by omega
    have HWB := Lib.hid hwb
    clear hM10 hES hX10 hwb hwR hRb hEb hMb hlc hcm hl HE
    by_cases hf : f = 0
    · have HD : Hid (decOf (rdBody 9 (l, 0)) = (e, 0)) := by show _ = _; rw [HR.out]; unfold decOf; simp only [HF.out, hf, if_true]
      have HES0 := Lib.hid (HES.out hf)
      subst hf
      clear HF HR HES
      go_wp2_with fail
      refine bodyPost_ret (v := (.tuple #[entV e (.slice none 0 0) (.slice none 0 0) (.slice none 0 0), .int .i64 0])) (by simp [results, Try.results20, go_sem, entV, entCells, noEnt, r0, r1, r2, r3, r4, r5, r6, r7, r8, r9, r10, r11, r12]) rfl ?_
      rw [HD.out]
      exact ⟨_, _, _, rfl, EntS.low (n := b + 1) HES0.out HWB.out, HP.out⟩
    · have HD : Hid (decOf (rdBody 9 (l, 0)) = (noEnt, f)) := by show _ = _; rw [HR.out]; unfold decOf; simp only [HF.out]; rw [if_neg hf]
      have hf1 : (f != 0) = true := by simp [hf]
      clear HF HR hf
      go_wp2_with fail
      refine bodyPost_ret (v := (.tuple #[entV noEnt (.slice none 0 0) (.slice none 0 0) (.slice none 0 0), .int .i64 f])) (by simp [results, Try.results20, go_sem, entV, entCells, noEnt, r0, r1, r2, r3, r4, r5, r6, r7, r8, r9, r10, r11, r12]) rfl ?_
      rw [HD.out]
      exact ⟨_, _, _, rfl, EntS.none_ _ _ rfl rfl rfl, HZ.out⟩

set_option maxHeartbeats 6400000 in
set_option maxRecDepth 100000 in
theorem rdec_10 (v : Value) (F0 : Nat → Prop) (x : UInt8) (l : List UInt8) (w : World) (hx : (x.toNat : Int) = 10) (h : Bs w F0 v (x :: l)) (hl : l.length < 140737488355328) :
    Calls Try.prog 20 #[v] w (DecPost w (decOf (rdBody 10 (l, 0)))) := by
  obtain ⟨q1, H1⟩ : ∃ q, Hid (wholeN (l, 0) = q) := ⟨_, rfl⟩
  obtain ⟨A, cap, hv, hlc, hcm, -⟩ := id h
  have hmx : maxLen = 9223372036854775807 := by decide +kernel
  subst hv
  obtain ⟨-, b0, o0, x', hA, -, hx', hc⟩ := h.at_ (k := 0) (by simp)
  subst hA
  have hxx : x = x' := by simpa using hx'
  subst hxx
  have hcutb : Bs w F0 (.slice (some ⟨b0, o0 + 1, none⟩) l.length (cap - 1)) l := h.cut (k := 1) (l := x :: l) (by simp)
  simp only [List.length_cons] at hlc h ⊢
  have hl1 : ((l.length : Int) + 1 == 0) = false := by rw [beq_eq_false_iff_ne]; omega
  rw [hx, Nat.add_zero] at hc
  have hc1 := (Chg.alloc_ (fun _ => False) w (.cells (ent0 0) 35)).cell' hc (fun h => h)
  obtain ⟨n1, n2, -, hsW⟩ := two_new (Chg.refl (fun _ => False) ((w.alloc (.cells (ent0 0) 35)).alloc (.cells (ent0 10) 35)))
  have HN1 := Lib.hid n1
  have HN2 := Lib.hid n2
  have HSW := Lib.hid hsW
  clear n1 n2 hsW hx' hx
  go_enter Try.func20, Try.ntmps20
  go_upto_region 4 with fail
  have hE2 := HN2.out
  have hR2 := HN1.out
  have hS2 := HSW.out
  clear HN1 HN2 HSW hc hc1
  generalize (w.alloc (.cells (ent0 0) 35)).alloc (.cells (ent0 10) 35) = W2 at *
  obtain ⟨R, hR⟩ : ∃ R, w.heap.size = R := ⟨_, rfl⟩
  obtain ⟨E, hE⟩ : ∃ E, w.heap.size + 1 = E := ⟨_, rfl⟩
  rw [hR] at hR2
  rw [hE] at hE2
  rw [hE, hR]
  have hER : E = R + 1 := by omega
  have hwR : w.heap.size ≤ R := by omega
  clear hE hR
  have hE2l := lt_of_block hE2
  have hREl : R < E := by omega
  clear hER
  go_cut [5] (fun v wc => ∃ b A c, v = .pointer (some ⟨b, 0, none⟩) ∧ E < b ∧ LM w wc F0 b E A c (l, 0) 35 (ent0 10) (PR0 R))
  case first =>
    by_cases hcap : cap = 1
    · subst hcap
      have hl0 : l.length = 0 := by omega
      go_wp2_with fail
      go_meet
      case rel => exact ⟨W2.heap.size, some ⟨b0, o0, none⟩, 0, rfl, hE2l, by have hM := LM.start (A := some ⟨b0, o0, none⟩) (c := 0) (l := l) (F := F0) hS2 hE2 hR2 (by omega) (by omega) ⟨_, 0, rfl, by omega, by omega, fun h => by omega⟩ (by omega); rw [hl0] at hM; exact ⟨by have := hM.rd; simpa [hl0] using this, hM.bs, hM.el, hM.same, hM.old, hM.len, hM.ex, hM.kp⟩⟩
    · have hcap1 : ¬ cap - 1 = 0 := by omega
      go_wp2_with fail
      go_meet
      case rel => exact ⟨W2.heap.size, some ⟨b0, o0 + 1, none⟩, cap - 1, rfl, hE2l, LM.start hS2 hE2 hR2 (by omega) (by omega) (hcutb.old.same hS2) (by omega)⟩
  case rest =>
    obtain ⟨b, A0, c0, rfl, hEb, hM0⟩ := hcut
    have hRb : R < b := by omega
    have hRE : R ≠ E := by omega
    clear hE2 hR2 hS2 hE2l h hcutb hREl
    have hMb := hM0.old.2.2
    obtain ⟨b0', b1', g0, g1⟩ := hM0.rdc
    obtain ⟨k0, -⟩ := hM0.cell 0 _ rfl
    go_wp2_with fail
    refine (hM0.whole q1 H1).mono ?_
    rintro _ v1 ⟨A1, c1, rfl, hK1⟩
    clear b0' b1' g0 g1 k0 hM0
    obtain ⟨b0', b1', g0, g1⟩ := hK1.at_.rdc
    obtain ⟨k0, -⟩ := hK1.at_.cell 0 _ rfl
    obtain ⟨y0, y1⟩ := hK1.at_.cell 11 _ rfl
    have HM1 := Lib.hid (hK1.put' 11 (.int .i64 (q1.1 : Int)))
    obtain ⟨y2, -⟩ := HM1.out.cell 0 _ rfl
    go_upto_region 44 with fail
    have hM9 : LM w _ F0 b E A1 c1 q1.2 35 #[.int .u8 10, .int .i64 0, .int .i64 0, .int .i64 0, .slice none 0 0, .slice none 0 0, .int .i64 0, .int .i64 0, .slice none 0 0, .int .i64 0, .string ⟨#[]⟩, .int .i64 (q1.1 : Int), .int .i64 0] _ := HM1.out
    clear HM1 hK1 b0' b1' g0 g1 k0 y0 y1 y2
    generalize ((v1.setCell ⟨E, 11, none⟩ (.int .i64 (q1.1 : Int))).setCell ⟨b, 0, none⟩ (.slice A1 q1.2.1.length c1)).setCell ⟨b, 1, none⟩ (.int .i64 q1.2.2) = W9 at *
    obtain ⟨b0', b1', g0, g1⟩ := hM9.rdc
    go_wp2_with fail
    refine (pend_any _ _ q1.2.1 q1.2.2 _ hM9.bs).mono ?_
    rintro _ w10 ⟨rfl, hs10⟩
    have hM10 := hM9.keep hs10
    clear hM9 hs10 b0' b1' g0 g1
    obtain ⟨f, HF⟩ : ∃ f, Hid (endErr q1.2.1 q1.2.2 = f) := ⟨_, rfl⟩
    rw [HF.out]
    obtain ⟨e, HE⟩ : ∃ e : EntD, Hid ({ noEnt with kind := 10, n := q1.1 } = e) := ⟨_, rfl⟩
    have HR : Hid (rdBody 10 (l, 0) = some (e, q1.2)) := by
      show _ = _
      rw [← HE.out]
      have h1 := H1.out
      subst h1
      rfl
    have hX10 : w10.heap[E]? = some (.cells #[.int .u8 e.kind, .int .i64 e.tx, .int .i64 e.next, .int .i64 e.nextID, .slice none 0 0, .slice none 0 0, .int .i64 e.tickN, .int .i64 e.max, .slice none 0 0, .int .i64 e.tickAt, .string e.name, .int .i64 e.n, .int .i64 e.at_] 35 (0, 0)) := by
      have h10 := hM10.el
      rw [← HE.out]
      exact h10
    have hES : f = 0 → EntS w10 (fun b' => b < b') e (.slice none 0 0) (.slice none 0 0) (.slice none 0 0) := fun hf => by
      have z9 : q1.2.2 = 0 := endErr_zero (HF.out.trans hf)
      rw [← HE.out]
      exact ⟨Sl.nil_ _ _ _, Sl.nil_ _ _ _, Sl.nil_ _ _ _⟩
    obtain ⟨x0, x1, x2, x3, x4, x5, x6, x7, x8, x9, x10, x11, x12⟩ := ent_cells hX10
    obtain ⟨r0, r1, r2, r3, r4, r5, r6, r7, r8, r9, r10, r11, r12⟩ := ent_cells (show w10.heap[R]? = _ from hM10.ex)
    obtain ⟨f0, f1, f2, f3, f4, f5, f6, f7, f8, f9, f10, f11, f12⟩ := ent_free (show w10.heap[R]? = _ from hM10.ex)
    have HP := Lib.hid (hM10.same.since (putEnt_chg w10 R (.int .u8 e.kind) (.int .i64 e.tx) (.int .i64 e.next) (.int .i64 e.nextID) (.slice none 0 0) (.slice none 0 0) (.int .i64 e.tickN) (.int .i64 e.max) (.slice none 0 0) (.int .i64 e.tickAt) (.string e.name) (.int .i64 e.n) (.int .i64 e.at_)) (fun k hk => by omega))
    have HZ := Lib.hid (hM10.same.since (putEnt_chg w10 R (.int .u8 0) (.int .i64 0) (.int .i64 0) (.int .i64 0) (.slice none 0 0) (.slice none 0 0) (.int .i64 0) (.int .i64 0) (.slice none 0 0) (.int .i64 0) (.string ⟨#[]⟩) (.int .i64 0) (.int .i64 0)) (fun k hk => by omega))
    have HES := Lib.hid (fun hf => ((hES hf).keep (putEnt_chg w10 R (.int .u8 e.kind) (.int .i64 e.tx) (.int .i64 e.next) (.int .i64 e.nextID) (.slice none 0 0) (.slice none 0 0) (.int .i64 e.tickN) (.int .i64 e.max) (.slice none 0 0) (.int .i64 e.tickAt) (.string e.name) (.int .i64 e.n) (.int .i64 e.at_)) (fun b' hb => by have hb' : b < b' := hb; omega)))
    have hwb : w.heap.size ≤ b + 1 := by omega
    have HWB := Lib.hid hwb
    clear hM10 hES hX10 hwb hwR hRb hEb hMb hlc hcm hl HE
    by_cases hf : f = 0
    · have HD : Hid (decOf (rdBody 10 (l, 0)) = (e, 0)) := by show _ = _; rw [HR.out]; unfold decOf; simp only [HF.out, hf, if_true]
      have HES0 := Lib.hid (HES.out hf)
      subst hf
      clear HF HR HES
      go_wp2_with fail
      refine bodyPost_ret (v := (.tuple #[entV e (.slice none 0 0) (.slice none 0 0) (.slice none 0 0), .int .i64 0])) (by simp [results, Try.results20, go_sem, entV, entCells, noEnt, r0, r1, r2, r3, r4, r5, r6, r7, r8, r9, r10, r11, r12]) rfl ?_
      rw [HD.out]
      exact ⟨_, _, _, rfl, EntS.low (n := b + 1) HES0.out HWB.out, HP.out⟩
    · have HD : Hid (decOf (rdBody 10 (l, 0)) = (noEnt, f)) := by show _ = _; rw [HR.out]; unfold decOf; simp only [HF.out]; rw [if_neg hf]
      have hf1 : (f != 0) = true := by simp [hf]
      clear HF HR hf
      go_wp2_with fail
      refine bodyPost_ret (v := (.tuple #[entV noEnt (.slice none 0 0) (.slice none 0 0) (.slice none 0 0), .int .i64 f])) (by simp [results, Try.results20, go_sem, entV, entCells, noEnt, r0, r1, r2, r3, r4, r5, r6, r7, r8, r9, r10, r11, r12]) rfl ?_
      rw [HD.out]
      exact ⟨_, _, _, rfl, EntS.none_ _ _ rfl rfl rfl, HZ.out⟩

end Go.Proofs.Ytdkankiohoocaaa
