/- The walk of carrierref16.Decode: the kinds 1 7 8 11. -/
import Derived.Test.YtdkankiohoocaaaQRfK
namespace Go.Proofs.Ytdkankiohoocaaa
set_option linter.unusedSimpArgs false
set_option linter.unusedVariables false
open Go Go.RowKit Go.Proofs

set_option maxHeartbeats 6400000 in
set_option maxRecDepth 100000 in
theorem rdec_1 (v : Value) (F0 : Nat → Prop) (x : UInt8) (l : List UInt8) (w : World) (hx : (x.toNat : Int) = 1) (h : Bs w F0 v (x :: l)) (hl : l.length < 140737488355328) :
    Calls Try.prog 20 #[v] w (DecPost w (decOf (rdBody 1 (l, 0)))) := by
  obtain ⟨q1, H1⟩ : ∃ q, Hid (wholeN (l, 0) = q) := ⟨_, rfl⟩
  obtain ⟨q2, H2⟩ : ∃ q, Hid (wholeN q1.2 = q) := ⟨_, rfl⟩
  obtain ⟨q3, H3⟩ : ∃ q, Hid (wholeN q2.2 = q) := ⟨_, rfl⟩
  obtain ⟨q4, H4⟩ : ∃ q, Hid (getOps q3.2 = q) := ⟨_, rfl⟩
  obtain ⟨q5, H5⟩ : ∃ q, Hid (getPls q4.2 = q) := ⟨_, rfl⟩
  obtain ⟨A, cap, hv, hlc, hcm, -⟩ := id h
  have hmx : maxLen = 9223372036854775807 := by decide +kernel
  subst hv
  obtain ⟨-, b0, o0, x', hA, -, hx', hc⟩ := h.at_ (k := 0) (by simp)
  subst hA
  have hxx : x = x' := by simpa using hx'
  subst hxx
  have hcutb : Bs w F0 (.slice (some ⟨b0, o0 + 1, none⟩) l.length (cap - 1)) l := h.cut (k := 1) (l := x :: l) (by simp)
  simp only [List.length_cons] at hlc h ⊢
  have hl1 : ((l.length : Int) + 1 == 0) = false := by rw [beq_eq_false_iff_ne]; omega
  rw [hx, Nat.add_zero] at hc
  have hc1 := (Chg.alloc_ (fun _ => False) w (.cells (ent0 0) 35)).cell' hc (fun h => h)
  obtain ⟨n1, n2, -, hsW⟩ := two_new (Chg.refl (fun _ => False) ((w.alloc (.cells (ent0 0) 35)).alloc (.cells (ent0 1) 35)))
  have HN1 := Lib.hid n1
  have HN2 := Lib.hid n2
  have HSW := Lib.hid hsW
  clear n1 n2 hsW hx' hx
  go_enter Try.func20, Try.ntmps20
  go_upto_region 4 with fail
  have hE2 := HN2.out
  have hR2 := HN1.out
  have hS2 := HSW.out
  clear HN1 HN2 HSW hc hc1
  generalize (w.alloc (.cells (ent0 0) 35)).alloc (.cells (ent0 1) 35) = W2 at *
  obtain ⟨R, hR⟩ : ∃ R, w.heap.size = R := ⟨_, rfl⟩
  obtain ⟨E, hE⟩ : ∃ E, w.heap.size + 1 = E := ⟨_, rfl⟩
  rw [hR] at hR2
  rw [hE] at hE2
  rw [hE, hR]
  have hER : E = R + 1 := by omega
  have hwR : w.heap.size ≤ R := by omega
  clear hE hR
  have hE2l := lt_of_block hE2
  have hREl : R < E := by omega
  clear hER
  go_cut [5] (fun v wc => ∃ b A c, v = .pointer (some ⟨b, 0, none⟩) ∧ E < b ∧ LM w wc F0 b E A c (l, 0) 35 (ent0 1) (PR0 R))
  case first =>
    by_cases hcap : cap = 1
    · subst hcap
      have hl0 : l.length = 0 := by omega
      go_wp2_with fail
      go_meet
      case rel => exact ⟨W2.heap.size, some ⟨b0, o0, none⟩, 0, rfl, hE2l, by have hM := LM.start (A := some ⟨b0, o0, none⟩) (c := 0) (l := l) (F := F0) hS2 hE2 hR2 (by omega) (by omega) ⟨_, 0, rfl, by omega, by omega, fun h => by omega⟩ (by omega); rw [hl0] at hM; exact ⟨by have := hM.rd; simpa [hl0] using this, hM.bs, hM.el, hM.same, hM.old, hM.len, hM.ex, hM.kp⟩⟩
    · have hcap1 : ¬ cap - 1 = 0 := by omega
      go_wp2_with fail
      go_meet
      case rel => exact ⟨W2.heap.size, some ⟨b0, o0 + 1, none⟩, cap - 1, rfl, hE2l, LM.start hS2 hE2 hR2 (by omega) (by omega) (hcutb.old.same hS2) (by omega)⟩
  case rest =>
    obtain ⟨b, A0, c0, rfl, hEb, hM0⟩ := hcut
    have hRb : R < b := by omega
    have hRE : R ≠ E := by omega
    clear hE2 hR2 hS2 hE2l h hcutb hREl
    have hMb := hM0.old.2.2
    obtain ⟨b0', b1', g0, g1⟩ := hM0.rdc
    obtain ⟨k0, -⟩ := hM0.cell 0 _ rfl
    go_wp2_with fail
    refine (hM0.whole q1 H1).mono ?_
    rintro _ v1 ⟨A1, c1, rfl, hK1⟩
    clear b0' b1' g0 g1 k0 hM0
    obtain ⟨b0', b1', g0, g1⟩ := hK1.at_.rdc
    obtain ⟨k0, -⟩ := hK1.at_.cell 0 _ rfl
    obtain ⟨y0, y1⟩ := hK1.at_.cell 1 _ rfl
    have HM1 := Lib.hid (hK1.put' 1 (.int .i64 (q1.1 : Int)))
    obtain ⟨y2, -⟩ := HM1.out.cell 0 _ rfl
    go_wp2_with fail
    refine (HM1.out.whole q2 H2).mono ?_
    rintro _ v2 ⟨A2, c2, rfl, hK2⟩
    clear b0' b1' g0 g1 k0 y0 y1 y2 hK1 HM1
    obtain ⟨b0', b1', g0, g1⟩ := hK2.at_.rdc
    obtain ⟨k0, -⟩ := hK2.at_.cell 0 _ rfl
    obtain ⟨y0, y1⟩ := hK2.at_.cell 2 _ rfl
    have HM2 := Lib.hid (hK2.put' 2 (.int .i64 (q2.1 : Int)))
    obtain ⟨y2, -⟩ := HM2.out.cell 0 _ rfl
    go_wp2_with fail
    refine (HM2.out.whole q3 H3).mono ?_
    rintro _ v3 ⟨A3, c3, rfl, hK3⟩
    clear b0' b1' g0 g1 k0 y0 y1 y2 hK2 HM2
    obtain ⟨b0', b1', g0, g1⟩ := hK3.at_.rdc
    obtain ⟨k0, -⟩ := hK3.at_.cell 0 _ rfl
    obtain ⟨y0, y1⟩ := hK3.at_.cell 3 _ rfl
    have HM3 := Lib.hid (hK3.put' 3 (.int .i64 (q3.1 : Int)))
    obtain ⟨y2, -⟩ := HM3.out.cell 0 _ rfl
    go_wp2_with fail
    have hsz4 := HM3.out.size
    refine (HM3.out.getOps q4 H4).mono ?_
    rintro _ v4 ⟨S4, m4, d4, xs4, A4, c4, rfl, hK4, hx4⟩
    have HX4 := Lib.hid hx4
    clear hx4
    clear b0' b1' g0 g1 k0 y0 y1 y2 hK3 HM3
    obtain ⟨b0', b1', g0, g1⟩ := hK4.at_.rdc
    obtain ⟨k0, -⟩ := hK4.at_.cell 0 _ rfl
    obtain ⟨y0, y1⟩ := hK4.at_.cell 4 _ rfl
    have HM4 := Lib.hid (hK4.put' 4 (.slice S4 m4 d4))
    obtain ⟨y2, -⟩ := HM4.out.cell 0 _ rfl
    go_wp2_with fail
    have hsz5 := HM4.out.size
    refine (HM4.out.getEvs q5 H5).mono ?_
    rintro _ v5 ⟨S5, m5, d5, xs5, A5, c5, rfl, hK5, hx5⟩
    have HX5 := Lib.hid hx5
    clear hx5
    clear b0' b1' g0 g1 k0 y0 y1 y2 hK4 HM4
    obtain ⟨b0', b1', g0, g1⟩ := hK5.at_.rdc
    obtain ⟨k0, -⟩ := hK5.at_.cell 0 _ rfl
    obtain ⟨y0, y1⟩ := hK5.at_.cell 5 _ rfl
    have HM5 := Lib.hid (hK5.put' 5 (.slice S5 m5 d5))
    obtain ⟨y2, -⟩ := HM5.out.cell 0 _ rfl
    go_upto_region 44 with fail
    have hM9 : LM w _ F0 b E A5 c5 q5.2 35 #[.int .u8 1, .int .i64 (q1.1 : Int), .int .i64 (q2.1 : Int), .int .i64 (q3.1 : Int), .slice S4 m4 d4, .slice S5 m5 d5, .int .i64 0, .int .i64 0, .slice none 0 0, .int .i64 0, .string ⟨#[]⟩, .int .i64 0, .int .i64 0] _ := HM5.out
    clear HM5 hK5 b0' b1' g0 g1 k0 y0 y1 y2
    generalize ((v5.setCell ⟨E, 5, none⟩ (.slice S5 m5 d5)).setCell ⟨b, 0, none⟩ (.slice A5 q5.2.1.length c5)).setCell ⟨b, 1, none⟩ (.int .i64 q5.2.2) = W9 at *
    obtain ⟨b0', b1', g0, g1⟩ := hM9.rdc
    go_wp2_with fail
    refine (pend_any _ _ q5.2.1 q5.2.2 _ hM9.bs).mono ?_
    rintro _ w10 ⟨rfl, hs10⟩
    have hM10 := hM9.keep hs10
    clear hM9 hs10 b0' b1' g0 g1
    obtain ⟨f, HF⟩ : ∃ f, Hid (endErr q5.2.1 q5.2.2 = f) := ⟨_, rfl⟩
    rw [HF.out]
    obtain ⟨e, HE⟩ : ∃ e : EntD, Hid ({ noEnt with kind := 1, tx := q1.1, next := q2.1, nextID := q3.1, ops := q4.1, evs := q5.1 } = e) := ⟨_, rfl⟩
    have HR : Hid (rdBody 1 (l, 0) = some (e, q5.2)) := by
      show _ = _
      rw [← HE.out]
      have h1 := H1.out
      have h2 := H2.out
      have h3 := H3.out
      have h4 := H4.out
      have h5 := H5.out
      subst h1
      subst h2
      subst h3
      subst h4
      subst h5
      rfl
    have hX10 : w10.heap[E]? = some (.cells #[.int .u8 e.kind, .int .i64 e.tx, .int .i64 e.next, .int .i64 e.nextID, .slice S4 m4 d4, .slice S5 m5 d5, .int .i64 e.tickN, .int .i64 e.max, .slice none 0 0, .int .i64 e.tickAt, .string e.name, .int .i64 e.n, .int .i64 e.at_] 35 (0, 0)) := by
      have h10 := hM10.el
      rw [← HE.out]
      exact h10
    have hES : f = 0 → EntS w10 (fun b' => b < b') e (.slice S4 m4 d4) (.slice S5 m5 d5) (.slice none 0 0) := fun hf => by
      have z9 : q5.2.2 = 0 := endErr_zero (HF.out.trans hf)
      rw [← HE.out]
      have z4 : q4.2.2 = 0 := getPls_zero H5 z9; have z3 : q3.2.2 = 0 := iter_err_zero H4 z4; have z2 : q2.2.2 = 0 := (stepNum_zero H3 z3).1; have z1 : q1.2.2 = 0 := (stepNum_zero H2 z2).1; exact ⟨(by rw [← HX4.out z4]; exact hM10.ex.1.2.mono (opCells_pos _) (fun g _ hg => Nat.lt_of_lt_of_le hsz4.1 hg)), (by rw [← HX5.out z9]; exact hM10.ex.2.mono (plCells_pos _) (fun g _ hg => Nat.lt_of_lt_of_le hsz5.1 hg)), Sl.nil_ _ _ _⟩
    obtain ⟨x0, x1, x2, x3, x4, x5, x6, x7, x8, x9, x10, x11, x12⟩ := ent_cells hX10
    obtain ⟨r0, r1, r2, r3, r4, r5, r6, r7, r8, r9, r10, r11, r12⟩ := ent_cells (show w10.heap[R]? = _ from hM10.ex.1.1)
    obtain ⟨f0, f1, f2, f3, f4, f5, f6, f7, f8, f9, f10, f11, f12⟩ := ent_free (show w10.heap[R]? = _ from hM10.ex.1.1)
    have HP := Lib.hid (hM10.same.since (putEnt_chg w10 R (.int .u8 e.kind) (.int .i64 e.tx) (.int .i64 e.next) (.int .i64 e.nextID) (.slice S4 m4 d4) (.slice S5 m5 d5) (.int .i64 e.tickN) (.int .i64 e.max) (.slice none 0 0) (.int .i64 e.tickAt) (.string e.name) (.int .i64 e.n) (.int .i64 e.at_)) (fun k hk => by omega))
    have HZ := Lib.hid (hM10.same.since (putEnt_chg w10 R (.int .u8 0) (.int .i64 0) (.int .i64 0) (.int .i64 0) (.slice none 0 0) (.slice none 0 0) (.int .i64 0) (.int .i64 0) (.slice none 0 0) (.int .i64 0) (.string ⟨#[]⟩) (.int .i64 0) (.int .i64 0)) (fun k hk => by omega))
    have HES := Lib.hid (fun hf => ((hES hf).keep (putEnt_chg w10 R (.int .u8 e.kind) (.int .i64 e.tx) (.int .i64 e.next) (.int .i64 e.nextID) (.slice S4 m4 d4) (.slice S5 m5 d5) (.int .i64 e.tickN) (.int .i64 e.max) (.slice none 0 0) (.int .i64 e.tickAt) (.string e.name) (.int .i64 e.n) (.int .i64 e.at_)) (fun b' hb => by have hb' : b < b' := hb; omega)))
    have hwb : w.heap.size ≤ b + 1 := by omega
    have HWB := Lib.hid hwb
    clear hM10 hES hX10 hwb hwR hRb hEb hMb hlc hcm hl HE
    by_cases hf : f = 0
    · have HD : Hid (decOf (rdBody 1 (l, 0)) = (e, 0)) := by show _ = _; rw [HR.out]; unfold decOf; simp only [HF.out, hf, if_true]
      have HES0 := Lib.hid (HES.out hf)
      subst hf
      clear HF HR HES
      go_wp2_with fail
      refine bodyPost_ret (v := (.tuple #[entV e (.slice S4 m4 d4) (.slice S5 m5 d5) (.slice none 0 0), .int .i64 0])) (by simp [results, Try.results20, go_sem, entV, entCells, noEnt, r0, r1, r2, r3, r4, r5, r6, r7, r8, r9, r10, r11, r12]) rfl ?_
      rw [HD.out]
      exact ⟨_, _, _, rfl, EntS.low (n := b + 1) HES0.out HWB.out, HP.out⟩
    · have HD : Hid (decOf (rdBody 1 (l, 0)) = (noEnt, f)) := by show _ = _; rw [HR.out]; unfold decOf; simp only [HF.out]; rw [if_neg hf]
      have hf1 : (f != 0) = true := by simp [hf]
      clear HF HR hf
      go_wp2_with fail
      refine bodyPost_ret (v := (.tuple #[entV noEnt (.slice none 0 0) (.slice none 0 0) (.slice none 0 0), .int .i64 f])) (by simp [results, Try.results20, go_sem, entV, entCells, noEnt, r0, r1, r2, r3, r4, r5, r6, r7, r8, r9, r10, r11, r12]) rfl ?_
      rw [HD.out]
      exact ⟨_, _, _, rfl, EntS.none_ _ _ rfl rfl rfl, HZ.out⟩

set_option maxHeartbeats 6400000 in
set_option maxRecDepth 100000 in
theorem rdec_7 (v : Value) (F0 : Nat → Prop) (x : UInt8) (l : List UInt8) (w : World) (hx : (x.toNat : Int) = 7) (h : Bs w F0 v (x :: l)) (hl : l.length < 140737488355328) :
    Calls Try.prog 20 #[v] w (DecPost w (decOf (rdBody 7 (l, 0)))) := by
  obtain ⟨q1, H1⟩ : ∃ q, Hid (readText l 0 40 = q) := ⟨_, rfl⟩
  obtain ⟨q2, H2⟩ : ∃ q, Hid (wholeN q1.2 = q) := ⟨_, rfl⟩
  obtain ⟨q3, H3⟩ : ∃ q, Hid (readInt q2.2.1 q2.2.2 = q) := ⟨_, rfl⟩
  obtain ⟨A, cap, hv, hlc, hcm, -⟩ := id h
  have hmx : maxLen = 9223372036854775807 := by decide +kernel
  subst hv
  obtain ⟨-, b0, o0, x', hA, -, hx', hc⟩ := h.at_ (k := 0) (by simp)
  subst hA
  have hxx : x = x' := by simpa using hx'
  subst hxx
  have hcutb : Bs w F0 (.slice (some ⟨b0, o0 + 1, none⟩) l.length (cap - 1)) l := h.cut (k := 1) (l := x :: l) (by simp)
  simp only [List.length_cons] at hlc h ⊢
  have hl1 : ((l.length : Int) + 1 == 0) = false := by rw [beq_eq_false_iff_ne]; omega
  rw [hx, Nat.add_zero] at hc
  have hc1 := (Chg.alloc_ (fun _ => False) w (.cells (ent0 0) 35)).cell' hc (fun h => h)
  obtain ⟨n1, n2, -, hsW⟩ := two_new (Chg.refl (fun _ => False) ((w.alloc (.cells (ent0 0) 35)).alloc (.cells (ent0 7) 35)))
  have HN1 := Lib.hid n1
  have HN2 := Lib.hid n2
  have HSW := Lib.hid hsW
  clear n1 n2 hsW hx' hx
  go_enter Try.func20, Try.ntmps20
  go_upto_region 4 with fail
  have hE2 := HN2.out
  have hR2 := HN1.out
  have hS2 := HSW.out
  clear HN1 HN2 HSW hc hc1
  generalize (w.alloc (.cells (ent0 0) 35)).alloc (.cells (ent0 7) 35) = W2 at *
  obtain ⟨R, hR⟩ : ∃ R, w.heap.size = R := ⟨_, rfl⟩
  obtain ⟨E, hE⟩ : ∃ E, w.heap.size + 1 = E := ⟨_, rfl⟩
  rw [hR] at hR2
  rw [hE] at hE2
  rw [hE, hR]
  have hER : E = R + 1 := by omega
  have hwR : w.heap.size ≤ R := by omega
  clear hE hR
  have hE2l := lt_of_block hE2
  have hREl : R < E := by omega
  clear hER
  go_cut [5] (fun v wc => ∃ b A c, v = .pointer (some ⟨b, 0, none⟩) ∧ E < b ∧ LM w wc F0 b E A c (l, 0) 35 (ent0 7) (PR0 R))
  case first =>
    by_cases hcap : cap = 1
    · subst hcap
      have hl0 : l.length = 0 := by omega
      go_wp2_with fail
      go_meet
      case rel => exact ⟨W2.heap.size, some ⟨b0, o0, none⟩, 0, rfl, hE2l, by have hM := LM.start (A := some ⟨b0, o0, none⟩) (c := 0) (l := l) (F := F0) hS2 hE2 hR2 (by omega) (by omega) ⟨_, 0, rfl, by omega, by omega, fun h => by omega⟩ (by omega); rw [hl0] at hM; exact ⟨by have := hM.rd; simpa [hl0] using this, hM.bs, hM.el, hM.same, hM.old, hM.len, hM.ex, hM.kp⟩⟩
    · have hcap1 : ¬ cap - 1 = 0 := by omega
      go_wp2_with fail
      go_meet
      case rel => exact ⟨W2.heap.size, some ⟨b0, o0 + 1, none⟩, cap - 1, rfl, hE2l, LM.start hS2 hE2 hR2 (by omega) (by omega) (hcutb.old.same hS2) (by omega)⟩
  case rest =>
    obtain ⟨b, A0, c0, rfl, hEb, hM0⟩ := hcut
    have hRb : R < b := by omega
    have hRE : R ≠ E := by omega
    clear hE2 hR2 hS2 hE2l h hcutb hREl
    have hMb := hM0.old.2.2
    obtain ⟨b0', b1', g0, g1⟩ := hM0.rdc
    obtain ⟨k0, -⟩ := hM0.cell 0 _ rfl
    go_wp2_with fail
    refine (hM0.text 40 (by omega) (by omega) q1 H1).mono ?_
    rintro _ v1 ⟨A1, c1, rfl, hK1⟩
    clear b0' b1' g0 g1 k0 hM0
    obtain ⟨b0', b1', g0, g1⟩ := hK1.at_.rdc
    obtain ⟨k0, -⟩ := hK1.at_.cell 0 _ rfl
    obtain ⟨y0, y1⟩ := hK1.at_.cell 10 _ rfl
    have HM1 := Lib.hid (hK1.put' 10 (.string ⟨q1.1.toArray⟩))
    obtain ⟨y2, -⟩ := HM1.out.cell 0 _ rfl
    go_wp2_with fail
    refine (HM1.out.whole q2 H2).mono ?_
    rintro _ v2 ⟨A2, c2, rfl, hK2⟩
    clear b0' b1' g0 g1 k0 y0 y1 y2 hK1 HM1
    obtain ⟨b0', b1', g0, g1⟩ := hK2.at_.rdc
    obtain ⟨k0, -⟩ := hK2.at_.cell 0 _ rfl
    obtain ⟨y0, y1⟩ := hK2.at_.cell 11 _ rfl
    have HM2 := Lib.hid (hK2.put' 11 (.int .i64 (q2.1 : Int)))
    obtain ⟨y2, -⟩ := HM2.out.cell 0 _ rfl
    go_wp2_with fail
    refine (HM2.out.int q3 H3).mono ?_
    rintro _ v3 ⟨A3, c3, rfl, hK3⟩
    clear b0' b1' g0 g1 k0 y0 y1 y2 hK2 HM2
    obtain ⟨b0', b1', g0, g1⟩ := hK3.at_.rdc
    obtain ⟨k0, -⟩ := hK3.at_.cell 0 _ rfl
    obtain ⟨y0, y1⟩ := hK3.at_.cell 12 _ rfl
    have HM3 := Lib.hid (hK3.put' 12 (.int .i64 q3.1))
    obtain ⟨y2, -⟩ := HM3.out.cell 0 _ rfl
    go_upto_region 44 with fail
    have hM9 : LM w _ F0 b E A3 c3 q3.2 35 #[.int .u8 7, .int .i64 0, .int .i64 0, .int .i64 0, .slice none 0 0, .slice none 0 0, .int .i64 0, .int .i64 0, .slice none 0 0, .int .i64 0, .string ⟨q1.1.toArray⟩, .int .i64 (q2.1 : Int), .int .i64 q3.1] _ := HM3.out
    clear HM3 hK3 b0' b1' g0 g1 k0 y0 y1 y2
    generalize ((v3.setCell ⟨E, 12, none⟩ (.int .i64 q3.1)).setCell ⟨b, 0, none⟩ (.slice A3 q3.2.1.length c3)).setCell ⟨b, 1, none⟩ (.int .i64 q3.2.2) = W9 at *
    obtain ⟨b0', b1', g0, g1⟩ := hM9.rdc
    go_wp2_with fail
    refine (pend_any _ _ q3.2.1 q3.2.2 _ hM9.bs).mono ?_
    rintro _ w10 ⟨rfl, hs10⟩
    have hM10 := hM9.keep hs10
    clear hM9 hs10 b0' b1' g0 g1
    obtain ⟨f, HF⟩ : ∃ f, Hid (endErr q3.2.1 q3.2.2 = f) := ⟨_, rfl⟩
    rw [HF.out]
    obtain ⟨e, HE⟩ : ∃ e : EntD, Hid ({ noEnt with kind := 7, name := ⟨q1.1.toArray⟩, n := q2.1, at_ := q3.1 } = e) := ⟨_, rfl⟩
    have HR : Hid (rdBody 7 (l, 0) = some (e, q3.2)) := by
      show _ = _
      rw [← HE.out]
      have h1 := H1.out
      have h2 := H2.out
      have h3 := H3.out
      subst h1
      subst h2
      subst h3
      rfl
    have hX10 : w10.heap[E]? = some (.cells #[.int .u8 e.kind, .int .i64 e.tx, .int .i64 e.next, .int .i64 e.nextID, .slice none 0 0, .slice none 0 0, .int .i64 e.tickN, .int .i64 e.max, .slice none 0 0, .int .i64 e.tickAt, .string e.name, .int .i64 e.n, .int .i64 e.at_] 35 (0, 0)) := by
      have h10 := hM10.el
      rw [← HE.out]
      exact h10
    have hES : f = 0 → EntS w10 (fun b' => b < b') e (.slice none 0 0) (.slice none 0 0) (.slice none 0 0) := fun hf => by
      have z9 : q3.2.2 = 0 := endErr_zero (HF.out.trans hf)
      rw [← HE.out]
      have z2 : q2.2.2 = 0 := readInt_zero H3 z9; have z1 : q1.2.2 = 0 := (stepNum_zero H2 z2).1; exact ⟨Sl.nil_ _ _ _, Sl.nil_ _ _ _, Sl.nil_ _ _ _⟩
    obtain ⟨x0, x1, x2, x3, x4, x5, x6, x7, x8, x9, x10, x11, x12⟩ := ent_cells hX10
    obtain ⟨r0, r1, r2, r3, r4, r5, r6, r7, r8, r9, r10, r11, r12⟩ := ent_cells (show w10.heap[R]? = _ from hM10.ex)
    obtain ⟨f0, f1, f2, f3, f4, f5, f6, f7, f8, f9, f10, f11, f12⟩ := ent_free (show w10.heap[R]? = _ from hM10.ex)
    have HP := Lib.hid (hM10.same.since (putEnt_chg w10 R (.int .u8 e.kind) (.int .i64 e.tx) (.int .i64 e.next) (.int .i64 e.nextID) (.slice none 0 0) (.slice none 0 0) (.int .i64 e.tickN) (.int .i64 e.max) (.slice none 0 0) (.int .i64 e.tickAt) (.string e.name) (.int .i64 e.n) (.int .i64 e.at_)) (fun k hk => by omega))
    have HZ := Lib.hid (hM10.same.since (putEnt_chg w10 R (.int .u8 0) (.int .i64 0) (.int .i64 0) (.int .i64 0) (.slice none 0 0) (.slice none 0 0) (.int .i64 0) (.int .i64 0) (.slice none 0 0) (.int .i64 0) (.string ⟨#[]⟩) (.int .i64 0) (.int .i64 0)) (fun k hk => by omega))
    have HES := Lib.hid (fun hf => ((hES hf).keep (putEnt_chg w10 R (.int .u8 e.kind) (.int .i64 e.tx) (.int .i64 e.next) (.int .i64 e.nextID) (.slice none 0 0) (.slice none 0 0) (.int .i64 e.tickN) (.int .i64 e.max) (.slice none 0 0) (.int .i64 e.tickAt) (.string e.name) (.int .i64 e.n) (.int .i64 e.at_)) (fun b' hb => by have hb' : b < b' := hb; omega)))
    have hwb : w.heap.size ≤ b + 1 := by omega
    have HWB := Lib.hid hwb
    clear hM10 hES hX10 hwb hwR hRb hEb hMb hlc hcm hl HE
    by_cases hf : f = 0
    · have HD : Hid (decOf (rdBody 7 (l, 0)) = (e, 0)) := by show _ = _; rw [HR.out]; unfold decOf; simp only [HF.out, hf, if_true]
      have HES0 := Lib.hid (HES.out hf)
      subst hf
      clear HF HR HES
      go_wp2_with fail
      refine bodyPost_ret (v := (.tuple #[entV e (.slice none 0 0) (.slice none 0 0) (.slice none 0 0), .int .i64 0])) (by simp [results, Try.results20, go_sem, entV, entCells, noEnt, r0, r1, r2, r3, r4, r5, r6, r7, r8, r9, r10, r11, r12]) rfl ?_
      rw [HD.out]
      exact ⟨_, _, _, rfl, EntS.low (n := b + 1) HES0.out HWB.out, HP.out⟩
    · have HD : Hid (decOf (rdBody 7 (l, 0)) = (noEnt, f)) := by show _ = _; rw [HR.out]; unfold decOf; simp only [HF.out]; rw [if_neg hf]
      have hf1 : (f != 0) = true := by simp [hf]
      clear HF HR hf
      go_wp2_with fail
      refine bodyPost_ret (v := (.tuple #[entV noEnt (.slice none 0 0) (.slice none 0 0) (.slice none 0 0), .int .i64 f])) (by simp [results, Try.results20, go_sem, entV, entCells, noEnt, r0, r1, r2, r3, r4, r5, r6, r7, r8, r9, r10, r11, r12]) rfl ?_
      rw [HD.out]
      exact ⟨_, _, _, rfl, EntS.none_ _ _ rfl rfl rfl, HZ.out⟩

set_option maxHeartbeats 6400000 in
set_option maxRecDepth 100000 in
theorem rdec_8 (v : Value) (F0 : Nat → Prop) (x : UInt8) (l : List UInt8) (w : World) (hx : (x.toNat : Int) = 8) (h : Bs w F0 v (x :: l)) (hl : l.length < 140737488355328) :
    Calls Try.prog 20 #[v] w (DecPost w (decOf (rdBody 8 (l, 0)))) := by
  obtain ⟨q1, H1⟩ : ∃ q, Hid (wholeN (l, 0) = q) := ⟨_, rfl⟩
  obtain ⟨q2, H2⟩ : ∃ q, Hid (wholeN q1.2 = q) := ⟨_, rfl⟩
  obtain ⟨q3, H3⟩ : ∃ q, Hid (wholeN q2.2 = q) := ⟨_, rfl⟩
  obtain ⟨q4, H4⟩ : ∃ q, Hid (getPls q3.2 = q) := ⟨_, rfl⟩
  obtain ⟨q5, H5⟩ : ∃ q, Hid (readInt q4.2.1 q4.2.2 = q) := ⟨_, rfl⟩
  obtain ⟨A, cap, hv, hlc, hcm, -⟩ := id h
  have hmx : maxLen = 9223372036854775807 := by decide +kernel
  subst hv
  obtain ⟨-, b0, o0, x', hA, -, hx', hc⟩ := h.at_ (k := 0) (by simp)
  subst hA
  have hxx : x = x' := by simpa using hx'
  subst hxx
  have hcutb : Bs w F0 (.slice (some ⟨b0, o0 + 1, none⟩) l.length (cap - 1)) l := h.cut (k := 1) (l := x :: l) (by simp)
  simp only [List.length_cons] at hlc h ⊢
  have hl1 : ((l.length : Int) + 1 == 0) = false := by rw [beq_eq_false_iff_ne]; omega
  rw [hx, Nat.add_zero] at hc
  have hc1 := (Chg.alloc_ (fun _ => False) w (.cells (ent0 0) 35)).cell' hc (fun h => h)
  obtain ⟨n1, n2, -, hsW⟩ := two_new (Chg.refl (fun _ => False) ((w.alloc (.cells (ent0 0) 35)).alloc (.cells (ent0 8) 35)))
  have HN1 := Lib.hid n1
  have HN2 := Lib.hid n2
  have HSW := Lib.hid hsW
  clear n1 n2 hsW hx' hx
  go_enter Try.func20, Try.ntmps20
  go_upto_region 4 with fail
  have hE2 := HN2.out
  have hR2 := HN1.out
  have hS2 := HSW.out
  clear HN1 HN2 HSW hc hc1
  generalize (w.alloc (.cells (ent0 0) 35)).alloc (.cells (ent0 8) 35) = W2 at *
  obtain ⟨R, hR⟩ : ∃ R, w.heap.size = R := ⟨_, rfl⟩
  obtain ⟨E, hE⟩ : ∃ E, w.heap.size + 1 = E := ⟨_, rfl⟩
  rw [hR] at hR2
  rw [hE] at hE2
  rw [hE, hR]
  have hER : E = R + 1 := by omega
  have hwR : w.heap.size ≤ R := by omega
  clear hE hR
  have hE2l := lt_of_block hE2
  have hREl : R < E := by omega
  clear hER
  go_cut [5] (fun v wc => ∃ b A c, v = .pointer (some ⟨b, 0, none⟩) ∧ E < b ∧ LM w wc F0 b E A c (l, 0) 35 (ent0 8) (PR0 R))
  case first =>
    by_cases hcap : cap = 1
    · subst hcap
      have hl0 : l.length = 0 := by omega
      go_wp2_with fail
      go_meet
      case rel => exact ⟨W2.heap.size, some ⟨b0, o0, none⟩, 0, rfl, hE2l, by have hM := LM.start (A := some ⟨b0, o0, none⟩) (c := 0) (l := l) (F := F0) hS2 hE2 hR2 (by omega) (by omega) ⟨_, 0, rfl, by omega, by omega, fun h => by omega⟩ (by omega); rw [hl0] at hM; exact ⟨by have := hM.rd; simpa [hl0] using this, hM.bs, hM.el, hM.same, hM.old, hM.len, hM.ex, hM.kp⟩⟩
    · have hcap1 : ¬ cap - 1 = 0 := by omega
      go_wp2_with fail
      go_meet
      case rel => exact ⟨W2.heap.size, some ⟨b0, o0 + 1, none⟩, cap - 1, rfl, hE2l, LM.start hS2 hE2 hR2 (by omega) (by omega) (hcutb.old.same hS2) (by omega)⟩
  case rest =>
    obtain ⟨b, A0, c0, rfl, hEb, hM0⟩ := hcut
    have hRb : R < b := by omega
    have hRE : R ≠ E := by omega
    clear hE2 hR2 hS2 hE2l h hcutb hREl
    have hMb := hM0.old.2.2
    obtain ⟨b0', b1', g0, g1⟩ := hM0.rdc
    obtain ⟨k0, -⟩ := hM0.cell 0 _ rfl
    go_wp2_with fail
    refine (hM0.whole q1 H1).mono ?_
    rintro _ v1 ⟨A1, c1, rfl, hK1⟩
    clear b0' b1' g0 g1 k0 hM0
    obtain ⟨b0', b1', g0, g1⟩ := hK1.at_.rdc
    obtain ⟨k0, -⟩ := hK1.at_.cell 0 _ rfl
    obtain ⟨y0, y1⟩ := hK1.at_.cell 1 _ rfl
    have HM1 := Lib.hid (hK1.put' 1 (.int .i64 (q1.1 : Int)))
    obtain ⟨y2, -⟩ := HM1.out.cell 0 _ rfl
    go_wp2_with fail
    refine (HM1.out.whole q2 H2).mono ?_
    rintro _ v2 ⟨A2, c2, rfl, hK2⟩
    clear b0' b1' g0 g1 k0 y0 y1 y2 hK1 HM1
    obtain ⟨b0', b1', g0, g1⟩ := hK2.at_.rdc
    obtain ⟨k0, -⟩ := hK2.at_.cell 0 _ rfl
    obtain ⟨y0, y1⟩ := hK2.at_.cell 2 _ rfl
    have HM2 := Lib.hid (hK2.put' 2 (.int .i64 (q2.1 : Int)))
    obtain ⟨y2, -⟩ := HM2.out.cell 0 _ rfl
    go_wp2_with fail
    refine (HM2.out.whole q3 H3).mono ?_
    rintro _ v3 ⟨A3, c3, rfl, hK3⟩
    clear b0' b1' g0 g1 k0 y0 y1 y2 hK2 HM2
    obtain ⟨b0', b1', g0, g1⟩ := hK3.at_.rdc
    obtain ⟨k0, -⟩ := hK3.at_.cell 0 _ rfl
    obtain ⟨y0, y1⟩ := hK3.at_.cell 3 _ rfl
    have HM3 := Lib.hid (hK3.put' 3 (.int .i64 (q3.1 : Int)))
    obtain ⟨y2, -⟩ := HM3.out.cell 0 _ rfl
    go_wp2_with fail
    have hsz4 := HM3.out.size
    refine (HM3.out.getEvs q4 H4).mono ?_
    rintro _ v4 ⟨S4, m4, d4, xs4, A4, c4, rfl, hK4, hx4⟩
    have HX4 := Lib.hid hx4
    clear hx4
    clear b0' b1' g0 g1 k0 y0 y1 y2 hK3 HM3
    obtain ⟨b0', b1', g0, g1⟩ := hK4.at_.rdc
    obtain ⟨k0, -⟩ := hK4.at_.cell 0 _ rfl
    obtain ⟨y0, y1⟩ := hK4.at_.cell 5 _ rfl
    have HM4 := Lib.hid (hK4.put' 5 (.slice S4 m4 d4))
    obtain ⟨y2, -⟩ := HM4.out.cell 0 _ rfl
    go_wp2_with fail
    refine (HM4.out.int q5 H5).mono ?_
    rintro _ v5 ⟨A5, c5, rfl, hK5⟩
    clear b0' b1' g0 g1 k0 y0 y1 y2 hK4 HM4
    obtain ⟨b0', b1', g0, g1⟩ := hK5.at_.rdc
    obtain ⟨k0, -⟩ := hK5.at_.cell 0 _ rfl
    obtain ⟨y0, y1⟩ := hK5.at_.cell 12 _ rfl
    have HM5 := Lib.hid (hK5.put' 12 (.int .i64 q5.1))
    obtain ⟨y2, -⟩ := HM5.out.cell 0 _ rfl
    go_upto_region 44 with fail
    have hM9 : LM w _ F0 b E A5 c5 q5.2 35 #[.int .u8 8, .int .i64 (q1.1 : Int), .int .i64 (q2.1 : Int), .int .i64 (q3.1 : Int), .slice none 0 0, .slice S4 m4 d4, .int .i64 0, .int .i64 0, .slice none 0 0, .int .i64 0, .string ⟨#[]⟩, .int .i64 0, .int .i64 q5.1] _ := HM5.out
    clear HM5 hK5 b0' b1' g0 g1 k0 y0 y1 y2
    generalize ((v5.setCell ⟨E, 12, none⟩ (.int .i64 q5.1)).setCell ⟨b, 0, none⟩ (.slice A5 q5.2.1.length c5)).setCell ⟨b, 1, none⟩ (.int .i64 q5.2.2) = W9 at *
    obtain ⟨b0', b1', g0, g1⟩ := hM9.rdc
    go_wp2_with fail
    refine (pend_any _ _ q5.2.1 q5.2.2 _ hM9.bs).mono ?_
    rintro _ w10 ⟨rfl, hs10⟩
    have hM10 := hM9.keep hs10
    clear hM9 hs10 b0' b1' g0 g1
    obtain ⟨f, HF⟩ : ∃ f, Hid (endErr q5.2.1 q5.2.2 = f) := ⟨_, rfl⟩
    rw [HF.out]
    obtain ⟨e, HE⟩ : ∃ e : EntD, Hid ({ noEnt with kind := 8, tx := q1.1, next := q2.1, nextID := q3.1, evs := q4.1, at_ := q5.1 } = e) := ⟨_, rfl⟩
    have HR : Hid (rdBody 8 (l, 0) = some (e, q5.2)) := by
      show _ = _
      rw [← HE.out]
      have h1 := H1.out
      have h2 := H2.out
      have h3 := H3.out
      have h4 := H4.out
      have h5 := H5.out
      subst h1
      subst h2
      subst h3
      subst h4
      subst h5
      rfl
    have hX10 : w10.heap[E]? = some (.cells #[.int .u8 e.kind, .int .i64 e.tx, .int .i64 e.next, .int .i64 e.nextID, .slice none 0 0, .slice S4 m4 d4, .int .i64 e.tickN, .int .i64 e.max, .slice none 0 0, .int .i64 e.tickAt, .string e.name, .int .i64 e.n, .int .i64 e.at_] 35 (0, 0)) := by
      have h10 := hM10.el
      rw [← HE.out]
      exact h10
    have hES : f = 0 → EntS w10 (fun b' => b < b') e (.slice none 0 0) (.slice S4 m4 d4) (.slice none 0 0) := fun hf => by
      have z9 : q5.2.2 = 0 := endErr_zero (HF.out.trans hf)
      rw [← HE.out]
      have z4 : q4.2.2 = 0 := readInt_zero H5 z9; have z3 : q3.2.2 = 0 := getPls_zero H4 z4; have z2 : q2.2.2 = 0 := (stepNum_zero H3 z3).1; have z1 : q1.2.2 = 0 := (stepNum_zero H2 z2).1; exact ⟨Sl.nil_ _ _ _, (by rw [← HX4.out z4]; exact hM10.ex.2.mono (plCells_pos _) (fun g _ hg => Nat.lt_of_lt_of_le hsz4.1 hg)), Sl.nil_ _ _ _⟩
    obtain ⟨x0, x1, x2, x3, x4, x5, x6, x7, x8, x9, x10, x11, x12⟩ := ent_cells hX10
    obtain ⟨r0, r1, r2, r3, r4, r5, r6, r7, r8, r9, r10, r11, r12⟩ := ent_cells (show w10.heap[R]? = _ from hM10.ex.1)
    obtain ⟨f0, f1, f2, f3, f4, f5, f6, f7, f8, f9, f10, f11, f12⟩ := ent_free (show w10.heap[R]? = _ from hM10.ex.1)
    have HP := Lib.hid (hM10.same.since (putEnt_chg w10 R (.int .u8 e.kind) (.int .i64 e.tx) (.int .i64 e.next) (.int .i64 e.nextID) (.slice none 0 0) (.slice S4 m4 d4) (.int .i64 e.tickN) (.int .i64 e.max) (.slice none 0 0) (.int .i64 e.tickAt) (.string e.name) (.int .i64 e.n) (.int .i64 e.at_)) (fun k hk => by omega))
    have HZ := Lib.hid (hM10.same.since (putEnt_chg w10 R (.int .u8 0) (.int .i64 0) (.int .i64 0) (.int .i64 0) (.slice none 0 0) (.slice none 0 0) (.int .i64 0) (.int .i64 0) (.slice none 0 0) (.int .i64 0) (.string ⟨#[]⟩) (.int .i64 0) (.int .i64 0)) (fun k hk => by omega))
    have HES := Lib.hid (fun hf => ((hES hf).keep (putEnt_chg w10 R (.int .u8 e.kind) (.int .i64 e.tx) (.int .i64 e.next) (.int .i64 e.nextID) (.slice none 0 0) (.slice S4 m4 d4) (.int .i64 e.tickN) (.int .i64 e.max) (.slice none 0 0) (.int .i64 e.tickAt) (.string e.name) (.int .i64 e.n) (.int .i64 e.at_)) (fun b' hb => by have hb' : b < b' := hb; omega)))
    have hwb : w.heap.size ≤ b + 1 := by omega
    have HWB := Lib.hid hwb
    clear hM10 hES hX10 hwb hwR hRb hEb hMb hlc hcm hl HE
    by_cases hf : f = 0
    · have HD : Hid (decOf (rdBody 8 (l, 0)) = (e, 0)) := by show _ = _; rw [HR.out]; unfold decOf; simp only [HF.out, hf, if_true]
      have HES0 := Lib.hid (HES.out hf)
      subst hf
      clear HF HR HES
      go_wp2_with fail
      refine bodyPost_ret (v := (.tuple #[entV e (.slice none 0 0) (.slice S4 m4 d4) (.slice none 0 0), .int .i64 0])) (by simp [results, Try.results20, go_sem, entV, entCells, noEnt, r0, r1, r2, r3, r4, r5, r6, r7, r8, r9, r10, r11, r12]) rfl ?_
      rw [HD.out]
      exact ⟨_, _, _, rfl, EntS.low (n := b + 1) HES0.out HWB.out, HP.out⟩
    · have HD : Hid (decOf (rdBody 8 (l, 0)) = (noEnt, f)) := by show _ = _; rw [HR.out]; unfold decOf; simp only [HF.out]; rw [if_neg hf]
      have hf1 : (f != 0) = true := by simp [hf]
      clear HF HR hf
      go_wp2_with fail
      refine bodyPost_ret (v := (.tuple #[entV noEnt (.slice none 0 0) (.slice none 0 0) (.slice none 0 0), .int .i64 f])) (by simp [results, Try.results20, go_sem, entV, entCells, noEnt, r0, r1, r2, r3, r4, r5, r6, r7, r8, r9, r10, r11, r12]) rfl ?_
      rw [HD.out]
      exact ⟨_, _, _, rfl, EntS.none_ _ _ rfl rfl rfl, HZ.out⟩

set_option maxHeartbeats 6400000 in
set_option maxRecDepth 100000 in
theorem rdec_11 (v : Value) (F0 : Nat → Prop) (x : UInt8) (l : List UInt8) (w : World) (hx : (x.toNat : Int) = 11) (h : Bs w F0 v (x :: l)) (hl : l.length < 140737488355328) :
    Calls Try.prog 20 #[v] w (DecPost w (decOf (rdBody 11 (l, 0)))) := by
  obtain ⟨q1, H1⟩ : ∃ q, Hid (wholeN (l, 0) = q) := ⟨_, rfl⟩
  obtain ⟨q2, H2⟩ : ∃ q, Hid (getOps q1.2 = q) := ⟨_, rfl⟩
  obtain ⟨A, cap, hv, hlc, hcm, -⟩ := id h
  have hmx : maxLen = 9223372036854775807 := by decide +kernel
  subst hv
  obtain ⟨-, b0, o0, x', hA, -, hx', hc⟩ := h.at_ (k := 0) (by simp)
  subst hA
  have hxx : x = x' := by simpa using hx'
  subst hxx
  have hcutb : Bs w F0 (.slice (some ⟨b0, o0 + 1, none⟩) l.length (cap - 1)) l := h.cut (k := 1) (l := x :: l) (by simp)
  simp only [List.length_cons] at hlc h ⊢
  have hl1 : ((l.length : Int) + 1 == 0) = false := by rw [beq_eq_false_iff_ne]; omega
  rw [hx, Nat.add_zero] at hc
  have hc1 := (Chg.alloc_ (fun _ => False) w (.cells (ent0 0) 35)).cell' hc (fun h => h)
  obtain ⟨n1, n2, -, hsW⟩ := two_new (Chg.refl (fun _ => False) ((w.alloc (.cells (ent0 0) 35)).alloc (.cells (ent0 11) 35)))
  have HN1 := Lib.hid n1
  have HN2 := Lib.hid n2
  have HSW := Lib.hid hsW
  clear n1 n2 hsW hx' hx
  go_enter Try.func20, Try.ntmps20
  go_upto_region 4 with fail
  have hE2 := HN2.out
  have hR2 := HN1.out
  have hS2 := HSW.out
  clear HN1 HN2 HSW hc hc1
  generalize (w.alloc (.cells (ent0 0) 35)).alloc (.cells (ent0 11) 35) = W2 at *
  obtain ⟨R, hR⟩ : ∃ R, w.heap.size = R := ⟨_, rfl⟩
  obtain ⟨E, hE⟩ : ∃ E, w.heap.size + 1 = E := ⟨_, rfl⟩
  rw [hR] at hR2
  rw [hE] at hE2
  rw [hE, hR]
  have hER : E = R + 1 := by omega
  have hwR : w.heap.size ≤ R := by omega
  clear hE hR
  have hE2l := lt_of_block hE2
  have hREl : R < E := by omega
  clear hER
  go_cut [5] (fun v wc => ∃ b A c, v = .pointer (some ⟨b, 0, none⟩) ∧ E < b ∧ LM w wc F0 b E A c (l, 0) 35 (ent0 11) (PR0 R))
  case first =>
    by_cases hcap : cap = 1
    · subst hcap
      have hl0 : l.length = 0 := by omega
      go_wp2_with fail
      go_meet
      case rel => exact ⟨W2.heap.size, some ⟨b0, o0, none⟩, 0, rfl, hE2l, by have hM := LM.start (A := some ⟨b0, o0, none⟩) (c := 0) (l := l) (F := F0) hS2 hE2 hR2 (by omega) (by omega) ⟨_, 0, rfl, by omega, by omega, fun h => by omega⟩ (by omega); rw [hl0] at hM; exact ⟨by have := hM.rd; simpa [hl0] using this, hM.bs, hM.el, hM.same, hM.old, hM.len, hM.ex, hM.kp⟩⟩
    · have hcap1 : ¬ cap - 1 = 0 := by omega
      go_wp2_with fail
      go_meet
      case rel => exact ⟨W2.heap.size, some ⟨b0, o0 + 1, none⟩, cap - 1, rfl, hE2l, LM.start hS2 hE2 hR2 (by omega) (by omega) (hcutb.old.same hS2) (by omega)⟩
  case rest =>
    obtain ⟨b, A0, c0, rfl, hEb, hM0⟩ := hcut
    have hRb : R < b := by omega
    have hRE : R ≠ E := by omega
    clear hE2 hR2 hS2 hE2l h hcutb hREl
    have hMb := hM0.old.2.2
    obtain ⟨b0', b1', g0, g1⟩ := hM0.rdc
    obtain ⟨k0, -⟩ := hM0.cell 0 _ rfl
    go_wp2_with fail
    refine (hM0.whole q1 H1).mono ?_
    rintro _ v1 ⟨A1, c1, rfl, hK1⟩
    clear b0' b1' g0 g1 k0 hM0
    obtain ⟨b0', b1', g0, g1⟩ := hK1.at_.rdc
    obtain ⟨k0, -⟩ := hK1.at_.cell 0 _ rfl
    obtain ⟨y0, y1⟩ := hK1.at_.cell 11 _ rfl
    have HM1 := Lib.hid (hK1.put' 11 (.int .i64 (q1.1 : Int)))
    obtain ⟨y2, -⟩ := HM1.out.cell 0 _ rfl
    go_wp2_with fail
    have hsz2 := HM1.out.size
    refine (HM1.out.getOps q2 H2).mono ?_
    rintro _ v2 ⟨S2, m2, d2, xs2, A2, c2, rfl, hK2, hx2⟩
    have HX2 := Lib.hid hx2
    clear hx2
    clear b0' b1' g0 g1 k0 y0 y1 y2 hK1 HM1
    obtain ⟨b0', b1', g0, g1⟩ := hK2.at_.rdc
    obtain ⟨k0, -⟩ := hK2.at_.cell 0 _ rfl
    obtain ⟨y0, y1⟩ := hK2.at_.cell 4 _ rfl
    have HM2 := Lib.hid (hK2.put' 4 (.slice S2 m2 d2))
    obtain ⟨y2, -⟩ := HM2.out.cell 0 _ rfl
    go_upto_region 44 with fail
    have hM9 : LM w _ F0 b E A2 c2 q2.2 35 #[.int .u8 11, .int .i64 0, .int .i64 0, .int .i64 0, .slice S2 m2 d2, .slice none 0 0, .int .i64 0, .int .i64 0, .slice none 0 0, .int .i64 0, .string ⟨#[]⟩, .int .i64 (q1.1 : Int), .int .i64 0] _ := HM2.out
    clear HM2 hK2 b0' b1' g0 g1 k0 y0 y1 y2
    generalize ((v2.setCell ⟨E, 4, none⟩ (.slice S2 m2 d2)).setCell ⟨b, 0, none⟩ (.slice A2 q2.2.1.length c2)).setCell ⟨b, 1, none⟩ (.int .i64 q2.2.2) = W9 at *
    obtain ⟨b0', b1', g0, g1⟩ := hM9.rdc
    go_wp2_with fail
    refine (pend_any _ _ q2.2.1 q2.2.2 _ hM9.bs).mono ?_
    rintro _ w10 ⟨rfl, hs10⟩
    have hM10 := hM9.keep hs10
    clear hM9 hs10 b0' b1' g0 g1
    obtain ⟨f, HF⟩ : ∃ f, Hid (endErr q2.2.1 q2.2.2 = f) := ⟨_, rfl⟩
    rw [HF.out]
    obtain ⟨e, HE⟩ : ∃ e : EntD, Hid ({ noEnt with kind := 11, n := q1.1, ops := q2.1 } = e) := ⟨_, rfl⟩
    have HR : Hid (rdBody 11 (l, 0) = some (e, q2.2)) := by
      show _ = _
      rw [← HE.out]
      have h1 := H1.out
      have h2 := H2.out
      subst h1
      subst h2
      rfl
    have hX10 : w10.heap[E]? = some (.cells #[.int .u8 e.kind, .int .i64 e.tx, .int .i64 e.next, .int .i64 e.nextID, .slice S2 m2 d2, .slice none 0 0, .int .i64 e.tickN, .int .i64 e.max, .slice none 0 0, .int .i64 e.tickAt, .string e.name, .int .i64 e.n, .int .i64 e.at_] 35 (0, 0)) := by
      have h10 := hM10.el
      rw [← HE.out]
      exact h10
    have hES : f = 0 → EntS w10 (fun b' => b < b') e (.slice S2 m2 d2) (.slice none 0 0) (.slice none 0 0) := fun hf => by
      have z9 : q2.2.2 = 0 := endErr_zero (HF.out.trans hf)
      rw [← HE.out]
      have z1 : q1.2.2 = 0 := iter_err_zero H2 z9; exact ⟨(by rw [← HX2.out z9]; exact hM10.ex.2.mono (opCells_pos _) (fun g _ hg => Nat.lt_of_lt_of_le hsz2.1 hg)), Sl.nil_ _ _ _, Sl.nil_ _ _ _⟩
    obtain ⟨x0, x1, x2, x3, x4, x5, x6, x7, x8, x9, x10, x11, x12⟩ := ent_cells hX10
    obtain ⟨r0, r1, r2, r3, r4, r5, r6, r7, r8, r9, r10, r11, r12⟩ := ent_cells (show w10.heap[R]? = _ from hM10.ex.1)
    obtain ⟨f0, f1, f2, f3, f4, f5, f6, f7, f8, f9, f10, f11, f12⟩ := ent_free (show w10.heap[R]? = _ from hM10.ex.1)
    have HP := Lib.hid (hM10.same.since (putEnt_chg w10 R (.int .u8 e.kind) (.int .i64 e.tx) (.int .i64 e.next) (.int .i64 e.nextID) (.slice S2 m2 d2) (.slice none 0 0) (.int .i64 e.tickN) (.int .i64 e.max) (.slice none 0 0) (.int .i64 e.tickAt) (.string e.name) (.int .i64 e.n) (.int .i64 e.at_)) (fun k hk => by omega))
    have HZ := Lib.hid (hM10.same.since (putEnt_chg w10 R (.int .u8 0) (.int .i64 0) (.int .i64 0) (.int .i64 0) (.slice none 0 0) (.slice none 0 0) (.int .i64 0) (.int .i64 0) (.slice none 0 0) (.int .i64 0) (.string ⟨#[]⟩) (.int .i64 0) (.int .i64 0)) (fun k hk => by omega))
    have HES := Lib.hid (fun hf => ((hES hf).keep (putEnt_chg w10 R (.int .u8 e.kind) (.int .i64 e.tx) (.int .i64 e.next) (.int .i64 e.nextID) (.slice S2 m2 d2) (.slice none 0 0) (.int .i64 e.tickN) (.int .i64 e.max) (.slice none 0 0) (.int .i64 e.tickAt) (.string e.name) (.int .i64 e.n) (.int .i64 e.at_)) (fun b' hb => by have hb' : b < b' := hb; omega)))
    have hwb : w.heap.size ≤ b + 1 := by omega
    have HWB := Lib.hid hwb
    clear hM10 hES hX10 hwb hwR hRb hEb hMb hlc hcm hl HE
    by_cases hf : f = 0
    · have HD : Hid (decOf (rdBody 11 (l, 0)) = (e, 0)) := by show _ = _; rw [HR.out]; unfold decOf; simp only [HF.out, hf, if_true]
      have HES0 := Lib.hid (HES.out hf)
      subst hf
      clear HF HR HES
      go_wp2_with fail
      refine bodyPost_ret (v := (.tuple #[entV e (.slice S2 m2 d2) (.slice none 0 0) (.slice none 0 0), .int .i64 0])) (by simp [results, Try.results20, go_sem, entV, entCells, noEnt, r0, r1, r2, r3, r4, r5, r6, r7, r8, r9, r10, r11, r12]) rfl ?_
      rw [HD.out]
      exact ⟨_, _, _, rfl, EntS.low (n := b + 1) HES0.out HWB.out, HP.out⟩
    · have HD : Hid (decOf (rdBody 11 (l, 0)) = (noEnt, f)) := by show _ = _; rw [HR.out]; unfold decOf; simp only [HF.out]; rw [if_neg hf]
      have hf1 : (f != 0) = true := by simp [hf]
      clear HF HR hf
      go_wp2_with fail
      refine bodyPost_ret (v := (.tuple #[entV noEnt (.slice none 0 0) (.slice none 0 0) (.slice none 0 0), .int .i64 f])) (by simp [results, Try.results20, go_sem, entV, entCells, noEnt, r0, r1, r2, r3, r4, r5, r6, r7, r8, r9, r10, r11, r12]) rfl ?_
      rw [HD.out]
      exact ⟨_, _, _, rfl, EntS.none_ _ _ rfl rfl rfl, HZ.out⟩

end Go.Proofs.Ytdkankiohoocaaa
