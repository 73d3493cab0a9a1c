/- The walk of carrierref16.Decode: no kind, no bytes; and all of it. -/
import Derived.Test.YtdkankiohoocaaaQRfL
import Derived.Test.YtdkankiohoocaaaQRfLb
import Derived.Test.YtdkankiohoocaaaQRfM
namespace Go.Proofs.Ytdkankiohoocaaa
set_option linter.unusedSimpArgs false
set_option linter.unusedVariables false
open Go Go.RowKit Go.Proofs

set_option maxHeartbeats 3200000 in
set_option maxRecDepth 100000 in
theorem rdec_nil (v : Value) (F0 : Nat → Prop) (w : World) (h : Bs w F0 v []) :
    Calls Try.prog 20 #[v] w (DecPost w (noEnt, 3)) := by
  obtain ⟨A, cap, hv, -, -, -⟩ := id h
  subst hv
  have hb0 := heap_alloc_new w (.cells (ent0 0) 35)
  obtain ⟨r0, r1, r2, r3, r4, r5, r6, r7, r8, r9, r10, r11, r12⟩ := ent_cells hb0
  obtain ⟨f0, f1, f2, f3, f4, f5, f6, f7, f8, f9, f10, f11, f12⟩ := ent_free hb0
  go_enter Try.func20, Try.ntmps20
  go_wp2_with fail
  exact bodyPost_ret (v := (.tuple #[entV noEnt (.slice none 0 0) (.slice none 0 0) (.slice none 0 0), .int .i64 3])) (by simp [results, Try.results20, go_sem, entV, entCells, noEnt, r0, r1, r2, r3, r4, r5, r6, r7, r8, r9, r10, r11, r12]) rfl ⟨_, _, _, rfl, EntS.none_ _ _ rfl rfl rfl, Chg.alloc_ _ _ _⟩

set_option maxHeartbeats 6400000 in
set_option maxRecDepth 100000 in
theorem rdec_none (v : Value) (F0 : Nat → Prop) (x : UInt8) (l : List UInt8) (w : World) (k : Int) (hk : ¬ (1 ≤ k ∧ k ≤ 11)) (hx : (x.toNat : Int) = k) (h : Bs w F0 v (x :: l)) (hl : l.length < 140737488355328) :
    Calls Try.prog 20 #[v] w (DecPost w (decOf (rdBody k (l, 0)))) := by
  have HR : Hid (decOf (rdBody k (l, 0)) = (noEnt, 2)) := by
    show _ = _
    unfold rdBody
    rw [if_neg (by omega), if_neg (by omega), if_neg (by omega), if_neg (by omega), if_neg (by omega), if_neg (by omega), if_neg (by omega)]
    rfl
  rw [HR.out]
  clear HR
  have n1 : (k == 1) = false := by rw [beq_eq_false_iff_ne]; omega
  have n2 : (k == 2) = false := by rw [beq_eq_false_iff_ne]; omega
  have n3 : (k == 3) = false := by rw [beq_eq_false_iff_ne]; omega
  have n4 : (k == 4) = false := by rw [beq_eq_false_iff_ne]; omega
  have n5 : (k == 5) = false := by rw [beq_eq_false_iff_ne]; omega
  have n6 : (k == 6) = false := by rw [beq_eq_false_iff_ne]; omega
  have n7 : (k == 7) = false := by rw [beq_eq_false_iff_ne]; omega
  have n8 : (k == 8) = false := by rw [beq_eq_false_iff_ne]; omega
  have n9 : (k == 9) = false := by rw [beq_eq_false_iff_ne]; omega
  have n10 : (k == 10) = false := by rw [beq_eq_false_iff_ne]; omega
  have n11 : (k == 11) = false := by rw [beq_eq_false_iff_ne]; omega
  obtain ⟨A, cap, hv, hlc, hcm, -⟩ := id h
  have hmx : maxLen = 9223372036854775807 := by decide +kernel
  subst hv
  obtain ⟨-, b0, o0, x', hA, -, hx', hc⟩ := h.at_ (k := 0) (by simp)
  subst hA
  have hxx : x = x' := by simpa using hx'
  subst hxx
  have hcutb : Bs w F0 (.slice (some ⟨b0, o0 + 1, none⟩) l.length (cap - 1)) l := h.cut (k := 1) (l := x :: l) (by simp)
  simp only [List.length_cons] at hlc h ⊢
  have hl1 : ((l.length : Int) + 1 == 0) = false := by rw [beq_eq_false_iff_ne]; omega
  rw [hx, Nat.add_zero] at hc
  have hc1 := (Chg.alloc_ (fun _ => False) w (.cells (ent0 0) 35)).cell' hc (fun h => h)
  obtain ⟨n1, n2, -, hsW⟩ := two_new (Chg.refl (fun _ => False) ((w.alloc (.cells (ent0 0) 35)).alloc (.cells (ent0 k) 35)))
  have HN1 := Lib.hid n1
  have HN2 := Lib.hid n2
  have HSW := Lib.hid hsW
  clear n1 n2 hsW hx' hx
  go_enter Try.func20, Try.ntmps20
  go_upto_region 4 with fail
  have hE2 := HN2.out
  have hR2 := HN1.out
  have hS2 := HSW.out
  clear HN1 HN2 HSW hc hc1
  generalize (w.alloc (.cells (ent0 0) 35)).alloc (.cells (ent0 k) 35) = W2 at *
  obtain ⟨R, hR⟩ : ∃ R, w.heap.size = R := ⟨_, rfl⟩
  obtain ⟨E, hE⟩ : ∃ E, w.heap.size + 1 = E := ⟨_, rfl⟩
  rw [hR] at hR2
  rw [hE] at hE2
  rw [hE, hR]
  have hER : E = R + 1 := by omega
  have hwR : w.heap.size ≤ R := by omega
  clear hE hR
  have hE2l := lt_of_block hE2
  have hREl : R < E := by omega
  clear hER
  go_cut [5] (fun v wc => ∃ b A c, v = .pointer (some ⟨b, 0, none⟩) ∧ E < b ∧ LM w wc F0 b E A c (l, 0) 35 (ent0 k) (PR0 R))
  case first =>
    by_cases hcap : cap = 1
    · subst hcap
      have hl0 : l.length = 0 := by omega
      go_wp2_with fail
      go_meet
      case rel => exact ⟨W2.heap.size, some ⟨b0, o0, none⟩, 0, rfl, hE2l, by have hM := LM.start (A := some ⟨b0, o0, none⟩) (c := 0) (l := l) (F := F0) hS2 hE2 hR2 (by omega) (by omega) ⟨_, 0, rfl, by omega, by omega, fun h => by omega⟩ (by omega); rw [hl0] at hM; exact ⟨by have := hM.rd; simpa [hl0] using this, hM.bs, hM.el, hM.same, hM.old, hM.len, hM.ex, hM.kp⟩⟩
    · have hcap1 : ¬ cap - 1 = 0 := by omega
      go_wp2_with fail
      go_meet
      case rel => exact ⟨W2.heap.size, some ⟨b0, o0 + 1, none⟩, cap - 1, rfl, hE2l, LM.start hS2 hE2 hR2 (by omega) (by omega) (hcutb.old.same hS2) (by omega)⟩
  case rest =>
    obtain ⟨b, A0, c0, rfl, hEb, hM0⟩ := hcut
    have hRb : R < b := by omega
    have hRE : R ≠ E := by omega
    clear hE2 hR2 hS2 hE2l h hcutb hREl
    have hMb := hM0.old.2.2
    obtain ⟨k0, -⟩ := hM0.cell 0 _ rfl
    obtain ⟨r0, r1, r2, r3, r4, r5, r6, r7, r8, r9, r10, r11, r12⟩ := ent_cells (show wc.heap[R]? = _ from hM0.ex)
    obtain ⟨f0, f1, f2, f3, f4, f5, f6, f7, f8, f9, f10, f11, f12⟩ := ent_free (show wc.heap[R]? = _ from hM0.ex)
    have HZ := Lib.hid (hM0.same.since (putEnt_chg wc R (.int .u8 0) (.int .i64 0) (.int .i64 0) (.int .i64 0) (.slice none 0 0) (.slice none 0 0) (.int .i64 0) (.int .i64 0) (.slice none 0 0) (.int .i64 0) (.string ⟨#[]⟩) (.int .i64 0) (.int .i64 0)) (fun k hk => by omega))
    clear hM0
    go_wp2_with fail
    exact bodyPost_ret (v := (.tuple #[entV noEnt (.slice none 0 0) (.slice none 0 0) (.slice none 0 0), .int .i64 2])) (by simp [results, Try.results20, go_sem, entV, entCells, noEnt, r0, r1, r2, r3, r4, r5, r6, r7, r8, r9, r10, r11, r12]) rfl ⟨_, _, _, rfl, EntS.none_ _ _ rfl rfl rfl, HZ.out⟩

theorem rdecode_any (v : Value) (F0 : Nat → Prop) (l : List UInt8) (w : World) (h : Bs w F0 v l) (hl : l.length ≤ 140737488355328) (r : EntD × Int) (hr : Hid (decEnt l = r)) :
    Calls Try.prog 20 #[v] w (DecPost w r) := by
  rw [← hr.out]
  clear hr
  cases l with
  | nil => exact rdec_nil v F0 w h
  | cons x l =>
    rw [decEnt_cons]
    have hl' : l.length < 140737488355328 := by simp at hl; omega
    obtain ⟨k, hk⟩ : ∃ k : Int, (x.toNat : Int) = k := ⟨_, rfl⟩
    rw [hk]
    by_cases h1 : 1 ≤ k ∧ k ≤ 11
    · obtain rfl | rfl | rfl | rfl | rfl | rfl | rfl | rfl | rfl | rfl | rfl : k = 1 ∨ k = 2 ∨ k = 3 ∨ k = 4 ∨ k = 5 ∨ k = 6 ∨ k = 7 ∨ k = 8 ∨ k = 9 ∨ k = 10 ∨ k = 11 := by omega
      · exact rdec_1 v F0 x l w hk h hl'
      · exact rdec_2 v F0 x l w hk h hl'
      · exact rdec_3 v F0 x l w hk h hl'
      · exact rdec_4 v F0 x l w hk h hl'
      · exact rdec_5 v F0 x l w hk h hl'
      · exact rdec_6 v F0 x l w hk h hl'
      · exact rdec_7 v F0 x l w hk h hl'
      · exact rdec_8 v F0 x l w hk h hl'
      · exact rdec_9 v F0 x l w hk h hl'
      · exact rdec_10 v F0 x l w hk h hl'
      · exact rdec_11 v F0 x l w hk h hl'
    · exact rdec_none v F0 x l w k h1 hk h hl'
end Go.Proofs.Ytdkankiohoocaaa
