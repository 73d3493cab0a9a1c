/- The law EntryKinds. -/
import Derived.Test.YtdkankiohoocaaaQLBack
namespace Go.Proofs.Ytdkankiohoocaaa
set_option linter.unusedSimpArgs false
set_option linter.unusedVariables false
open Go Go.RowKit Go.Proofs

theorem raw_free {w : World} {B : Nat} {a0 a1 a2 a3 a4 a5 a6 a7 a8 a9 a10 : Value} {t : TypeId} (h : w.heap[B]? = some (.cells #[a0, a1, a2, a3, a4, a5, a6, a7, a8, a9, a10] t (0, 0))) : w.frozen? ⟨B, 0, none⟩ = false := by
  simp [World.frozen?, h]
/-- What a kind does not have is not written. -/
theorem kinds_same (e : EntD) (t1 t2 t3 t4 t5 : Int) (c1 : e.kind = 1 ∨ e.kind = 8 → t1 = e.tx ∧ t2 = e.next ∧ t3 = e.nextID) (c2 : e.kind = 2 → t4 = e.tickN) (c3 : e.kind = 7 ∨ e.kind = 8 → t5 = e.at_) :
    entB ({ e with tx := t1, next := t2, nextID := t3, tickN := t4, at_ := t5 }) = entB e := by
  have hb : bodyB ({ e with tx := t1, next := t2, nextID := t3, tickN := t4, at_ := t5 }) = bodyB e := by
    unfold bodyB idsB
    simp only
    by_cases h1 : e.kind = 1
    · obtain ⟨q1, q2, q3⟩ := c1 (.inl h1)
      rw [if_pos h1, if_pos h1, q1, q2, q3]
    · rw [if_neg h1, if_neg h1]
      by_cases h8 : e.kind = 8
      · obtain ⟨q1, q2, q3⟩ := c1 (.inr h8)
        rw [if_pos h8, if_pos h8, q1, q2, q3, c3 (.inr h8)]
      · rw [if_neg h8, if_neg h8]
        by_cases h2 : e.kind = 2
        · rw [if_pos h2, if_pos h2, c2 h2]
        · rw [if_neg h2, if_neg h2]
          by_cases h7 : e.kind = 7
          · rw [c3 (.inl h7)]
          · simp only [h7, if_false]
  unfold entB
  rw [hb]

theorem three_rows2 {w : World} {E0 E1 : Nat} {a0 a1 a2 a3 a4 a5 a6 a7 a8 a9 a10 a11 a12 b0 b1 b2 b3 b4 b5 b6 b7 b8 b9 b10 b11 b12 : Value} {t0 t1 : TypeId} (h0 : w.heap[E0]? = some (.cells #[a0, a1, a2, a3, a4, a5, a6, a7, a8, a9, a10, a11, a12] t0 (0, 0))) (h1 : w.heap[E1]? = some (.cells #[b0, b1, b2, b3, b4, b5, b6, b7, b8, b9, b10, b11, b12] t1 (0, 0))) :
    w.cell? ⟨E0, 0, none⟩ = some a0 ∧ w.cell? ⟨E0, 1, none⟩ = some a1 ∧ w.cell? ⟨E0, 2, none⟩ = some a2 ∧ w.cell? ⟨E0, 3, none⟩ = some a3 ∧ w.cell? ⟨E0, 4, none⟩ = some a4 ∧ w.cell? ⟨E0, 5, none⟩ = some a5 ∧ w.cell? ⟨E0, 6, none⟩ = some a6 ∧ w.cell? ⟨E0, 7, none⟩ = some a7 ∧ w.cell? ⟨E0, 8, none⟩ = some a8 ∧ w.cell? ⟨E0, 9, none⟩ = some a9 ∧ w.cell? ⟨E0, 10, none⟩ = some a10 ∧ w.cell? ⟨E0, 11, none⟩ = some a11 ∧ w.cell? ⟨E0, 12, none⟩ = some a12 ∧ w.cell? ⟨E1, 0, none⟩ = some b0 ∧ w.cell? ⟨E1, 1, none⟩ = some b1 ∧ w.cell? ⟨E1, 2, none⟩ = some b2 ∧ w.cell? ⟨E1, 3, none⟩ = some b3 ∧ w.cell? ⟨E1, 4, none⟩ = some b4 ∧ w.cell? ⟨E1, 5, none⟩ = some b5 ∧ w.cell? ⟨E1, 6, none⟩ = some b6 ∧ w.cell? ⟨E1, 7, none⟩ = some b7 ∧ w.cell? ⟨E1, 8, none⟩ = some b8 ∧ w.cell? ⟨E1, 9, none⟩ = some b9 ∧ w.cell? ⟨E1, 10, none⟩ = some b10 ∧ w.cell? ⟨E1, 11, none⟩ = some b11 ∧ w.cell? ⟨E1, 12, none⟩ = some b12 := by
  obtain ⟨ka_0, ka_1, ka_2, ka_3, ka_4, ka_5, ka_6, ka_7, ka_8, ka_9, ka_10, ka_11, ka_12⟩ := ent_cells h0
  obtain ⟨kb_0, kb_1, kb_2, kb_3, kb_4, kb_5, kb_6, kb_7, kb_8, kb_9, kb_10, kb_11, kb_12⟩ := ent_cells h1
  exact ⟨ka_0, ka_1, ka_2, ka_3, ka_4, ka_5, ka_6, ka_7, ka_8, ka_9, ka_10, ka_11, ka_12, kb_0, kb_1, kb_2, kb_3, kb_4, kb_5, kb_6, kb_7, kb_8, kb_9, kb_10, kb_11, kb_12⟩

set_option maxHeartbeats 6400000 in
set_option maxRecDepth 100000 in
theorem entryKinds_any (r : RawD) (vo vk vg vs : Value) (F : Nat → Prop) (w : World) (h : RawS w F r vo vk vg vs) (k : Int) (hk0 : 0 ≤ k) (hk1 : k ≤ 255) :
    Calls Try.prog 4 #[rawV r vo vk vg vs, .int .u8 k] w fun en w' => en = .returned (.bool true) ∧ Same w w' := by
  obtain ⟨Ao, co, Ak, ck, Ag, cg, As, cs, rfl, rfl, rfl, rfl⟩ := h.forms
  have HB := Lib.hid (heap_alloc_new w (.cells #[.int .u8 r.kind, .int .i64 r.tx, .int .i64 r.n, .int .i64 r.at_, .string r.name, .int .u8 r.max, .slice Ao r.opn.length co, .slice Ak r.keys.length ck, .string r.text, .slice Ag r.gone.length cg, .slice As r.spools.length cs] 25))
  have hal : Same w (w.alloc (.cells #[.int .u8 r.kind, .int .i64 r.tx, .int .i64 r.n, .int .i64 r.at_, .string r.name, .int .u8 r.max, .slice Ao r.opn.length co, .slice Ak r.keys.length ck, .string r.text, .slice Ag r.gone.length cg, .slice As r.spools.length cs] 25)) := Chg.alloc_ _ _ _
  have HAL := Lib.hid hal
  have HR := Lib.hid h
  clear h hal
  unfold rawV
  unfold rawCells
  go_enter Try.func4, Try.ntmps4
  go_upto_region 1 with fail
  generalize w.alloc (.cells #[.int .u8 r.kind, .int .i64 r.tx, .int .i64 r.n, .int .i64 r.at_, .string r.name, .int .u8 r.max, .slice Ao r.opn.length co, .slice Ak r.keys.length ck, .string r.text, .slice Ag r.gone.length cg, .slice As r.spools.length cs] 25) = W9 at *
  obtain ⟨B, hB⟩ : ∃ n, w.heap.size = n := ⟨_, rfl⟩
  rw [hB] at HB ⊢
  clear hB
  go_wp2_with fail
  refine (nine_any _).mono ?_
  rintro _ w1 ⟨rfl, hs1⟩
  have HB1 := Lib.hid (hs1.at_ HB.out (fun h => h))
  have HS1 := Lib.hid (HAL.out.trans hs1)
  obtain ⟨x0, x1, x2, x3, x4, x5, x6, x7, x8, x9, x10⟩ := raw_cells HB1.out
  clear hs1 HB HAL
  by_cases hsm : SmallR r
  · go_wp2_with fail
    refine (small_any r _ _ _ _ F w1 (HR.out.same HS1.out) true (by simpa using hsm)).mono ?_
    rintro _ w2 ⟨rfl, hs2⟩
    have HB2 := Lib.hid (hs2.at_ HB1.out (fun h => h))
    have HS2 := Lib.hid (HS1.out.trans hs2)
    clear x0 x1 x2 x3 x4 x5 x6 x7 x8 x9 x10
    obtain ⟨x0, x1, x2, x3, x4, x5, x6, x7, x8, x9, x10⟩ := raw_cells HB2.out
    clear hs2 HB1 HS1
    go_upto_region 3 with fail
    go_cut [5, 6] (fun v5 v6 wc => ∃ P Q : Nat, v5 = .pointer (some ⟨P, 0, none⟩) ∧ v6 = .pointer (some ⟨Q, 0, none⟩) ∧ P ≠ Q ∧ w2.heap.size ≤ P ∧ w2.heap.size ≤ Q ∧ wc.heap[P]? = some (.cells #[.int .u8 r.kind, .int .i64 r.tx, .int .i64 r.n, .int .i64 r.at_, .string r.name, .int .u8 r.max, .slice Ao r.opn.length co, .slice Ak r.keys.length ck, .string r.text, .slice Ag r.gone.length cg, .slice As r.spools.length cs] 25) ∧ wc.heap[Q]? = some (.cells #[.int .u8 r.kind, .int .i64 r.tx, .int .i64 r.n, .int .i64 r.at_, .string r.name, .int .u8 r.max, .slice Ao r.opn.length co, .slice Ak r.keys.length ck, .string r.text, .slice Ag r.gone.length cg, .slice As r.spools.length cs] 25) ∧ Same w2 wc)
    case first =>
      have hBs := lt_of_block HB2.out
      go_region
      all_goals
        go_wp2_with fail
        go_meet
        case rel =>
          exact by
            have hz : (w2.alloc (.cells #[.int .u8 r.kind, .int .i64 r.tx, .int .i64 r.n, .int .i64 r.at_, .string r.name, .int .u8 r.max, .slice Ao r.opn.length co, .slice Ak r.keys.length ck, .string r.text, .slice Ag r.gone.length cg, .slice As r.spools.length cs] 25)).heap.size = w2.heap.size + 1 := by simp
            have c1 := Chg.alloc_ (fun _ => False) w2 (.cells #[.int .u8 r.kind, .int .i64 r.tx, .int .i64 r.n, .int .i64 r.at_, .string r.name, .int .u8 r.max, .slice Ao r.opn.length co, .slice Ak r.keys.length ck, .string r.text, .slice Ag r.gone.length cg, .slice As r.spools.length cs] 25)
            have c2 := (Chg.alloc_ (fun _ => False) (w2.alloc (.cells #[.int .u8 r.kind, .int .i64 r.tx, .int .i64 r.n, .int .i64 r.at_, .string r.name, .int .u8 r.max, .slice Ao r.opn.length co, .slice Ak r.keys.length ck, .string r.text, .slice Ag r.gone.length cg, .slice As r.spools.length cs] 25)) (.cells #[.int .u8 r.kind, .int .i64 r.tx, .int .i64 r.n, .int .i64 r.at_, .string r.name, .int .u8 r.max, .slice Ao r.opn.length co, .slice Ak r.keys.length ck, .string r.text, .slice Ag r.gone.length cg, .slice As r.spools.length cs] 25)).drew
            have h1 := c2.at_ (heap_alloc_new w2 (.cells #[.int .u8 r.kind, .int .i64 r.tx, .int .i64 r.n, .int .i64 r.at_, .string r.name, .int .u8 r.max, .slice Ao r.opn.length co, .slice Ak r.keys.length ck, .string r.text, .slice Ag r.gone.length cg, .slice As r.spools.length cs] 25)) (fun h => h)
            have h2 := ((Chg.refl (fun _ => False) ((w2.alloc (.cells #[.int .u8 r.kind, .int .i64 r.tx, .int .i64 r.n, .int .i64 r.at_, .string r.name, .int .u8 r.max, .slice Ao r.opn.length co, .slice Ak r.keys.length ck, .string r.text, .slice Ag r.gone.length cg, .slice As r.spools.length cs] 25)).alloc (.cells #[.int .u8 r.kind, .int .i64 r.tx, .int .i64 r.n, .int .i64 r.at_, .string r.name, .int .u8 r.max, .slice Ao r.opn.length co, .slice Ak r.keys.length ck, .string r.text, .slice Ag r.gone.length cg, .slice As r.spools.length cs] 25))).drew).at_ (heap_alloc_new (w2.alloc (.cells #[.int .u8 r.kind, .int .i64 r.tx, .int .i64 r.n, .int .i64 r.at_, .string r.name, .int .u8 r.max, .slice Ao r.opn.length co, .slice Ak r.keys.length ck, .string r.text, .slice Ag r.gone.length cg, .slice As r.spools.length cs] 25)) (.cells #[.int .u8 r.kind, .int .i64 r.tx, .int .i64 r.n, .int .i64 r.at_, .string r.name, .int .u8 r.max, .slice Ao r.opn.length co, .slice Ak r.keys.length ck, .string r.text, .slice Ag r.gone.length cg, .slice As r.spools.length cs] 25)) (fun h => h)
            rw [hz] at h2
            first | exact ⟨_, _, rfl, rfl, by omega, by omega, by omega, h1, h2, c1.trans c2⟩ | exact ⟨_, _, rfl, rfl, by omega, by omega, by omega, h2, h1, c1.trans c2⟩
    case rest =>
      obtain ⟨P, Q, rfl, rfl, hPQ, hP2, hQ2, hP, hQ, hs3⟩ := hcut
      have f1 := raw_free hP
      have f2 := raw_free hQ
      obtain ⟨p0, -⟩ := raw_cells hP
      obtain ⟨q0, -⟩ := raw_cells hQ
      have hP4 : ((wc.setCell ⟨P, 0, none⟩ (.int .u8 k)).setCell ⟨Q, 0, none⟩ (.int .u8 k)).heap[P]? = some (.cells #[.int .u8 k, .int .i64 r.tx, .int .i64 r.n, .int .i64 r.at_, .string r.name, .int .u8 r.max, .slice Ao r.opn.length co, .slice Ak r.keys.length ck, .string r.text, .slice Ag r.gone.length cg, .slice As r.spools.length cs] 25) := by
        simp [World.setCell, Array.getElem?_modify, hP, hPQ, Ne.symm hPQ]
      have hs4 : Same w2 ((wc.setCell ⟨P, 0, none⟩ (.int .u8 k)).setCell ⟨Q, 0, none⟩ (.int .u8 k)) := (hs3.far (p := ⟨P, 0, none⟩) hP2 _).far (p := ⟨Q, 0, none⟩) hQ2 _
      have HP4 := Lib.hid hP4
      have HS4 := Lib.hid (HS2.out.trans hs4)
      clear hP4 hs4 hs3 HS2 HB2 x0 x1 x2 x3 x4 x5 x6 x7 x8 x9 x10
      go_upto_region 5 with fail
      generalize (wc.setCell ⟨P, 0, none⟩ (.int .u8 k)).setCell ⟨Q, 0, none⟩ (.int .u8 k) = W4 at *
      clear p0 q0 f1 f2 hP hQ hPQ hP2 hQ2
      obtain ⟨x0, x1, x2, x3, x4, x5, x6, x7, x8, x9, x10⟩ := raw_cells HP4.out
      have HRk : Hid (RawS W4 F { r with kind := k } (.slice Ao r.opn.length co) (.slice Ak r.keys.length ck) (.slice Ag r.gone.length cg) (.slice As r.spools.length cs)) := by
        have z := HR.out.same HS4.out
        exact Lib.hid ⟨z.opn, z.keys, z.gone, z.spools, ⟨hk0, hk1⟩, z.max, z.tx, z.n, z.at_, z.key⟩
      have hsk : SmallR { r with kind := k } := ⟨hsm.name, hsm.opn, hsm.keys, hsm.text, hsm.gone, hsm.spools⟩
      go_wp2_with fail
      refine (lof_any { r with kind := k } _ _ _ _ F W4 HRk.out hsk).mono ?_
      rintro _ w5 ⟨e, uo, ue, up, rfl, hE, hs5, hO⟩
      have hlen := entB_len e hO.rd.ok ⟨hO.rd.kind.1, hO.rd.kind.2⟩
      have hfo := hO.rd.ok.fewO
      have hfe := hO.rd.ok.fewE
      have hek := hO.rd.kind
      have HK : Hid ((1 ≤ e.kind ∧ e.kind ≤ 11) ∧ e.ok) := Lib.hid ⟨⟨hO.rd.kind.1, hO.rd.kind.2⟩, hO.rd.ok⟩
      obtain ⟨L, HL⟩ : ∃ L, Hid (entB e = L) := ⟨_, Lib.hid rfl⟩
      have HD := dec_own e hO.rd hO.can HL
      rw [HL.out] at hlen
      obtain ⟨A0o, c0o, A0e, c0e, A0p, c0p, rfl, rfl, rfl⟩ := ent_forms hE
      have hN := heap_alloc_new w5 (.cells #[.int .u8 e.kind, .int .i64 e.tx, .int .i64 e.next, .int .i64 e.nextID, .slice A0o e.ops.length c0o, .slice A0e e.evs.length c0e, .int .i64 e.tickN, .int .i64 e.max, .slice A0p e.opn.length c0p, .int .i64 e.tickAt, .string e.name, .int .i64 e.n, .int .i64 e.at_] 35)
      have hc := Chg.alloc_ (fun _ => False) w5 (.cells #[.int .u8 e.kind, .int .i64 e.tx, .int .i64 e.next, .int .i64 e.nextID, .slice A0o e.ops.length c0o, .slice A0e e.evs.length c0e, .int .i64 e.tickN, .int .i64 e.max, .slice A0p e.opn.length c0p, .int .i64 e.tickAt, .string e.name, .int .i64 e.n, .int .i64 e.at_] 35)
      have HN0a := Lib.hid hN
      have HE0a := Lib.hid (hE.same hc)
      have HS5 := Lib.hid (HS4.out.trans (hs5.trans hc))
      clear hN hc hs5 HP4 HS4 HRk x0 x1 x2 x3 x4 x5 x6 x7 x8 x9 x10 hO hE
      unfold entV
      unfold entCells
      go_upto_region 6 with fail
      generalize w5.alloc (.cells #[.int .u8 e.kind, .int .i64 e.tx, .int .i64 e.next, .int .i64 e.nextID, .slice A0o e.ops.length c0o, .slice A0e e.evs.length c0e, .int .i64 e.tickN, .int .i64 e.max, .slice A0p e.opn.length c0p, .int .i64 e.tickAt, .string e.name, .int .i64 e.n, .int .i64 e.at_] 35) = W5 at *
      obtain ⟨E0, hE0⟩ : ∃ n, w5.heap.size = n := ⟨_, rfl⟩
      rw [hE0] at HN0a ⊢
      clear hE0
      obtain ⟨a0_0, a0_1, a0_2, a0_3, a0_4, a0_5, a0_6, a0_7, a0_8, a0_9, a0_10, a0_11, a0_12⟩ := ent_cells HN0a.out
      go_wp2_with fail
      refine (turned_any e _ _ _ _ W5 HE0a.out hfo hfe).mono ?_
      rintro _ w6 ⟨vo4, ve4, rfl, hTP⟩
      have hE6 := (hTP.ents HE0a.out.opn).lt
      obtain ⟨A4o, n4o, c4o, hv4o⟩ : ∃ A n c, vo4 = .slice A n c := by
        obtain ⟨A, c, h1, -, -⟩ := hE6.ops.form
        exact ⟨_, _, _, h1⟩
      obtain ⟨A4e, n4e, c4e, hv4e⟩ : ∃ A n c, ve4 = .slice A n c := by
        obtain ⟨A, c, h1, -, -⟩ := hE6.evs.form
        exact ⟨_, _, _, h1⟩
      subst hv4o
      subst hv4e
      have hN6 := heap_alloc_new w6 (.cells #[.int .u8 e.kind, .int .i64 e.tx, .int .i64 e.next, .int .i64 e.nextID, .slice A4o n4o c4o, .slice A4e n4e c4e, .int .i64 e.tickN, .int .i64 e.max, .slice A0p e.opn.length c0p, .int .i64 e.tickAt, .string e.name, .int .i64 e.n, .int .i64 e.at_] 40)
      have hc6 := Chg.alloc_ (fun _ => False) w6 (.cells #[.int .u8 e.kind, .int .i64 e.tx, .int .i64 e.next, .int .i64 e.nextID, .slice A4o n4o c4o, .slice A4e n4e c4e, .int .i64 e.tickN, .int .i64 e.max, .slice A0p e.opn.length c0p, .int .i64 e.tickAt, .string e.name, .int .i64 e.n, .int .i64 e.at_] 40)
      have hs6 := hTP.same.trans hc6
      have HY := Lib.hid hN6
      have HN0b := Lib.hid (hs6.at_ HN0a.out (fun h => h))
      have HE0b : Hid (EntS (w6.alloc (.cells #[.int .u8 e.kind, .int .i64 e.tx, .int .i64 e.next, .int .i64 e.nextID, .slice A4o n4o c4o, .slice A4e n4e c4e, .int .i64 e.tickN, .int .i64 e.max, .slice A0p e.opn.length c0p, .int .i64 e.tickAt, .string e.name, .int .i64 e.n, .int .i64 e.at_] 40)) (fun b => b < w6.heap.size) e (.slice A0o e.ops.length c0o) (.slice A0e e.evs.length c0e) (.slice A0p e.opn.length c0p)) := Lib.hid ((HE0a.out.same hTP.same).lt.same hc6)
      have HYE : Hid (EntS (w6.alloc (.cells #[.int .u8 e.kind, .int .i64 e.tx, .int .i64 e.next, .int .i64 e.nextID, .slice A4o n4o c4o, .slice A4e n4e c4e, .int .i64 e.tickN, .int .i64 e.max, .slice A0p e.opn.length c0p, .int .i64 e.tickAt, .string e.name, .int .i64 e.n, .int .i64 e.at_] 40)) (fun b => b < w6.heap.size) e (.slice A4o n4o c4o) (.slice A4e n4e c4e) (.slice A0p e.opn.length c0p)) := Lib.hid (hE6.same hc6)
      have HS6 := Lib.hid (HS5.out.trans hs6)
      have hold : w.heap.size ≤ w6.heap.size := (HS5.out.trans hTP.same).size
      have hE0Y : E0 < w6.heap.size := Nat.lt_of_lt_of_le (lt_of_block HN0a.out) hTP.same.size
      clear hTP hE6 hN6 hc6 hs6 HN0a HE0a HS5 a0_0 a0_1 a0_2 a0_3 a0_4 a0_5 a0_6 a0_7 a0_8 a0_9 a0_10 a0_11 a0_12
      unfold entV
      unfold entCells
      go_upto_region 7 with fail
      generalize w6.alloc (.cells #[.int .u8 e.kind, .int .i64 e.tx, .int .i64 e.next, .int .i64 e.nextID, .slice A4o n4o c4o, .slice A4e n4e c4e, .int .i64 e.tickN, .int .i64 e.max, .slice A0p e.opn.length c0p, .int .i64 e.tickAt, .string e.name, .int .i64 e.n, .int .i64 e.at_] 40) = W6 at *
      obtain ⟨Y, hY⟩ : ∃ n, w6.heap.size = n := ⟨_, rfl⟩
      rw [hY] at HY HYE HE0b hold hE0Y ⊢
      clear hY
      obtain ⟨a0_0, a0_1, a0_2, a0_3, a0_4, a0_5, a0_6, a0_7, a0_8, a0_9, a0_10, a0_11, a0_12⟩ := ent_cells HN0b.out
      obtain ⟨a1_0, a1_1, a1_2, a1_3, a1_4, a1_5, a1_6, a1_7, a1_8, a1_9, a1_10, a1_11, a1_12⟩ := ent_cells HY.out
      obtain ⟨f1_0, f1_1, f1_2, f1_3, f1_4, f1_5, f1_6, f1_7, f1_8, f1_9, f1_10, f1_11, f1_12⟩ := ent_free HY.out
      have HY0 : Hid (W6.heap[Y]? = some (.cells #[.int .u8 e.kind, .int .i64 e.tx, .int .i64 e.next, .int .i64 e.nextID, .slice A4o n4o c4o, .slice A4e n4e c4e, .int .i64 e.tickN, .int .i64 e.max, .slice A0p e.opn.length c0p, .int .i64 e.tickAt, .string e.name, .int .i64 e.n, .int .i64 e.at_] 40)) := HY
      clear HY
      go_cut [37] (fun v wc => ∃ b : Bool, v = .bool b ∧ (b = true → (¬ (e.kind = 1 ∨ e.kind = 8))) ∧ (b = false → ¬ (¬ (e.kind = 1 ∨ e.kind = 8))) ∧ wc = W6)
      case first =>
        by_cases q1 : e.kind = 1
        · skip
          have n1 : (e.kind == 1) = true := by simp [q1]
          have m1 : (e.kind != 1) = false := by simp [q1]
          have QQ : Hid (¬ (¬ (e.kind = 1 ∨ e.kind = 8))) := Lib.hid (by omega)
          clear q1
          go_wp2_with fail
          go_meet
          case rel => exact ⟨_, rfl, fun h => absurd h (by simp), fun _ => QQ.out, rfl⟩
        · by_cases q8 : e.kind = 8
          · skip
            have n1 : (e.kind == 1) = false := by simp [q1]
            have m1 : (e.kind != 1) = true := by simp [q1]
            have n8 : (e.kind == 8) = true := by simp [q8]
            have m8 : (e.kind != 8) = false := by simp [q8]
            have QQ : Hid (¬ (¬ (e.kind = 1 ∨ e.kind = 8))) := Lib.hid (by omega)
            clear q1 q8
            go_wp2_with fail
            go_meet
            case rel => exact ⟨_, rfl, fun h => absurd h (by simp), fun _ => QQ.out, rfl⟩
          · skip
            have n1 : (e.kind == 1) = false := by simp [q1]
            have m1 : (e.kind != 1) = true := by simp [q1]
            have n8 : (e.kind == 8) = false := by simp [q8]
            have m8 : (e.kind != 8) = true := by simp [q8]
            have QQ : Hid (¬ (e.kind = 1 ∨ e.kind = 8)) := Lib.hid (by omega)
            clear q1 q8
            go_wp2_with fail
            go_meet
            case rel => exact ⟨_, rfl, fun _ => QQ.out, fun h => absurd h (by simp), rfl⟩
      case rest =>
        obtain ⟨b, rfl, hb1, hb2, hw⟩ := hcut
        have HB_1 := Lib.hid hb1
        have HB_2 := Lib.hid hb2
        have hw := hw.symm
        subst hw
        clear hb1 hb2
        go_upto_if 37 with fail
        go_cut [37] (fun _ wc => ∃ t1 t2 t3 : Int, wc.heap[Y]? = some (.cells #[.int .u8 e.kind, .int .i64 t1, .int .i64 t2, .int .i64 t3, .slice A4o n4o c4o, .slice A4e n4e c4e, .int .i64 e.tickN, .int .i64 e.max, .slice A0p e.opn.length c0p, .int .i64 e.tickAt, .string e.name, .int .i64 e.n, .int .i64 e.at_] 40) ∧ Chg (fun b => b = Y) W6 wc ∧ (wholeI t1 ∧ wholeI t2 ∧ wholeI t3) ∧ (e.kind = 1 ∨ e.kind = 8 → t1 = e.tx ∧ t2 = e.next ∧ t3 = e.nextID))
        case first =>
          cases b with
          | false =>
            have hrow : W6.heap[Y]? = some (.cells #[.int .u8 e.kind, .int .i64 e.tx, .int .i64 e.next, .int .i64 e.nextID, .slice A4o n4o c4o, .slice A4e n4e c4e, .int .i64 e.tickN, .int .i64 e.max, .slice A0p e.opn.length c0p, .int .i64 e.tickAt, .string e.name, .int .i64 e.n, .int .i64 e.at_] 40) := by simp [World.setCell, Array.getElem?_modify, HY0.out]
            have hchg : Chg (fun b => b = Y) W6 W6 := Chg.refl _ W6
            have HR_ := Lib.hid hrow
            have HG_ := Lib.hid hchg
            clear hrow hchg
            go_wp2_with fail
            go_meet
            case rel => exact ⟨_, _, _, HR_.out, HG_.out, ⟨HK.out.2.tx, HK.out.2.next, HK.out.2.nextID⟩, fun _ => ⟨rfl, rfl, rfl⟩⟩
          | true =>
            have QQ := Lib.hid (HB_1.out rfl)
            have hrow : (((W6.setCell ⟨Y, 1, none⟩ (.int .i64 5)).setCell ⟨Y, 2, none⟩ (.int .i64 6)).setCell ⟨Y, 3, none⟩ (.int .i64 7)).heap[Y]? = some (.cells #[.int .u8 e.kind, .int .i64 5, .int .i64 6, .int .i64 7, .slice A4o n4o c4o, .slice A4e n4e c4e, .int .i64 e.tickN, .int .i64 e.max, .slice A0p e.opn.length c0p, .int .i64 e.tickAt, .string e.name, .int .i64 e.n, .int .i64 e.at_] 40) := by simp [World.setCell, Array.getElem?_modify, HY0.out]
            have hchg : Chg (fun b => b = Y) W6 (((W6.setCell ⟨Y, 1, none⟩ (.int .i64 5)).setCell ⟨Y, 2, none⟩ (.int .i64 6)).setCell ⟨Y, 3, none⟩ (.int .i64 7)) := Chg.setCell (S := fun b => b = Y) (Chg.setCell (S := fun b => b = Y) (Chg.setCell (S := fun b => b = Y) (Chg.refl _ W6) (p := ⟨Y, 1, none⟩) (fun _ => rfl) (.int .i64 5)) (p := ⟨Y, 2, none⟩) (fun _ => rfl) (.int .i64 6)) (p := ⟨Y, 3, none⟩) (fun _ => rfl) (.int .i64 7)
            have HR_ := Lib.hid hrow
            have HG_ := Lib.hid hchg
            clear hrow hchg
            go_wp2_with fail
            go_meet
            case rel => exact ⟨_, _, _, HR_.out, HG_.out, ⟨⟨by omega, by omega⟩, ⟨by omega, by omega⟩, ⟨by omega, by omega⟩⟩, fun h => absurd h QQ.out⟩
        case rest =>
          obtain ⟨t1, t2, t3, hr1, hg1, ht1, hq1⟩ := hcut
          have HY1 := Lib.hid hr1
          have HG1 := Lib.hid hg1
          have HT1 := Lib.hid ht1
          have HQ1 := Lib.hid hq1
          clear hr1 hg1 ht1 hq1 a1_0 a1_1 a1_2 a1_3 a1_4 a1_5 a1_6 a1_7 a1_8 a1_9 a1_10 a1_11 a1_12 f1_0 f1_1 f1_2 f1_3 f1_4 f1_5 f1_6 f1_7 f1_8 f1_9 f1_10 f1_11 f1_12 HB_1 HB_2
          clear a0_0 a0_1 a0_2 a0_3 a0_4 a0_5 a0_6 a0_7 a0_8 a0_9 a0_10 a0_11 a0_12
          obtain ⟨a0_0, a0_1, a0_2, a0_3, a0_4, a0_5, a0_6, a0_7, a0_8, a0_9, a0_10, a0_11, a0_12⟩ := ent_cells (HG1.out.at_ HN0b.out (fun q => by have q1 : E0 = Y := q; omega))
          obtain ⟨a1_0, a1_1, a1_2, a1_3, a1_4, a1_5, a1_6, a1_7, a1_8, a1_9, a1_10, a1_11, a1_12⟩ := ent_cells HY1.out
          obtain ⟨f1_0, f1_1, f1_2, f1_3, f1_4, f1_5, f1_6, f1_7, f1_8, f1_9, f1_10, f1_11, f1_12⟩ := ent_free HY1.out
          generalize wc = W7 at *
          go_upto_region 9 with fail
          go_cut [43] (fun v wc => ∃ b : Bool, v = .bool b ∧ (b = true → (¬ e.kind = 2)) ∧ (b = false → ¬ (¬ e.kind = 2)) ∧ wc = W7)
          case first =>
            by_cases q2 : e.kind = 2
            · skip
              have n2 : (e.kind == 2) = true := by simp [q2]
              have m2 : (e.kind != 2) = false := by simp [q2]
              have QQ : Hid (¬ (¬ e.kind = 2)) := Lib.hid (by omega)
              clear q2
              go_wp2_with fail
              go_meet
              case rel => exact ⟨_, rfl, fun h => absurd h (by simp), fun _ => QQ.out, rfl⟩
            · skip
              have n2 : (e.kind == 2) = false := by simp [q2]
              have m2 : (e.kind != 2) = true := by simp [q2]
              have QQ : Hid (¬ e.kind = 2) := Lib.hid q2
              clear q2
              go_wp2_with fail
              go_meet
              case rel => exact ⟨_, rfl, fun _ => QQ.out, fun h => absurd h (by simp), rfl⟩
          case rest =>
            obtain ⟨b, rfl, hb1, hb2, hw⟩ := hcut
            have HB_1 := Lib.hid hb1
            have HB_2 := Lib.hid hb2
            have hw := hw.symm
            subst hw
            clear hb1 hb2
            go_upto_if 43 with fail
            go_cut [43] (fun _ wc => ∃ t4 : Int, wc.heap[Y]? = some (.cells #[.int .u8 e.kind, .int .i64 t1, .int .i64 t2, .int .i64 t3, .slice A4o n4o c4o, .slice A4e n4e c4e, .int .i64 t4, .int .i64 e.max, .slice A0p e.opn.length c0p, .int .i64 e.tickAt, .string e.name, .int .i64 e.n, .int .i64 e.at_] 40) ∧ Chg (fun b => b = Y) W7 wc ∧ wholeI t4 ∧ (e.kind = 2 → t4 = e.tickN))
            case first =>
              cases b with
              | false =>
                have hrow : W7.heap[Y]? = some (.cells #[.int .u8 e.kind, .int .i64 t1, .int .i64 t2, .int .i64 t3, .slice A4o n4o c4o, .slice A4e n4e c4e, .int .i64 e.tickN, .int .i64 e.max, .slice A0p e.opn.length c0p, .int .i64 e.tickAt, .string e.name, .int .i64 e.n, .int .i64 e.at_] 40) := by simp [World.setCell, Array.getElem?_modify, HY1.out]
                have hchg : Chg (fun b => b = Y) W7 W7 := Chg.refl _ W7
                have HR_ := Lib.hid hrow
                have HG_ := Lib.hid hchg
                clear hrow hchg
                go_wp2_with fail
                go_meet
                case rel => exact ⟨_, HR_.out, HG_.out, HK.out.2.tickN, fun _ => rfl⟩
              | true =>
                have QQ := Lib.hid (HB_1.out rfl)
                have hrow : (W7.setCell ⟨Y, 6, none⟩ (.int .i64 9)).heap[Y]? = some (.cells #[.int .u8 e.kind, .int .i64 t1, .int .i64 t2, .int .i64 t3, .slice A4o n4o c4o, .slice A4e n4e c4e, .int .i64 9, .int .i64 e.max, .slice A0p e.opn.length c0p, .int .i64 e.tickAt, .string e.name, .int .i64 e.n, .int .i64 e.at_] 40) := by simp [World.setCell, Array.getElem?_modify, HY1.out]
                have hchg : Chg (fun b => b = Y) W7 (W7.setCell ⟨Y, 6, none⟩ (.int .i64 9)) := Chg.setCell (S := fun b => b = Y) (Chg.refl _ W7) (p := ⟨Y, 6, none⟩) (fun _ => rfl) (.int .i64 9)
                have HR_ := Lib.hid hrow
                have HG_ := Lib.hid hchg
                clear hrow hchg
                go_wp2_with fail
                go_meet
                case rel => exact ⟨_, HR_.out, HG_.out, ⟨by omega, by omega⟩, fun h => absurd h QQ.out⟩
            case rest =>
              obtain ⟨t4, hr1, hg1, ht1, hq1⟩ := hcut
              have HY2 := Lib.hid hr1
              have HG2 := Lib.hid (HG1.out.trans hg1)
              have HT2 := Lib.hid ht1
              have HQ2 := Lib.hid hq1
              clear hr1 hg1 ht1 hq1 a1_0 a1_1 a1_2 a1_3 a1_4 a1_5 a1_6 a1_7 a1_8 a1_9 a1_10 a1_11 a1_12 f1_0 f1_1 f1_2 f1_3 f1_4 f1_5 f1_6 f1_7 f1_8 f1_9 f1_10 f1_11 f1_12 HY1 HG1 HB_1 HB_2
              clear a0_0 a0_1 a0_2 a0_3 a0_4 a0_5 a0_6 a0_7 a0_8 a0_9 a0_10 a0_11 a0_12
              obtain ⟨a0_0, a0_1, a0_2, a0_3, a0_4, a0_5, a0_6, a0_7, a0_8, a0_9, a0_10, a0_11, a0_12⟩ := ent_cells (HG2.out.at_ HN0b.out (fun q => by have q1 : E0 = Y := q; omega))
              obtain ⟨a1_0, a1_1, a1_2, a1_3, a1_4, a1_5, a1_6, a1_7, a1_8, a1_9, a1_10, a1_11, a1_12⟩ := ent_cells HY2.out
              obtain ⟨f1_0, f1_1, f1_2, f1_3, f1_4, f1_5, f1_6, f1_7, f1_8, f1_9, f1_10, f1_11, f1_12⟩ := ent_free HY2.out
              generalize wc = W8 at *
              go_upto_region 11 with fail
              go_cut [53] (fun v wc => ∃ b : Bool, v = .bool b ∧ (b = true → (¬ (e.kind = 7 ∨ e.kind = 8))) ∧ (b = false → ¬ (¬ (e.kind = 7 ∨ e.kind = 8))) ∧ wc = W8)
              case first =>
                by_cases q7 : e.kind < 7
                · skip
                  have QQ : Hid (¬ (e.kind = 7 ∨ e.kind = 8)) := Lib.hid (by omega)
                  go_wp2_with fail
                  go_meet
                  case rel => exact ⟨_, rfl, fun _ => QQ.out, fun h => absurd h (by simp), rfl⟩
                · by_cases q8 : e.kind > 8
                  · skip
                    have QQ : Hid (¬ (e.kind = 7 ∨ e.kind = 8)) := Lib.hid (by omega)
                    go_wp2_with fail
                    go_meet
                    case rel => exact ⟨_, rfl, fun _ => QQ.out, fun h => absurd h (by simp), rfl⟩
                  · skip
                    have QQ : Hid (¬ (¬ (e.kind = 7 ∨ e.kind = 8))) := Lib.hid (by omega)
                    go_wp2_with fail
                    go_meet
                    case rel => exact ⟨_, rfl, fun h => absurd h (by simp), fun _ => QQ.out, rfl⟩
              case rest =>
                obtain ⟨b, rfl, hb1, hb2, hw⟩ := hcut
                have HB_1 := Lib.hid hb1
                have HB_2 := Lib.hid hb2
                have hw := hw.symm
                subst hw
                clear hb1 hb2
                go_upto_if 53 with fail
                go_cut [53] (fun _ wc => ∃ t5 : Int, wc.heap[Y]? = some (.cells #[.int .u8 e.kind, .int .i64 t1, .int .i64 t2, .int .i64 t3, .slice A4o n4o c4o, .slice A4e n4e c4e, .int .i64 t4, .int .i64 e.max, .slice A0p e.opn.length c0p, .int .i64 e.tickAt, .string e.name, .int .i64 e.n, .int .i64 t5] 40) ∧ Chg (fun b => b = Y) W8 wc ∧ i64I t5 ∧ (e.kind = 7 ∨ e.kind = 8 → t5 = e.at_))
                case first =>
                  cases b with
                  | false =>
                    have hrow : W8.heap[Y]? = some (.cells #[.int .u8 e.kind, .int .i64 t1, .int .i64 t2, .int .i64 t3, .slice A4o n4o c4o, .slice A4e n4e c4e, .int .i64 t4, .int .i64 e.max, .slice A0p e.opn.length c0p, .int .i64 e.tickAt, .string e.name, .int .i64 e.n, .int .i64 e.at_] 40) := by simp [World.setCell, Array.getElem?_modify, HY2.out]
                    have hchg : Chg (fun b => b = Y) W8 W8 := Chg.refl _ W8
                    have HR_ := Lib.hid hrow
                    have HG_ := Lib.hid hchg
                    clear hrow hchg
                    go_wp2_with fail
                    go_meet
                    case rel => exact ⟨_, HR_.out, HG_.out, HK.out.2.at_, fun _ => rfl⟩
                  | true =>
                    have QQ := Lib.hid (HB_1.out rfl)
                    have hrow : (W8.setCell ⟨Y, 12, none⟩ (.int .i64 4)).heap[Y]? = some (.cells #[.int .u8 e.kind, .int .i64 t1, .int .i64 t2, .int .i64 t3, .slice A4o n4o c4o, .slice A4e n4e c4e, .int .i64 t4, .int .i64 e.max, .slice A0p e.opn.length c0p, .int .i64 e.tickAt, .string e.name, .int .i64 e.n, .int .i64 4] 40) := by simp [World.setCell, Array.getElem?_modify, HY2.out]
                    have hchg : Chg (fun b => b = Y) W8 (W8.setCell ⟨Y, 12, none⟩ (.int .i64 4)) := Chg.setCell (S := fun b => b = Y) (Chg.refl _ W8) (p := ⟨Y, 12, none⟩) (fun _ => rfl) (.int .i64 4)
                    have HR_ := Lib.hid hrow
                    have HG_ := Lib.hid hchg
                    clear hrow hchg
                    go_wp2_with fail
                    go_meet
                    case rel => exact ⟨_, HR_.out, HG_.out, ⟨by omega, by omega⟩, fun h => absurd h QQ.out⟩
                case rest =>
                  obtain ⟨t5, hr1, hg1, ht1, hq1⟩ := hcut
                  have HYc := Lib.hid hr1
                  have HCc := Lib.hid (HG2.out.trans hg1)
                  have HT3 := Lib.hid ht1
                  have HQ3 := Lib.hid hq1
                  clear hr1 hg1 ht1 hq1 a1_0 a1_1 a1_2 a1_3 a1_4 a1_5 a1_6 a1_7 a1_8 a1_9 a1_10 a1_11 a1_12 f1_0 f1_1 f1_2 f1_3 f1_4 f1_5 f1_6 f1_7 f1_8 f1_9 f1_10 f1_11 f1_12 HY2 HG2 HB_1 HB_2
                  obtain ⟨hY5, hc5⟩ : wc.heap[Y]? = some (.cells #[.int .u8 e.kind, .int .i64 t1, .int .i64 t2, .int .i64 t3, .slice A4o n4o c4o, .slice A4e n4e c4e, .int .i64 t4, .int .i64 e.max, .slice A0p e.opn.length c0p, .int .i64 e.tickAt, .string e.name, .int .i64 e.n, .int .i64 t5] 40) ∧ Chg (fun b => b = Y) W6 wc := ⟨HYc.out, HCc.out⟩
                  have HN0c := Lib.hid (hc5.at_ HN0b.out (fun q => by have q1 : E0 = Y := q; omega))
                  have HE0c := Lib.hid (HE0b.out.keep hc5 (fun b hb q => by have hb' : b < Y := hb; have q' : b = Y := q; omega))
                  have HYE5 := HYE.out.keep hc5 (fun b hb q => by have hb' : b < Y := hb; have q' : b = Y := q; omega)
                  have hfit : EntS wc (fun b => b < wc.heap.size) ({ e with tx := t1, next := t2, nextID := t3, tickN := t4, at_ := t5 }) (.slice A4o n4o c4o) (.slice A4e n4e c4e) (.slice A0p e.opn.length c0p) := EntS.lt (F := fun b => b < Y) ⟨HYE5.ops, HYE5.evs, HYE5.opn⟩
                  have hok5 : (({ e with tx := t1, next := t2, nextID := t3, tickN := t4, at_ := t5 }) : EntD).ok := ⟨HK.out.2.kind, HT1.out.1, HT1.out.2.1, HT1.out.2.2, HK.out.2.ops, HK.out.2.evs, HT2.out, HK.out.2.max, HK.out.2.opn, HK.out.2.tickAt, HK.out.2.n, HT3.out, HK.out.2.fewO, HK.out.2.fewE, HK.out.2.fewN, HK.out.2.name⟩
                  have hL5 : entB ({ e with tx := t1, next := t2, nextID := t3, tickN := t4, at_ := t5 }) = L := (kinds_same e t1 t2 t3 t4 t5 HQ1.out HQ2.out HQ3.out).trans HL.out
                  have HS7 := Lib.hid (HS6.out.since hc5 (fun b hb => by have q' : b = Y := hb; omega))
                  obtain ⟨a1_0, a1_1, a1_2, a1_3, a1_4, a1_5, a1_6, a1_7, a1_8, a1_9, a1_10, a1_11, a1_12⟩ := ent_cells hY5
                  clear hY5 hc5 HYE5 HS6 HN0b HE0b
                  go_wp2_with fail
                  refine (encode_any ({ e with tx := t1, next := t2, nextID := t3, tickN := t4, at_ := t5 }) ⟨hek.1, hek.2⟩ hok5 _ _ _ wc hfit).mono ?_
                  rintro _ w7 ⟨v7, rfl, R7⟩
                  rw [hL5] at R7
                  obtain ⟨A7, c7, hv7⟩ := R7.form
                  subst hv7
                  have HPa := Lib.hid R7.bs
                  have HN0d := Lib.hid (R7.sm.at_ HN0c.out (fun h => h))
                  have HE0d' := Lib.hid (HE0c.out.same R7.sm)
                  have HS8 := Lib.hid (HS7.out.trans R7.sm)
                  clear R7 HN0c HE0c HS7 hfit hok5 hL5 a1_0 a1_1 a1_2 a1_3 a1_4 a1_5 a1_6 a1_7 a1_8 a1_9 a1_10 a1_11 a1_12 a0_0 a0_1 a0_2 a0_3 a0_4 a0_5 a0_6 a0_7 a0_8 a0_9 a0_10 a0_11 a0_12 HQ1 HQ2 HQ3 HT1 HT2 HT3 HYc HCc HYE HY0
                  go_wp2_with fail
                  refine (ntdecode_any _ _ L w7 HPa.out (by omega) (e, 0) HD).mono ?_
                  rintro _ w8 ⟨mo, me, mp, rfl, hE1, hs8⟩
                  obtain ⟨A1o, c1o, A1e, c1e, A1p, c1p, rfl, rfl, rfl⟩ := ent_forms hE1
                  have hN1 := heap_alloc_new w8 (.cells #[.int .u8 e.kind, .int .i64 e.tx, .int .i64 e.next, .int .i64 e.nextID, .slice A1o e.ops.length c1o, .slice A1e e.evs.length c1e, .int .i64 e.tickN, .int .i64 e.max, .slice A1p e.opn.length c1p, .int .i64 e.tickAt, .string e.name, .int .i64 e.n, .int .i64 e.at_] 40)
                  have hc1 := Chg.alloc_ (fun _ => False) w8 (.cells #[.int .u8 e.kind, .int .i64 e.tx, .int .i64 e.next, .int .i64 e.nextID, .slice A1o e.ops.length c1o, .slice A1e e.evs.length c1e, .int .i64 e.tickN, .int .i64 e.max, .slice A1p e.opn.length c1p, .int .i64 e.tickAt, .string e.name, .int .i64 e.n, .int .i64 e.at_] 40)
                  have hs81 := hs8.trans hc1
                  have HN1 := Lib.hid hN1
                  have HE1 := Lib.hid (hE1.same hc1)
                  have HN0 := Lib.hid (hs81.at_ HN0d.out (fun h => h))
                  have HE0 := Lib.hid (HE0d'.out.same hs81)
                  have HP := Lib.hid (HPa.out.same hs81)
                  have HS9 := Lib.hid (HS8.out.trans hs81)
                  clear hE1 hs8 hN1 hc1 hs81 HN0d HE0d' HPa HS8
                  unfold entV
                  unfold entCells
                  go_upto_region 15 with fail
                  generalize w8.alloc (.cells #[.int .u8 e.kind, .int .i64 e.tx, .int .i64 e.next, .int .i64 e.nextID, .slice A1o e.ops.length c1o, .slice A1e e.evs.length c1e, .int .i64 e.tickN, .int .i64 e.max, .slice A1p e.opn.length c1p, .int .i64 e.tickAt, .string e.name, .int .i64 e.n, .int .i64 e.at_] 40) = W2 at *
                  obtain ⟨E1, hE1⟩ : ∃ n, w8.heap.size = n := ⟨_, rfl⟩
                  rw [hE1] at HN1 ⊢
                  clear hE1
                  have hS2 := three_rows2 ((Chg.refl (fun _ => False) W2).drew.at_ HN0.out (fun h => h)) ((Chg.refl (fun _ => False) W2).drew.at_ HN1.out (fun h => h))
                  have hS1 := three_rows2 HN0.out HN1.out
                  have HE0d := Lib.hid (HE0.out.same (Chg.refl _ W2).drew)
                  go_region_held3 (fun w' => w'.cell? ⟨E0, 0, none⟩ = some (.int .u8 e.kind) ∧ w'.cell? ⟨E0, 1, none⟩ = some (.int .i64 e.tx) ∧ w'.cell? ⟨E0, 2, none⟩ = some (.int .i64 e.next) ∧ w'.cell? ⟨E0, 3, none⟩ = some (.int .i64 e.nextID) ∧ w'.cell? ⟨E0, 4, none⟩ = some (.slice A0o e.ops.length c0o) ∧ w'.cell? ⟨E0, 5, none⟩ = some (.slice A0e e.evs.length c0e) ∧ w'.cell? ⟨E0, 6, none⟩ = some (.int .i64 e.tickN) ∧ w'.cell? ⟨E0, 7, none⟩ = some (.int .i64 e.max) ∧ w'.cell? ⟨E0, 8, none⟩ = some (.slice A0p e.opn.length c0p) ∧ w'.cell? ⟨E0, 9, none⟩ = some (.int .i64 e.tickAt) ∧ w'.cell? ⟨E0, 10, none⟩ = some (.string e.name) ∧ w'.cell? ⟨E0, 11, none⟩ = some (.int .i64 e.n) ∧ w'.cell? ⟨E0, 12, none⟩ = some (.int .i64 e.at_) ∧ w'.cell? ⟨E1, 0, none⟩ = some (.int .u8 e.kind) ∧ w'.cell? ⟨E1, 1, none⟩ = some (.int .i64 e.tx) ∧ w'.cell? ⟨E1, 2, none⟩ = some (.int .i64 e.next) ∧ w'.cell? ⟨E1, 3, none⟩ = some (.int .i64 e.nextID) ∧ w'.cell? ⟨E1, 4, none⟩ = some (.slice A1o e.ops.length c1o) ∧ w'.cell? ⟨E1, 5, none⟩ = some (.slice A1e e.evs.length c1e) ∧ w'.cell? ⟨E1, 6, none⟩ = some (.int .i64 e.tickN) ∧ w'.cell? ⟨E1, 7, none⟩ = some (.int .i64 e.max) ∧ w'.cell? ⟨E1, 8, none⟩ = some (.slice A1p e.opn.length c1p) ∧ w'.cell? ⟨E1, 9, none⟩ = some (.int .i64 e.tickAt) ∧ w'.cell? ⟨E1, 10, none⟩ = some (.string e.name) ∧ w'.cell? ⟨E1, 11, none⟩ = some (.int .i64 e.n) ∧ w'.cell? ⟨E1, 12, none⟩ = some (.int .i64 e.at_)) (first | assumption | go_keep) (first | (go_at_call 18; ((refine (rencode_any e HK.out.1 HK.out.2 _ _ _ _ _ HE0d.out).mono ?_); rintro _ w3 ⟨v3, rfl, R3⟩; rw [HL.out] at R3; obtain ⟨A3, c3, hv3⟩ := R3.form; subst hv3; have hs3 := (Chg.refl _ W2).drew.trans R3.sm; have hS3 := three_rows2 (hs3.at_ HN0.out (fun h => h)) (hs3.at_ HN1.out (fun h => h)); have HB3 := Lib.hid R3.bs; have HZ3 := Lib.hid hs3; clear R3 hs3)) | (go_at_call 17; ((refine (alike_same _ _ L _ _ _ (HP.out.same HZ3.out) HB3.out).mono ?_); rintro _ w4 ⟨rfl, hs4⟩; have hs34 := HZ3.out.trans hs4; have hS4 := three_rows2 (hs34.at_ HN0.out (fun h => h)) (hs34.at_ HN1.out (fun h => h)); have HZ4 := Lib.hid hs34; clear hs34 hs4)) | (go_at_call 19; ((refine (back_any e _ _ _ _ _ (HE1.out.same HZ4.out) hfo hfe).mono ?_); rintro _ w7 ⟨vo7, ve7, rfl, hTQ⟩; have hs7 := HZ4.out.trans hTQ.same; have hS7 := three_rows2 (hs7.at_ HN0.out (fun h => h)) (hs7.at_ HN1.out (fun h => h)); have HTQ := Lib.hid hTQ; have HZ7 := Lib.hid hs7; clear hTQ hs7)) | (go_at_call 14; ((refine (rsame_any e e _ _ _ _ _ _ _ _ _ (HTQ.out.ents (HE1.out.same HZ4.out).opn) (HE0.out.same HZ7.out) true (by simp)).mono ?_); rintro _ w8 ⟨rfl, hs8⟩; have hs78 := HZ7.out.trans hs8; have hS8 := three_rows2 (hs78.at_ HN0.out (fun h => h)) (hs78.at_ HN1.out (fun h => h)); have HZ8 := Lib.hid hs78; clear hs78 hs8)))
                  all_goals
                    go_wp2_with fail
                    go_ret
                    exact ⟨rfl, HS9.out.trans HZ8.out⟩
  · go_wp2_with fail
    refine (small_any r _ _ _ _ F w1 (HR.out.same HS1.out) false (by simpa using hsm)).mono ?_
    rintro _ w2 ⟨rfl, hs2⟩
    have HS2 := Lib.hid (HS1.out.trans hs2)
    clear hs2 HB1 HS1 x0 x1 x2 x3 x4 x5 x6 x7 x8 x9 x10
    go_wp2_with fail
    refine (nine_any _).mono ?_
    rintro _ w3 ⟨rfl, hs3⟩
    go_wp2_with fail
    go_ret
    exact ⟨rfl, HS2.out.trans hs3⟩
end Go.Proofs.Ytdkankiohoocaaa
