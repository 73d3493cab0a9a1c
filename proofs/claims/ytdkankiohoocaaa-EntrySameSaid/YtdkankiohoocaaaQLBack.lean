/- The law EntryBack. -/
import Derived.Test.YtdkankiohoocaaaQLeFd
import Derived.Test.YtdkankiohoocaaaQLeG
import Derived.Test.YtdkankiohoocaaaQRfQ
import Derived.Test.YtdkankiohoocaaaQLTurned
namespace Go.Proofs.Ytdkankiohoocaaa
set_option linter.unusedSimpArgs false
set_option linter.unusedVariables false
open Go Go.RowKit Go.Proofs

theorem EntS.lt {w : World} {F : Nat → Prop} {e : EntD} {vo ve vp : Value} (h : EntS w F e vo ve vp) : EntS w (fun b => b < w.heap.size) e vo ve vp :=
  ⟨h.ops.mono (opCells_pos _) (fun b hb _ => hb), h.evs.mono (plCells_pos _) (fun b hb _ => hb), h.opn.mono (numCells_pos _) (fun b hb _ => hb)⟩
theorem dec_own (e : EntD) (h : e.rd) (hc : canE e = e) {L : List UInt8} (HL : Hid (entB e = L)) : Hid (decEnt L = (e, 0)) := by
  have h1 := ent_back e h
  rw [hc, HL.out] at h1
  exact Lib.hid h1

theorem three_rows {w : World} {E0 E1 E2 : Nat} {a0 a1 a2 a3 a4 a5 a6 a7 a8 a9 a10 a11 a12 b0 b1 b2 b3 b4 b5 b6 b7 b8 b9 b10 b11 b12 c0 c1 c2 c3 c4 c5 c6 c7 c8 c9 c10 c11 c12 : Value} {t0 t1 t2 : TypeId} (h0 : w.heap[E0]? = some (.cells #[a0, a1, a2, a3, a4, a5, a6, a7, a8, a9, a10, a11, a12] t0 (0, 0))) (h1 : w.heap[E1]? = some (.cells #[b0, b1, b2, b3, b4, b5, b6, b7, b8, b9, b10, b11, b12] t1 (0, 0))) (h2 : w.heap[E2]? = some (.cells #[c0, c1, c2, c3, c4, c5, c6, c7, c8, c9, c10, c11, c12] t2 (0, 0))) :
    w.cell? ⟨E0, 0, none⟩ = some a0 ∧ w.cell? ⟨E0, 1, none⟩ = some a1 ∧ w.cell? ⟨E0, 2, none⟩ = some a2 ∧ w.cell? ⟨E0, 3, none⟩ = some a3 ∧ w.cell? ⟨E0, 4, none⟩ = some a4 ∧ w.cell? ⟨E0, 5, none⟩ = some a5 ∧ w.cell? ⟨E0, 6, none⟩ = some a6 ∧ w.cell? ⟨E0, 7, none⟩ = some a7 ∧ w.cell? ⟨E0, 8, none⟩ = some a8 ∧ w.cell? ⟨E0, 9, none⟩ = some a9 ∧ w.cell? ⟨E0, 10, none⟩ = some a10 ∧ w.cell? ⟨E0, 11, none⟩ = some a11 ∧ w.cell? ⟨E0, 12, none⟩ = some a12 ∧ w.cell? ⟨E1, 0, none⟩ = some b0 ∧ w.cell? ⟨E1, 1, none⟩ = some b1 ∧ w.cell? ⟨E1, 2, none⟩ = some b2 ∧ w.cell? ⟨E1, 3, none⟩ = some b3 ∧ w.cell? ⟨E1, 4, none⟩ = some b4 ∧ w.cell? ⟨E1, 5, none⟩ = some b5 ∧ w.cell? ⟨E1, 6, none⟩ = some b6 ∧ w.cell? ⟨E1, 7, none⟩ = some b7 ∧ w.cell? ⟨E1, 8, none⟩ = some b8 ∧ w.cell? ⟨E1, 9, none⟩ = some b9 ∧ w.cell? ⟨E1, 10, none⟩ = some b10 ∧ w.cell? ⟨E1, 11, none⟩ = some b11 ∧ w.cell? ⟨E1, 12, none⟩ = some b12 ∧ w.cell? ⟨E2, 0, none⟩ = some c0 ∧ w.cell? ⟨E2, 1, none⟩ = some c1 ∧ w.cell? ⟨E2, 2, none⟩ = some c2 ∧ w.cell? ⟨E2, 3, none⟩ = some c3 ∧ w.cell? ⟨E2, 4, none⟩ = some c4 ∧ w.cell? ⟨E2, 5, none⟩ = some c5 ∧ w.cell? ⟨E2, 6, none⟩ = some c6 ∧ w.cell? ⟨E2, 7, none⟩ = some c7 ∧ w.cell? ⟨E2, 8, none⟩ = some c8 ∧ w.cell? ⟨E2, 9, none⟩ = some c9 ∧ w.cell? ⟨E2, 10, none⟩ = some c10 ∧ w.cell? ⟨E2, 11, none⟩ = some c11 ∧ w.cell? ⟨E2, 12, none⟩ = some c12 := by
  obtain ⟨k0_0, k0_1, k0_2, k0_3, k0_4, k0_5, k0_6, k0_7, k0_8, k0_9, k0_10, k0_11, k0_12⟩ := ent_cells h0
  obtain ⟨k1_0, k1_1, k1_2, k1_3, k1_4, k1_5, k1_6, k1_7, k1_8, k1_9, k1_10, k1_11, k1_12⟩ := ent_cells h1
  obtain ⟨k2_0, k2_1, k2_2, k2_3, k2_4, k2_5, k2_6, k2_7, k2_8, k2_9, k2_10, k2_11, k2_12⟩ := ent_cells h2
  exact ⟨k0_0, k0_1, k0_2, k0_3, k0_4, k0_5, k0_6, k0_7, k0_8, k0_9, k0_10, k0_11, k0_12, k1_0, k1_1, k1_2, k1_3, k1_4, k1_5, k1_6, k1_7, k1_8, k1_9, k1_10, k1_11, k1_12, k2_0, k2_1, k2_2, k2_3, k2_4, k2_5, k2_6, k2_7, k2_8, k2_9, k2_10, k2_11, k2_12⟩

set_option maxHeartbeats 6400000 in
set_option maxRecDepth 100000 in
theorem entryBack_any (r : RawD) (vo vk vg vs : Value) (F : Nat → Prop) (w : World) (h : RawS w F r vo vk vg vs) :
    Calls Try.prog 5 #[rawV r vo vk vg vs] w fun en w' => en = .returned (.bool true) ∧ Same w w' := by
  obtain ⟨Ao, co, Ak, ck, Ag, cg, As, cs, rfl, rfl, rfl, rfl⟩ := h.forms
  have HB := Lib.hid (heap_alloc_new w (.cells #[.int .u8 r.kind, .int .i64 r.tx, .int .i64 r.n, .int .i64 r.at_, .string r.name, .int .u8 r.max, .slice Ao r.opn.length co, .slice Ak r.keys.length ck, .string r.text, .slice Ag r.gone.length cg, .slice As r.spools.length cs] 25))
  have hal : Same w (w.alloc (.cells #[.int .u8 r.kind, .int .i64 r.tx, .int .i64 r.n, .int .i64 r.at_, .string r.name, .int .u8 r.max, .slice Ao r.opn.length co, .slice Ak r.keys.length ck, .string r.text, .slice Ag r.gone.length cg, .slice As r.spools.length cs] 25)) := Chg.alloc_ _ _ _
  have HAL := Lib.hid hal
  have HR := Lib.hid h
  clear h hal
  unfold rawV
  unfold rawCells
  go_enter Try.func5, Try.ntmps5
  go_upto_region 1 with fail
  generalize w.alloc (.cells #[.int .u8 r.kind, .int .i64 r.tx, .int .i64 r.n, .int .i64 r.at_, .string r.name, .int .u8 r.max, .slice Ao r.opn.length co, .slice Ak r.keys.length ck, .string r.text, .slice Ag r.gone.length cg, .slice As r.spools.length cs] 25) = W9 at *
  obtain ⟨B, hB⟩ : ∃ n, w.heap.size = n := ⟨_, rfl⟩
  rw [hB] at HB ⊢
  clear hB
  go_wp2_with fail
  refine (nine_any _).mono ?_
  rintro _ w1 ⟨rfl, hs1⟩
  have HB1 := Lib.hid (hs1.at_ HB.out (fun h => h))
  have HS1 := Lib.hid (HAL.out.trans hs1)
  obtain ⟨x0, x1, x2, x3, x4, x5, x6, x7, x8, x9, x10⟩ := raw_cells HB1.out
  clear hs1 HB HAL
  by_cases hsm : SmallR r
  · go_wp2_with fail
    refine (small_any r _ _ _ _ F w1 (HR.out.same HS1.out) true (by simpa using hsm)).mono ?_
    rintro _ w2 ⟨rfl, hs2⟩
    have HB2 := Lib.hid (hs2.at_ HB1.out (fun h => h))
    have HS2 := Lib.hid (HS1.out.trans hs2)
    clear x0 x1 x2 x3 x4 x5 x6 x7 x8 x9 x10
    obtain ⟨x0, x1, x2, x3, x4, x5, x6, x7, x8, x9, x10⟩ := raw_cells HB2.out
    clear hs2 HB1 HS1
    go_wp2_with fail
    refine (lof_any r _ _ _ _ F w2 (HR.out.same HS2.out) hsm).mono ?_
    rintro _ w3 ⟨e, uo, ue, up, rfl, hE, hs3, hO⟩
    have hlen := entB_len e hO.rd.ok ⟨hO.rd.kind.1, hO.rd.kind.2⟩
    have hfo := hO.rd.ok.fewO
    have hfe := hO.rd.ok.fewE
    have HK : Hid ((1 ≤ e.kind ∧ e.kind ≤ 11) ∧ e.ok) := Lib.hid ⟨⟨hO.rd.kind.1, hO.rd.kind.2⟩, hO.rd.ok⟩
    obtain ⟨L, HL⟩ : ∃ L, Hid (entB e = L) := ⟨_, Lib.hid rfl⟩
    have HD := dec_own e hO.rd hO.can HL
    rw [HL.out] at hlen
    obtain ⟨A0o, c0o, A0e, c0e, A0p, c0p, rfl, rfl, rfl⟩ := ent_forms hE
    have hN := heap_alloc_new w3 (.cells #[.int .u8 e.kind, .int .i64 e.tx, .int .i64 e.next, .int .i64 e.nextID, .slice A0o e.ops.length c0o, .slice A0e e.evs.length c0e, .int .i64 e.tickN, .int .i64 e.max, .slice A0p e.opn.length c0p, .int .i64 e.tickAt, .string e.name, .int .i64 e.n, .int .i64 e.at_] 35)
    have hc := Chg.alloc_ (fun _ => False) w3 (.cells #[.int .u8 e.kind, .int .i64 e.tx, .int .i64 e.next, .int .i64 e.nextID, .slice A0o e.ops.length c0o, .slice A0e e.evs.length c0e, .int .i64 e.tickN, .int .i64 e.max, .slice A0p e.opn.length c0p, .int .i64 e.tickAt, .string e.name, .int .i64 e.n, .int .i64 e.at_] 35)
    have HN0a := Lib.hid hN
    have HE0a := Lib.hid (hE.same hc)
    have HS3 := Lib.hid (HS2.out.trans (hs3.trans hc))
    clear hN hc hs3 HB2 HS2 x0 x1 x2 x3 x4 x5 x6 x7 x8 x9 x10 hO hE
    unfold entV
    unfold entCells
    go_upto_region 4 with fail
    generalize w3.alloc (.cells #[.int .u8 e.kind, .int .i64 e.tx, .int .i64 e.next, .int .i64 e.nextID, .slice A0o e.ops.length c0o, .slice A0e e.evs.length c0e, .int .i64 e.tickN, .int .i64 e.max, .slice A0p e.opn.length c0p, .int .i64 e.tickAt, .string e.name, .int .i64 e.n, .int .i64 e.at_] 35) = W3 at *
    obtain ⟨E0, hE0⟩ : ∃ n, w3.heap.size = n := ⟨_, rfl⟩
    rw [hE0] at HN0a ⊢
    clear hE0
    obtain ⟨a0_0, a0_1, a0_2, a0_3, a0_4, a0_5, a0_6, a0_7, a0_8, a0_9, a0_10, a0_11, a0_12⟩ := ent_cells HN0a.out
    go_wp2_with fail
    refine (turned_any e _ _ _ _ W3 HE0a.out hfo hfe).mono ?_
    rintro _ w4 ⟨vo4, ve4, rfl, hTP⟩
    have hE4 := (hTP.ents HE0a.out.opn).lt
    have HN0b := Lib.hid (hTP.same.at_ HN0a.out (fun h => h))
    have HE0b := Lib.hid (HE0a.out.same hTP.same)
    have HS4 := Lib.hid (HS3.out.trans hTP.same)
    clear hTP HN0a HE0a HS3 a0_0 a0_1 a0_2 a0_3 a0_4 a0_5 a0_6 a0_7 a0_8 a0_9 a0_10 a0_11 a0_12
    go_wp2_with fail
    refine (encode_any e HK.out.1 HK.out.2 _ _ _ w4 hE4).mono ?_
    rintro _ w5 ⟨v5, rfl, R5⟩
    rw [HL.out] at R5
    obtain ⟨A5, c5, hv5⟩ := R5.form
    subst hv5
    have HPa := Lib.hid R5.bs
    have HN0c := Lib.hid (R5.sm.at_ HN0b.out (fun h => h))
    have HE0c := Lib.hid (HE0b.out.same R5.sm)
    have HS5 := Lib.hid (HS4.out.trans R5.sm)
    clear R5 hE4 HN0b HE0b HS4
    go_wp2_with fail
    refine (ntdecode_any _ _ L w5 HPa.out (by omega) (e, 0) HD).mono ?_
    rintro _ w6 ⟨mo, me, mp, rfl, hE1, hs6⟩
    obtain ⟨A1o, c1o, A1e, c1e, A1p, c1p, rfl, rfl, rfl⟩ := ent_forms hE1
    have hN1 := heap_alloc_new w6 (.cells #[.int .u8 e.kind, .int .i64 e.tx, .int .i64 e.next, .int .i64 e.nextID, .slice A1o e.ops.length c1o, .slice A1e e.evs.length c1e, .int .i64 e.tickN, .int .i64 e.max, .slice A1p e.opn.length c1p, .int .i64 e.tickAt, .string e.name, .int .i64 e.n, .int .i64 e.at_] 40)
    have hc1 := Chg.alloc_ (fun _ => False) w6 (.cells #[.int .u8 e.kind, .int .i64 e.tx, .int .i64 e.next, .int .i64 e.nextID, .slice A1o e.ops.length c1o, .slice A1e e.evs.length c1e, .int .i64 e.tickN, .int .i64 e.max, .slice A1p e.opn.length c1p, .int .i64 e.tickAt, .string e.name, .int .i64 e.n, .int .i64 e.at_] 40)
    have hs61 := hs6.trans hc1
    have HN1a := Lib.hid hN1
    have HE1a := Lib.hid (hE1.same hc1)
    have HN0d := Lib.hid (hs61.at_ HN0c.out (fun h => h))
    have HE0e := Lib.hid (HE0c.out.same hs61)
    have HPb := Lib.hid (HPa.out.same hs61)
    have HS6 := Lib.hid (HS5.out.trans hs61)
    clear hE1 hs6 hN1 hc1 hs61 HN0c HE0c HPa HS5
    unfold entV
    unfold entCells
    go_upto_region 6 with fail
    generalize w6.alloc (.cells #[.int .u8 e.kind, .int .i64 e.tx, .int .i64 e.next, .int .i64 e.nextID, .slice A1o e.ops.length c1o, .slice A1e e.evs.length c1e, .int .i64 e.tickN, .int .i64 e.max, .slice A1p e.opn.length c1p, .int .i64 e.tickAt, .string e.name, .int .i64 e.n, .int .i64 e.at_] 40) = W1 at *
    obtain ⟨E1, hE1⟩ : ∃ n, w6.heap.size = n := ⟨_, rfl⟩
    rw [hE1] at HN1a ⊢
    clear hE1
    go_wp2_with fail
    refine (rdecode_any _ _ L W1 HPb.out (by omega) (e, 0) HD).mono ?_
    rintro _ w7 ⟨no, ne, np, rfl, hE2, hs7⟩
    obtain ⟨A2o, c2o, A2e, c2e, A2p, c2p, rfl, rfl, rfl⟩ := ent_forms hE2
    have hN2 := heap_alloc_new w7 (.cells #[.int .u8 e.kind, .int .i64 e.tx, .int .i64 e.next, .int .i64 e.nextID, .slice A2o e.ops.length c2o, .slice A2e e.evs.length c2e, .int .i64 e.tickN, .int .i64 e.max, .slice A2p e.opn.length c2p, .int .i64 e.tickAt, .string e.name, .int .i64 e.n, .int .i64 e.at_] 35)
    have hc2 := Chg.alloc_ (fun _ => False) w7 (.cells #[.int .u8 e.kind, .int .i64 e.tx, .int .i64 e.next, .int .i64 e.nextID, .slice A2o e.ops.length c2o, .slice A2e e.evs.length c2e, .int .i64 e.tickN, .int .i64 e.max, .slice A2p e.opn.length c2p, .int .i64 e.tickAt, .string e.name, .int .i64 e.n, .int .i64 e.at_] 35)
    have hs72 := hs7.trans hc2
    have HN2 := Lib.hid hN2
    have HE2 := Lib.hid (hE2.same hc2)
    have HN1 := Lib.hid (hs72.at_ HN1a.out (fun h => h))
    have HE1 := Lib.hid (HE1a.out.same hs72)
    have HN0 := Lib.hid (hs72.at_ HN0d.out (fun h => h))
    have HE0 := Lib.hid (HE0e.out.same hs72)
    have HP := Lib.hid (HPb.out.same hs72)
    have HS7 := Lib.hid (HS6.out.trans hs72)
    clear hE2 hs7 hN2 hc2 hs72 HN1a HE1a HN0d HE0e HPb HS6
    unfold entV
    unfold entCells
    go_upto_region 7 with fail
    generalize w7.alloc (.cells #[.int .u8 e.kind, .int .i64 e.tx, .int .i64 e.next, .int .i64 e.nextID, .slice A2o e.ops.length c2o, .slice A2e e.evs.length c2e, .int .i64 e.tickN, .int .i64 e.max, .slice A2p e.opn.length c2p, .int .i64 e.tickAt, .string e.name, .int .i64 e.n, .int .i64 e.at_] 35) = W2 at *
    obtain ⟨E2, hE2⟩ : ∃ n, w7.heap.size = n := ⟨_, rfl⟩
    rw [hE2] at HN2 ⊢
    clear hE2
    have hS2 := three_rows ((Chg.refl (fun _ => False) W2).drew.at_ HN0.out (fun h => h)) ((Chg.refl (fun _ => False) W2).drew.at_ HN1.out (fun h => h)) ((Chg.refl (fun _ => False) W2).drew.at_ HN2.out (fun h => h))
    have hS1 := three_rows HN0.out HN1.out HN2.out
    have HE0d := Lib.hid (HE0.out.same (Chg.refl _ W2).drew)
    go_region_held3 (fun w' => w'.cell? ⟨E0, 0, none⟩ = some (.int .u8 e.kind) ∧ w'.cell? ⟨E0, 1, none⟩ = some (.int .i64 e.tx) ∧ w'.cell? ⟨E0, 2, none⟩ = some (.int .i64 e.next) ∧ w'.cell? ⟨E0, 3, none⟩ = some (.int .i64 e.nextID) ∧ w'.cell? ⟨E0, 4, none⟩ = some (.slice A0o e.ops.length c0o) ∧ w'.cell? ⟨E0, 5, none⟩ = some (.slice A0e e.evs.length c0e) ∧ w'.cell? ⟨E0, 6, none⟩ = some (.int .i64 e.tickN) ∧ w'.cell? ⟨E0, 7, none⟩ = some (.int .i64 e.max) ∧ w'.cell? ⟨E0, 8, none⟩ = some (.slice A0p e.opn.length c0p) ∧ w'.cell? ⟨E0, 9, none⟩ = some (.int .i64 e.tickAt) ∧ w'.cell? ⟨E0, 10, none⟩ = some (.string e.name) ∧ w'.cell? ⟨E0, 11, none⟩ = some (.int .i64 e.n) ∧ w'.cell? ⟨E0, 12, none⟩ = some (.int .i64 e.at_) ∧ w'.cell? ⟨E1, 0, none⟩ = some (.int .u8 e.kind) ∧ w'.cell? ⟨E1, 1, none⟩ = some (.int .i64 e.tx) ∧ w'.cell? ⟨E1, 2, none⟩ = some (.int .i64 e.next) ∧ w'.cell? ⟨E1, 3, none⟩ = some (.int .i64 e.nextID) ∧ w'.cell? ⟨E1, 4, none⟩ = some (.slice A1o e.ops.length c1o) ∧ w'.cell? ⟨E1, 5, none⟩ = some (.slice A1e e.evs.length c1e) ∧ w'.cell? ⟨E1, 6, none⟩ = some (.int .i64 e.tickN) ∧ w'.cell? ⟨E1, 7, none⟩ = some (.int .i64 e.max) ∧ w'.cell? ⟨E1, 8, none⟩ = some (.slice A1p e.opn.length c1p) ∧ w'.cell? ⟨E1, 9, none⟩ = some (.int .i64 e.tickAt) ∧ w'.cell? ⟨E1, 10, none⟩ = some (.string e.name) ∧ w'.cell? ⟨E1, 11, none⟩ = some (.int .i64 e.n) ∧ w'.cell? ⟨E1, 12, none⟩ = some (.int .i64 e.at_) ∧ w'.cell? ⟨E2, 0, none⟩ = some (.int .u8 e.kind) ∧ w'.cell? ⟨E2, 1, none⟩ = some (.int .i64 e.tx) ∧ w'.cell? ⟨E2, 2, none⟩ = some (.int .i64 e.next) ∧ w'.cell? ⟨E2, 3, none⟩ = some (.int .i64 e.nextID) ∧ w'.cell? ⟨E2, 4, none⟩ = some (.slice A2o e.ops.length c2o) ∧ w'.cell? ⟨E2, 5, none⟩ = some (.slice A2e e.evs.length c2e) ∧ w'.cell? ⟨E2, 6, none⟩ = some (.int .i64 e.tickN) ∧ w'.cell? ⟨E2, 7, none⟩ = some (.int .i64 e.max) ∧ w'.cell? ⟨E2, 8, none⟩ = some (.slice A2p e.opn.length c2p) ∧ w'.cell? ⟨E2, 9, none⟩ = some (.int .i64 e.tickAt) ∧ w'.cell? ⟨E2, 10, none⟩ = some (.string e.name) ∧ w'.cell? ⟨E2, 11, none⟩ = some (.int .i64 e.n) ∧ w'.cell? ⟨E2, 12, none⟩ = some (.int .i64 e.at_)) (first | assumption | go_keep) (first | (go_at_call 18; ((refine (rencode_any e HK.out.1 HK.out.2 _ _ _ _ _ HE0d.out).mono ?_); rintro _ w3 ⟨v3, rfl, R3⟩; rw [HL.out] at R3; obtain ⟨A3, c3, hv3⟩ := R3.form; subst hv3; have hs3 := (Chg.refl _ W2).drew.trans R3.sm; have hS3 := three_rows (hs3.at_ HN0.out (fun h => h)) (hs3.at_ HN1.out (fun h => h)) (hs3.at_ HN2.out (fun h => h)); have HB3 := Lib.hid R3.bs; have HZ3 := Lib.hid hs3; clear R3 hs3)) | (go_at_call 17; ((refine (alike_same _ _ L _ _ _ (HP.out.same HZ3.out) HB3.out).mono ?_); rintro _ w4 ⟨rfl, hs4⟩; have hs34 := HZ3.out.trans hs4; have hS4 := three_rows (hs34.at_ HN0.out (fun h => h)) (hs34.at_ HN1.out (fun h => h)) (hs34.at_ HN2.out (fun h => h)); have HZ4 := Lib.hid hs34; clear hs34 hs4)) | (go_at_call 12; ((refine (turned_any e _ _ _ _ _ (HE0.out.same HZ4.out) hfo hfe).mono ?_); rintro _ w5 ⟨vo5, ve5, rfl, hTP⟩; have hs5 := HZ4.out.trans hTP.same; have hS5 := three_rows (hs5.at_ HN0.out (fun h => h)) (hs5.at_ HN1.out (fun h => h)) (hs5.at_ HN2.out (fun h => h)); have HTP := Lib.hid hTP; have HZ5 := Lib.hid hs5; clear hTP hs5)) | (go_at_call 13; ((refine (esame_any e e _ _ _ _ _ _ _ _ _ (HE1.out.same HZ5.out) (HTP.out.ents (HE0.out.same HZ4.out).opn) true (by simp)).mono ?_); rintro _ w6 ⟨rfl, hs6⟩; have hs56 := HZ5.out.trans hs6; have hS6 := three_rows (hs56.at_ HN0.out (fun h => h)) (hs56.at_ HN1.out (fun h => h)) (hs56.at_ HN2.out (fun h => h)); have HZ6 := Lib.hid hs56; clear hs56 hs6)) | (go_at_call 19; ((refine (back_any e _ _ _ _ _ (HE1.out.same HZ6.out) hfo hfe).mono ?_); rintro _ w7 ⟨vo7, ve7, rfl, hTQ⟩; have hs7 := HZ6.out.trans hTQ.same; have hS7 := three_rows (hs7.at_ HN0.out (fun h => h)) (hs7.at_ HN1.out (fun h => h)) (hs7.at_ HN2.out (fun h => h)); have HTQ := Lib.hid hTQ; have HZ7 := Lib.hid hs7; clear hTQ hs7)) | (go_at_call 14; ((refine (rsame_any e e _ _ _ _ _ _ _ _ _ (HE2.out.same HZ8.out) (HE0.out.same HZ8.out) true (by simp)).mono ?_); rintro _ w9 ⟨rfl, hs9⟩; have hs89 := HZ8.out.trans hs9; have hS9 := three_rows (hs89.at_ HN0.out (fun h => h)) (hs89.at_ HN1.out (fun h => h)) (hs89.at_ HN2.out (fun h => h)); have HZ9 := Lib.hid hs89; clear hs89 hs9)) | (go_at_call 14; ((refine (rsame_any e e _ _ _ _ _ _ _ _ _ (HTQ.out.ents (HE1.out.same HZ6.out).opn) (HE2.out.same HZ7.out) true (by simp)).mono ?_); rintro _ w8 ⟨rfl, hs8⟩; have hs78 := HZ7.out.trans hs8; have hS8 := three_rows (hs78.at_ HN0.out (fun h => h)) (hs78.at_ HN1.out (fun h => h)) (hs78.at_ HN2.out (fun h => h)); have HZ8 := Lib.hid hs78; clear hs78 hs8)))
    all_goals
      go_wp2_with fail
      go_ret
      exact ⟨rfl, HS7.out.trans HZ9.out⟩
  · go_wp2_with fail
    refine (small_any r _ _ _ _ F w1 (HR.out.same HS1.out) false (by simpa using hsm)).mono ?_
    rintro _ w2 ⟨rfl, hs2⟩
    have HS2 := Lib.hid (HS1.out.trans hs2)
    clear hs2 HB1 HS1 x0 x1 x2 x3 x4 x5 x6 x7 x8 x9 x10
    go_wp2_with fail
    refine (nine_any _).mono ?_
    rintro _ w3 ⟨rfl, hs3⟩
    go_wp2_with fail
    go_ret
    exact ⟨rfl, HS2.out.trans hs3⟩
end Go.Proofs.Ytdkankiohoocaaa
