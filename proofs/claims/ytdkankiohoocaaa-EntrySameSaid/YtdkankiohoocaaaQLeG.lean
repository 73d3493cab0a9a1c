/- carrierlaw16.nine and reads. -/
import Derived.Test.YtdkankiohoocaaaQLeC
import Derived.Test.YtdkankiohoocaaaQPl
import Derived.Test.YtdkankiohoocaaaQWrS
import Derived.Test.YtdkankiohoocaaaQRfR
import Derived.Test.YtdkankiohoocaaaQSmC
namespace Go.Proofs.Ytdkankiohoocaaa
set_option linter.unusedSimpArgs false
set_option linter.unusedVariables false
open Go Go.RowKit Go.Proofs

/-- The document's example. -/
abbrev e9 : EntD := ⟨9, 0, 0, 0, [], [], 0, 0, [], 0, ⟨#[]⟩, 2, 0⟩
theorem e9_dec : decEnt [9, 2] = (e9, 0) := by rfl
theorem e9_ok : e9.ok := by
  have z : wholeI 0 := ⟨by omega, by omega⟩
  have y : i64I 0 := ⟨by omega, by omega⟩
  exact ⟨⟨by decide, by decide⟩, z, z, z, by simp, by simp, z, z, by simp, y, ⟨by decide, by decide⟩, y, by simp, by simp, by simp, by decide⟩
theorem e9_enc : entB e9 = [9, 2] := by
  have h2 : numB 2 = [2] := numB_small (by omega)
  show UInt8.ofNat 9 :: numB 2 = _
  rw [h2]; rfl
theorem iter_opsLen : ∀ (k : Nat) (x : List OpD) (st : St), (iter opStep k x st).1.length ≤ x.length + k := by
  intro k
  induction k with
  | zero => intro x st; exact Nat.le_refl _
  | succ k ih =>
    intro x st
    show (if st.2 ≠ 0 then _ else _ : List OpD × St).1.length ≤ _
    split
    · simp
    · have := ih (opStep x st).1 (opStep x st).2
      have h1 : (opStep x st).1.length = x.length + 1 := by simp [opStep]
      omega
theorem iter_plsLen : ∀ (k : Nat) (x : List PlD) (st : St), (iter plStep k x st).1.length ≤ x.length + k := by
  intro k
  induction k with
  | zero => intro x st; exact Nat.le_refl _
  | succ k ih =>
    intro x st
    show (if st.2 ≠ 0 then _ else _ : List PlD × St).1.length ≤ _
    split
    · simp
    · have := ih (plStep x st).1 (plStep x st).2
      have h1 : (plStep x st).1.length = x.length + 1 := by simp [plStep]
      omega
theorem getOps_few (st : St) : (getOps st).1.length ≤ 255 := by
  unfold getOps
  have h1 := iter_opsLen (stepNum 0 255 st).1 [] (stepNum 0 255 st).2
  have h2 := stepNum_most 0 255 st
  simp at h1 ⊢
  omega
theorem getPls_few (st : St) : (getPls st).1.length ≤ 255 := by
  unfold getPls
  have h1 := iter_plsLen (stepNum 0 255 st).1 [] (stepNum 0 255 st).2
  have h2 := stepNum_most 0 255 st
  simp at h1 ⊢
  omega
theorem body_few {k : Int} {st : St} {e : EntD} {st' : St} (h : rdBody k st = some (e, st')) : e.ops.length ≤ 255 ∧ e.evs.length ≤ 255 := by
  have z1 : noEnt.ops.length = 0 := rfl
  have z2 : noEnt.evs.length = 0 := rfl
  unfold rdBody at h
  repeat' split at h
  all_goals first | (cases h; done) | skip
  all_goals
    injection h with h
    injection h with h1 h2
    subst h1
    first | exact ⟨getOps_few _, getPls_few _⟩ | exact ⟨by simp only; omega, getPls_few _⟩ | exact ⟨getOps_few _, by simp only; omega⟩ | exact ⟨by simp only; omega, by simp only; omega⟩
theorem dec_few (l : List UInt8) : (decEnt l).1.ops.length ≤ 255 ∧ (decEnt l).1.evs.length ≤ 255 := by
  cases l with
  | nil => exact ⟨Nat.zero_le _, Nat.zero_le _⟩
  | cons x l =>
    rw [decEnt_cons]
    cases h : rdBody (x.toNat : Int) (l, 0) with
    | none => exact ⟨Nat.zero_le _, Nat.zero_le _⟩
    | some p =>
      obtain ⟨e, st⟩ := p
      have hf := body_few h
      unfold decOf
      simp only
      split
      · exact hf
      · exact ⟨Nat.zero_le _, Nat.zero_le _⟩

set_option maxHeartbeats 6400000 in
set_option maxRecDepth 100000 in
theorem reads_any (v : Value) (l : List UInt8) (F : Nat → Prop) (w : World) (h : Bs w F v l) (hl : l.length ≤ 140737488355328) :
    Calls Try.prog 21 #[v] w fun en w' => en = .returned (.bool true) ∧ Same w w' := by
  obtain ⟨A, c, hv, -, -, -⟩ := id h
  subst hv
  have hfew := dec_few l
  obtain ⟨⟨e, f⟩, HQ⟩ : ∃ r, Hid (decEnt l = r) := ⟨_, rfl⟩
  rw [HQ.out] at hfew
  simp only at hfew
  have hfo : e.ops.length ≤ 1000 := by omega
  have hfe : e.evs.length ≤ 1000 := by omega
  go_enter Try.func21, Try.ntmps21
  go_wp2_with fail
  refine (ntdecode_any _ F l w h hl (e, f) HQ).mono ?_
  rintro _ w1 ⟨vo, ve, vp, rfl, hE1, hs1⟩
  obtain ⟨A1o, c1o, A1e, c1e, A1p, c1p, rfl, rfl, rfl⟩ := ent_forms hE1
  have hN1 := heap_alloc_new w1 (.cells #[.int .u8 e.kind, .int .i64 e.tx, .int .i64 e.next, .int .i64 e.nextID, .slice A1o e.ops.length c1o, .slice A1e e.evs.length c1e, .int .i64 e.tickN, .int .i64 e.max, .slice A1p e.opn.length c1p, .int .i64 e.tickAt, .string e.name, .int .i64 e.n, .int .i64 e.at_] 40)
  have hc1 := Chg.alloc_ (fun _ => False) w1 (.cells #[.int .u8 e.kind, .int .i64 e.tx, .int .i64 e.next, .int .i64 e.nextID, .slice A1o e.ops.length c1o, .slice A1e e.evs.length c1e, .int .i64 e.tickN, .int .i64 e.max, .slice A1p e.opn.length c1p, .int .i64 e.tickAt, .string e.name, .int .i64 e.n, .int .i64 e.at_] 40)
  have HE1 := Lib.hid (hE1.same hc1)
  have HN1 := Lib.hid hN1
  have HS1 := Lib.hid (hs1.trans hc1)
  clear hE1 hN1 hc1 hs1
  unfold entV
  unfold entCells
  go_upto_region 2 with fail
  generalize w1.alloc (.cells #[.int .u8 e.kind, .int .i64 e.tx, .int .i64 e.next, .int .i64 e.nextID, .slice A1o e.ops.length c1o, .slice A1e e.evs.length c1e, .int .i64 e.tickN, .int .i64 e.max, .slice A1p e.opn.length c1p, .int .i64 e.tickAt, .string e.name, .int .i64 e.n, .int .i64 e.at_] 40) = W1 at *
  obtain ⟨E1, hE1⟩ : ∃ n, w1.heap.size = n := ⟨_, rfl⟩
  rw [hE1] at HN1 ⊢
  clear hE1
  go_wp2_with fail
  refine (rdecode_any _ F l W1 (h.same HS1.out) hl (e, f) HQ).mono ?_
  rintro _ w2 ⟨uo, ue, up, rfl, hE2, hs2⟩
  obtain ⟨A2o, c2o, A2e, c2e, A2p, c2p, rfl, rfl, rfl⟩ := ent_forms hE2
  have hN2 := heap_alloc_new w2 (.cells #[.int .u8 e.kind, .int .i64 e.tx, .int .i64 e.next, .int .i64 e.nextID, .slice A2o e.ops.length c2o, .slice A2e e.evs.length c2e, .int .i64 e.tickN, .int .i64 e.max, .slice A2p e.opn.length c2p, .int .i64 e.tickAt, .string e.name, .int .i64 e.n, .int .i64 e.at_] 35)
  have hc2 := Chg.alloc_ (fun _ => False) w2 (.cells #[.int .u8 e.kind, .int .i64 e.tx, .int .i64 e.next, .int .i64 e.nextID, .slice A2o e.ops.length c2o, .slice A2e e.evs.length c2e, .int .i64 e.tickN, .int .i64 e.max, .slice A2p e.opn.length c2p, .int .i64 e.tickAt, .string e.name, .int .i64 e.n, .int .i64 e.at_] 35)
  have HE2 := Lib.hid (hE2.same hc2)
  have HN2 := Lib.hid hN2
  have HS2 := Lib.hid (HS1.out.trans (hs2.trans hc2))
  have HE1' := Lib.hid (HE1.out.same (hs2.trans hc2))
  have HN1' := Lib.hid ((hs2.trans hc2).at_ HN1.out (fun h => h))
  clear hE2 hN2 hc2 hs2 HE1 HN1 HS1
  unfold entV
  unfold entCells
  go_upto_region 3 with fail
  generalize w2.alloc (.cells #[.int .u8 e.kind, .int .i64 e.tx, .int .i64 e.next, .int .i64 e.nextID, .slice A2o e.ops.length c2o, .slice A2e e.evs.length c2e, .int .i64 e.tickN, .int .i64 e.max, .slice A2p e.opn.length c2p, .int .i64 e.tickAt, .string e.name, .int .i64 e.n, .int .i64 e.at_] 35) = W2 at *
  obtain ⟨E2, hE2⟩ : ∃ n, w2.heap.size = n := ⟨_, rfl⟩
  rw [hE2] at HN2 ⊢
  clear hE2
  obtain ⟨k1_0, k1_1, k1_2, k1_3, k1_4, k1_5, k1_6, k1_7, k1_8, k1_9, k1_10, k1_11, k1_12⟩ := ent_cells HN1'.out
  obtain ⟨k2_0, k2_1, k2_2, k2_3, k2_4, k2_5, k2_6, k2_7, k2_8, k2_9, k2_10, k2_11, k2_12⟩ := ent_cells HN2.out
  have hff : (f == f) = true := by simp
  have HE1d := Lib.hid (HE1'.out.same (Chg.refl _ W2).drew)
  go_region_held3 (fun w' => w'.cell? ⟨E1, 0, none⟩ = some (.int .u8 e.kind) ∧ w'.cell? ⟨E1, 1, none⟩ = some (.int .i64 e.tx) ∧ w'.cell? ⟨E1, 2, none⟩ = some (.int .i64 e.next) ∧ w'.cell? ⟨E1, 3, none⟩ = some (.int .i64 e.nextID) ∧ w'.cell? ⟨E1, 4, none⟩ = some (.slice A1o e.ops.length c1o) ∧ w'.cell? ⟨E1, 5, none⟩ = some (.slice A1e e.evs.length c1e) ∧ w'.cell? ⟨E1, 6, none⟩ = some (.int .i64 e.tickN) ∧ w'.cell? ⟨E1, 7, none⟩ = some (.int .i64 e.max) ∧ w'.cell? ⟨E1, 8, none⟩ = some (.slice A1p e.opn.length c1p) ∧ w'.cell? ⟨E1, 9, none⟩ = some (.int .i64 e.tickAt) ∧ w'.cell? ⟨E1, 10, none⟩ = some (.string e.name) ∧ w'.cell? ⟨E1, 11, none⟩ = some (.int .i64 e.n) ∧ w'.cell? ⟨E1, 12, none⟩ = some (.int .i64 e.at_) ∧ w'.cell? ⟨E2, 0, none⟩ = some (.int .u8 e.kind) ∧ w'.cell? ⟨E2, 1, none⟩ = some (.int .i64 e.tx) ∧ w'.cell? ⟨E2, 2, none⟩ = some (.int .i64 e.next) ∧ w'.cell? ⟨E2, 3, none⟩ = some (.int .i64 e.nextID) ∧ w'.cell? ⟨E2, 4, none⟩ = some (.slice A2o e.ops.length c2o) ∧ w'.cell? ⟨E2, 5, none⟩ = some (.slice A2e e.evs.length c2e) ∧ w'.cell? ⟨E2, 6, none⟩ = some (.int .i64 e.tickN) ∧ w'.cell? ⟨E2, 7, none⟩ = some (.int .i64 e.max) ∧ w'.cell? ⟨E2, 8, none⟩ = some (.slice A2p e.opn.length c2p) ∧ w'.cell? ⟨E2, 9, none⟩ = some (.int .i64 e.tickAt) ∧ w'.cell? ⟨E2, 10, none⟩ = some (.string e.name) ∧ w'.cell? ⟨E2, 11, none⟩ = some (.int .i64 e.n) ∧ w'.cell? ⟨E2, 12, none⟩ = some (.int .i64 e.at_)) (go_keep) (first | (go_at_call 19; ((refine (back_any e _ _ _ _ _ HE1d.out hfo hfe).mono ?_); rintro _ w3 ⟨vo', ve', rfl, hTP⟩; have hs3 := (Chg.refl _ W2).drew.trans hTP.same; obtain ⟨k3_0, k3_1, k3_2, k3_3, k3_4, k3_5, k3_6, k3_7, k3_8, k3_9, k3_10, k3_11, k3_12⟩ := ent_cells (hs3.at_ HN1'.out (fun h => h)); obtain ⟨k4_0, k4_1, k4_2, k4_3, k4_4, k4_5, k4_6, k4_7, k4_8, k4_9, k4_10, k4_11, k4_12⟩ := ent_cells (hs3.at_ HN2.out (fun h => h)); have HTP := Lib.hid hTP; have HS3 := Lib.hid hs3; clear hTP hs3)) | (go_at_call 14; ((refine (rsame_any e e _ _ _ _ _ _ _ _ _ (HTP.out.ents HE1d.out.opn) (HE2.out.same HS3.out) true (by simp)).mono ?_); rintro _ w4 ⟨rfl, hs4⟩; obtain ⟨k5_0, k5_1, k5_2, k5_3, k5_4, k5_5, k5_6, k5_7, k5_8, k5_9, k5_10, k5_11, k5_12⟩ := ent_cells ((HS3.out.trans hs4).at_ HN1'.out (fun h => h)); obtain ⟨k6_0, k6_1, k6_2, k6_3, k6_4, k6_5, k6_6, k6_7, k6_8, k6_9, k6_10, k6_11, k6_12⟩ := ent_cells ((HS3.out.trans hs4).at_ HN2.out (fun h => h)))))
  all_goals
    go_wp2_with fail
    go_ret
    exact ⟨rfl, (HS2.out.trans HS3.out).trans hs4⟩

theorem bs_lit2 (w : World) (n : Nat) (hn : n = w.heap.size) : Bs (w.alloc (.cells #[.int .u8 9, .int .u8 2] 5)) (fun k => k = n) (.slice (some ⟨n, 0, none⟩) 2 2) [9, 2] := by
  subst hn
  exact bs_lit w _ _ [9, 2] 2 rfl (by unfold maxLen; omega) rfl

set_option maxHeartbeats 6400000 in
set_option maxRecDepth 100000 in
theorem nine_any (w : World) :
    Calls Try.prog 9 #[] w fun en w' => en = .returned (.bool true) ∧ Same w w' := by
  have hN0 := heap_alloc_new w (.cells #[.int .u8 9, .int .i64 0, .int .i64 0, .int .i64 0, .slice none 0 0, .slice none 0 0, .int .i64 0, .int .i64 0, .slice none 0 0, .int .i64 0, .string ⟨#[]⟩, .int .i64 2, .int .i64 0] 40)
  have hc0 := Chg.alloc_ (fun _ => False) w (.cells #[.int .u8 9, .int .i64 0, .int .i64 0, .int .i64 0, .slice none 0 0, .slice none 0 0, .int .i64 0, .int .i64 0, .slice none 0 0, .int .i64 0, .string ⟨#[]⟩, .int .i64 2, .int .i64 0] 40)
  have HN0 := Lib.hid hN0
  have HC0 := Lib.hid hc0
  clear hN0 hc0
  go_enter Try.func9, Try.ntmps9
  go_upto_region 2 with fail
  generalize w.alloc (.cells #[.int .u8 9, .int .i64 0, .int .i64 0, .int .i64 0, .slice none 0 0, .slice none 0 0, .int .i64 0, .int .i64 0, .slice none 0 0, .int .i64 0, .string ⟨#[]⟩, .int .i64 2, .int .i64 0] 40) = W0 at *
  obtain ⟨E0, hE0⟩ : ∃ n, w.heap.size = n := ⟨_, rfl⟩
  rw [hE0] at HN0 ⊢
  clear hE0
  go_wp2_with fail
  refine (ntdecode_any _ _ [9, 2] _ (bs_lit2 W0 _ rfl) (by simp) (e9, 0) e9_dec).mono ?_
  rintro _ w1 ⟨vo, ve, vp, rfl, hE1, hs1⟩
  obtain ⟨A1o, c1o, A1e, c1e, A1p, c1p, rfl, rfl, rfl⟩ := ent_forms hE1
  have hs01 := (Chg.alloc_ (fun _ => False) W0 (.cells #[.int .u8 9, .int .u8 2] 5)).trans hs1
  have hN1 := heap_alloc_new w1 (.cells #[.int .u8 9, .int .i64 0, .int .i64 0, .int .i64 0, .slice A1o 0 c1o, .slice A1e 0 c1e, .int .i64 0, .int .i64 0, .slice A1p 0 c1p, .int .i64 0, .string ⟨#[]⟩, .int .i64 2, .int .i64 0] 40)
  have hc1 := Chg.alloc_ (fun _ => False) w1 (.cells #[.int .u8 9, .int .i64 0, .int .i64 0, .int .i64 0, .slice A1o 0 c1o, .slice A1e 0 c1e, .int .i64 0, .int .i64 0, .slice A1p 0 c1p, .int .i64 0, .string ⟨#[]⟩, .int .i64 2, .int .i64 0] 40)
  have HE1 := Lib.hid (hE1.same hc1)
  have HN1 := Lib.hid hN1
  have HN0' := Lib.hid ((hs01.trans hc1).at_ HN0.out (fun h => h))
  have HS1 := Lib.hid (HC0.out.trans (hs01.trans hc1))
  clear hE1 hN1 hc1 hs1 hs01 HN0 HC0
  unfold entV
  unfold entCells
  go_upto_region 3 with fail
  generalize w1.alloc (.cells #[.int .u8 9, .int .i64 0, .int .i64 0, .int .i64 0, .slice A1o 0 c1o, .slice A1e 0 c1e, .int .i64 0, .int .i64 0, .slice A1p 0 c1p, .int .i64 0, .string ⟨#[]⟩, .int .i64 2, .int .i64 0] 40) = W1 at *
  obtain ⟨E1, hE1⟩ : ∃ n, w1.heap.size = n := ⟨_, rfl⟩
  rw [hE1] at HN1 ⊢
  clear hE1
  obtain ⟨k1_0, k1_1, k1_2, k1_3, k1_4, k1_5, k1_6, k1_7, k1_8, k1_9, k1_10, k1_11, k1_12⟩ := ent_cells HN0'.out
  go_wp2_with fail
  refine (encode_any e9 ⟨by decide, by decide⟩ e9_ok _ _ _ W1 (EntS.none_ _ _ rfl rfl rfl)).mono ?_
  rintro _ w2 ⟨v2, rfl, R2⟩
  rw [e9_enc] at R2
  obtain ⟨A2, c2, hv2⟩ := R2.form
  subst hv2
  have hb2 := R2.bs
  have HS2 := Lib.hid (HS1.out.trans R2.sm)
  have HN0'' := Lib.hid (R2.sm.at_ HN0'.out (fun h => h))
  have HN1' := Lib.hid (R2.sm.at_ HN1.out (fun h => h))
  have HE1' := Lib.hid (HE1.out.same R2.sm)
  clear R2 HN0' HN1 HE1 HS1 k1_0 k1_1 k1_2 k1_3 k1_4 k1_5 k1_6 k1_7 k1_8 k1_9 k1_10 k1_11 k1_12
  go_wp2_with fail
  refine (alike_same _ _ [9, 2] _ _ _ (hb2.alloc _) (bs_lit2 w2 _ rfl)).mono ?_
  rintro _ w3 ⟨rfl, hs3⟩
  have hs23 := (Chg.alloc_ (fun _ => False) w2 (.cells #[.int .u8 9, .int .u8 2] 5)).trans hs3
  have HS3 := Lib.hid (HS2.out.trans hs23)
  have HE1'' := Lib.hid (HE1'.out.same hs23)
  obtain ⟨k1_0, k1_1, k1_2, k1_3, k1_4, k1_5, k1_6, k1_7, k1_8, k1_9, k1_10, k1_11, k1_12⟩ := ent_cells (hs23.at_ HN0''.out (fun h => h))
  obtain ⟨k2_0, k2_1, k2_2, k2_3, k2_4, k2_5, k2_6, k2_7, k2_8, k2_9, k2_10, k2_11, k2_12⟩ := ent_cells (hs23.at_ HN1'.out (fun h => h))
  clear hs3 hs23 HN0'' HN1' HE1' HS2 hb2
  go_wp2_with fail
  refine (esame_any e9 e9 _ _ _ _ _ _ _ (fun _ => False) _ HE1''.out (EntS.none_ _ _ rfl rfl rfl) true (by simp)).mono ?_
  rintro _ w4 ⟨rfl, hs4⟩
  go_wp2_with fail
  go_ret
  exact ⟨rfl, HS3.out.trans hs4⟩
end Go.Proofs.Ytdkankiohoocaaa
