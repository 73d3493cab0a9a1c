/- The walk of carrierlaw09.EventRight: may an event be? Of any fields. -/
import Derived.Test.YtpommgohciigoaaEvN
import Derived.BigRegion
namespace Go.Proofs.Ytpommgohciigoaa
open Go Go.RowKit Go.Proofs

theorem made_bytes (n : Nat) : madeCells (Value.int .u8 0).cells n = (bvs (List.replicate n 0)).toArray := by
  apply Array.ext
  · simp [size_madeCells]
  · intro i h1 h2
    simp only [madeCells, bvs, Value.cells]
    simp [Nat.mod_one]
theorem run_mkB (k : Nat) (w : World) (hk : k ≤ 281474976710656) :
    (Instr.makeSlice 28 (.int .i64 (k : Int)) (.int .i64 (k : Int))).run Try.prog w = .ok (.slice (some ⟨w.heap.size, 0, none⟩) k k) (w.alloc (.cells (bvs (List.replicate k 0)).toArray 5)) := by
  obtain ⟨i0, hi, hz0, hz1, hz2⟩ := info_parts info_u8
  have hr := run_make (P := Try.prog) w 28 5 i0 (.int .u8 0) Try.underlying28 hi hz0 .i64 .i64 k k (by omega) (Int.le_refl _) (by rw [hz2]; omega) (by omega)
  simp only [Int.toNat_natCast] at hr
  rw [hz1, Nat.mul_one, made_bytes] at hr
  exact hr
theorem cv_at (w : World) (g k : Nat) (hk : k ≤ maxLen) (hg : w.heap[g]? = some (.cells (bvs (List.replicate k 0)).toArray 5 (0, 0))) :
    (convert 28 9 (.slice (some ⟨g, 0, none⟩) k k)).run Try.prog w = .ok (.string ⟨(List.replicate k 0).toArray⟩) w := by
  refine run_toS w (fun _ => True) _ (List.replicate k 0) ⟨some ⟨g, 0, none⟩, k, by rw [List.length_replicate], by rw [List.length_replicate]; exact Nat.le_refl _, hk, fun _ => ⟨g, 0, rfl, trivial, fun i x hi => ?_⟩⟩
  rw [cell_of_row w g _ _ _ _ hg, Nat.zero_add, List.getElem?_toArray, bvs_get, hi]; rfl
/-- An event that has been laid. -/
def EvMade (w wc : World) (v : Value) (x : Array Value) : Prop := ∃ E, v = .pointer (some ⟨E, 0, none⟩) ∧ wc.heap[E]? = some (.cells x 26 (0, 0)) ∧ Same w wc ∧ w.heap.size ≤ E
/-- What the conversions of the two new rows of bytes answer, in whatever order all is laid. -/
structure Cv (W : World) (N k : Nat) (Z : Array Value) (S : ByteArray) : Prop where
  a0 : (convert 28 9 (.slice (some ⟨N, 0, none⟩) k k)).run Try.prog (W.alloc (.cells Z 5)).drew = .ok (.string S) (W.alloc (.cells Z 5)).drew
  a1 : ∀ o, (convert 28 9 (.slice (some ⟨N, 0, none⟩) k k)).run Try.prog ((W.alloc (.cells Z 5)).alloc o).drew = .ok (.string S) ((W.alloc (.cells Z 5)).alloc o).drew
  a2 : ∀ o o', (convert 28 9 (.slice (some ⟨N, 0, none⟩) k k)).run Try.prog (((W.alloc (.cells Z 5)).alloc o).alloc o').drew = .ok (.string S) (((W.alloc (.cells Z 5)).alloc o).alloc o').drew
  b0 : ∀ o, (convert 28 9 (.slice (some ⟨N + 1, 0, none⟩) k k)).run Try.prog ((W.alloc o).alloc (.cells Z 5)).drew = .ok (.string S) ((W.alloc o).alloc (.cells Z 5)).drew
  b1 : ∀ o o', (convert 28 9 (.slice (some ⟨N + 1, 0, none⟩) k k)).run Try.prog (((W.alloc o).alloc (.cells Z 5)).alloc o').drew = .ok (.string S) (((W.alloc o).alloc (.cells Z 5)).alloc o').drew
  c0 : ∀ o o', (convert 28 9 (.slice (some ⟨N + 1 + 1, 0, none⟩) k k)).run Try.prog (((W.alloc o).alloc o').alloc (.cells Z 5)).drew = .ok (.string S) (((W.alloc o).alloc o').alloc (.cells Z 5)).drew
theorem Cv.mk_ (W : World) (N k : Nat) (hN : W.heap.size = N) (hk : k ≤ maxLen) : Cv W N k (bvs (List.replicate k 0)).toArray ⟨(List.replicate k 0).toArray⟩ := by
  subst hN
  have h (w : World) := heap_alloc_new w (.cells (bvs (List.replicate k 0)).toArray 5)
  have k1 (w : World) (o : Obj) {g : Nat} {x : Obj} (hx : w.heap[g]? = some x) : (w.alloc o).heap[g]? = some x := (Chg.alloc_ (fun _ => False) w o).at_ hx (fun h => h)
  have s1 (w : World) (o : Obj) : (w.alloc o).heap.size = w.heap.size + 1 := by simp
  exact ⟨cv_at _ _ _ hk (h _), fun _ => cv_at _ _ _ hk (k1 _ _ (h _)), fun _ _ => cv_at _ _ _ hk (k1 _ _ (k1 _ _ (h _))), fun o => cv_at _ _ _ hk (by rw [← s1 W o]; exact h _), fun o _ => cv_at _ _ _ hk (k1 _ _ (by rw [← s1 W o]; exact h _)), fun o o' => cv_at _ _ _ hk (by rw [← s1 W o, ← s1 (W.alloc o) o']; exact h _)⟩

theorem EvMade.p0 (w : World) (x : Array Value) (a b : Obj) : EvMade w (((w.alloc (.cells x 26)).alloc a).alloc b).drew (.pointer (some ⟨w.heap.size, 0, none⟩)) x :=
  ⟨_, rfl, (Chg.alloc_ (fun _ => False) _ b).at_ ((Chg.alloc_ (fun _ => False) _ a).at_ (heap_alloc_new w _) (fun h => h)) (fun h => h), (((Chg.alloc_ _ _ _).alloc _).alloc _).drew, Nat.le_refl _⟩
theorem EvMade.p1 (w : World) (x : Array Value) (a b : Obj) : EvMade w (((w.alloc a).alloc (.cells x 26)).alloc b).drew (.pointer (some ⟨w.heap.size + 1, 0, none⟩)) x := by
  have h := (Chg.alloc_ (fun _ => False) _ b).at_ (heap_alloc_new (w.alloc a) (.cells x 26)) (fun h => h)
  rw [show (w.alloc a).heap.size = w.heap.size + 1 by simp] at h
  exact ⟨_, rfl, h, (((Chg.alloc_ _ _ _).alloc _).alloc _).drew, by omega⟩
theorem EvMade.p2 (w : World) (x : Array Value) (a b : Obj) : EvMade w (((w.alloc a).alloc b).alloc (.cells x 26)).drew (.pointer (some ⟨w.heap.size + 1 + 1, 0, none⟩)) x := by
  have h := heap_alloc_new ((w.alloc a).alloc b) (.cells x 26)
  rw [show ((w.alloc a).alloc b).heap.size = w.heap.size + 1 + 1 by simp] at h
  exact ⟨_, rfl, h, (((Chg.alloc_ _ _ _).alloc _).alloc _).drew, by omega⟩

theorem eright_b (id tx : Int) (o : ByteArray) (tries table kind key : Int) (t : ByteArray) (w : World) (b : Bool) (hq : Hid (decide (EvOk id tx o.size tries table kind t.size) = b)) :
    Calls Try.prog 13 #[.agg #[.int .i64 id, .int .i64 tx, .string o, .int .i64 tries, .int .i64 table, .int .u8 kind, .int .i64 key, .string t]] w fun en w' => en = .returned (.bool b) ∧ Same w w' :=
  (eright_any id tx o tries table kind key t w).mono fun en w' h => by rw [hq.out] at h; exact h
theorem pright_b (id tx : Int) (o : ByteArray) (tries table kind key : Int) (t : ByteArray) (w : World) (b : Bool) (hq : Hid (decide (EvOk id tx o.size tries table kind t.size) = b)) :
    Calls Try.prog 18 #[.agg #[.int .i64 id, .int .i64 tx, .string o, .int .i64 tries, .int .i64 table, .int .u8 kind, .int .i64 key, .string t]] w fun en w' => en = .returned (.bool b) ∧ Same w w' :=
  (pright_any id tx o tries table kind key t w).mono fun en w' h => by rw [hq.out] at h; exact h
/-- Two events that lie there. -/
theorem both_cells {w w' : World} {E E2 : Nat} {a0 a1 a2 a3 a4 a5 a6 a7 b0 b1 b2 b3 b4 b5 b6 b7 : Value} {t : TypeId} (h : w.heap[E]? = some (.cells #[a0, a1, a2, a3, a4, a5, a6, a7] t (0, 0))) (h2 : w.heap[E2]? = some (.cells #[b0, b1, b2, b3, b4, b5, b6, b7] t (0, 0))) (hs : Same w w') :
    (w'.cell? ⟨E, 0, none⟩ = some a0 ∧ w'.cell? ⟨E, 1, none⟩ = some a1 ∧ w'.cell? ⟨E, 2, none⟩ = some a2 ∧ w'.cell? ⟨E, 3, none⟩ = some a3 ∧ w'.cell? ⟨E, 4, none⟩ = some a4 ∧ w'.cell? ⟨E, 5, none⟩ = some a5 ∧ w'.cell? ⟨E, 6, none⟩ = some a6 ∧ w'.cell? ⟨E, 7, none⟩ = some a7) ∧
    (w'.cell? ⟨E2, 0, none⟩ = some b0 ∧ w'.cell? ⟨E2, 1, none⟩ = some b1 ∧ w'.cell? ⟨E2, 2, none⟩ = some b2 ∧ w'.cell? ⟨E2, 3, none⟩ = some b3 ∧ w'.cell? ⟨E2, 4, none⟩ = some b4 ∧ w'.cell? ⟨E2, 5, none⟩ = some b5 ∧ w'.cell? ⟨E2, 6, none⟩ = some b6 ∧ w'.cell? ⟨E2, 7, none⟩ = some b7) :=
  ⟨ev_cells (hs.at_ h (fun h => h)), ev_cells (hs.at_ h2 (fun h => h))⟩

set_option maxHeartbeats 1600000 in
set_option maxRecDepth 100000 in
theorem eventRight_walk (id tx long wide tries table kind : Int) (hid : id ≤ 9223372036854775807) (htx : tx ≤ 9223372036854775807) (hl0 : 0 ≤ long) (hl1 : long ≤ 255) (hw0 : 0 ≤ wide) (_hw1 : wide ≤ 255) (hk0 : 0 ≤ kind) (hk1 : kind ≤ 255) (w : World) :
    Calls Try.prog 6 #[.int .i64 id, .int .i64 tx, .int .u8 long, .int .u8 wide, .int .i64 tries, .int .i64 table, .int .u8 kind] w fun en w' => en = .returned (.bool true) ∧ Same w w' := by
  obtain ⟨m1, hm1⟩ : ∃ k : Nat, long.tmod 50 = (k : Int) := ⟨(long % 50).toNat, by rw [Int.tmod_eq_emod_of_nonneg hl0]; omega⟩
  obtain ⟨m2, hm2⟩ : ∃ k : Nat, wide.tmod 50 = (k : Int) := ⟨(wide % 50).toNat, by rw [Int.tmod_eq_emod_of_nonneg hw0]; omega⟩
  have h1 : (m1 : Int) < 50 := by rw [Int.tmod_eq_emod_of_nonneg hl0] at hm1; omega
  have h2 : (m2 : Int) < 50 := by rw [Int.tmod_eq_emod_of_nonneg hw0] at hm2; omega
  have hk1' : m1 ≤ maxLen := by unfold maxLen; omega
  have hk2' : m2 ≤ maxLen := by unfold maxLen; omega
  have hC1 := Cv.mk_ w w.heap.size m1 rfl hk1'
  have hC2 := Cv.mk_ w w.heap.size m2 rfl hk2'
  have hM1 := fun w => run_mkB m1 w (by omega)
  have hM2 := fun w => run_mkB m2 w (by omega)
  obtain ⟨Z1, HZ1⟩ : ∃ Z : Array Value, (bvs (List.replicate m1 0)).toArray = Z := ⟨_, rfl⟩
  obtain ⟨Z2, HZ2⟩ : ∃ Z : Array Value, (bvs (List.replicate m2 0)).toArray = Z := ⟨_, rfl⟩
  obtain ⟨S1, HS1⟩ : ∃ S : ByteArray, (⟨(List.replicate m1 0).toArray⟩ : ByteArray) = S := ⟨_, rfl⟩
  obtain ⟨S2, HS2⟩ : ∃ S : ByteArray, (⟨(List.replicate m2 0).toArray⟩ : ByteArray) = S := ⟨_, rfl⟩
  rw [HZ1] at hC1 hM1
  rw [HZ2] at hC2 hM2
  rw [HS1] at hC1
  rw [HS2] at hC2
  clear HZ1 HZ2 HS1 HS2
  obtain ⟨q1, q2, q3, q4, q5, q6⟩ := hC1
  obtain ⟨r1, r2, r3, r4, r5, r6⟩ := hC2
  go_enter Try.func6, Try.ntmps6
  go_upto_region 1 with fail
  go_cut [15] (fun v wc => EvMade w wc v #[.int .i64 id, .int .i64 tx, .string S1, .int .i64 tries, .int .i64 table, .int .u8 kind, .int .i64 0, .string S2])
  case first =>
    go_wp2_with fail
    go_region
    all_goals
      go_wp2_with fail
      go_meet
      case rel => first | exact EvMade.p2 _ _ _ _ | exact EvMade.p1 _ _ _ _ | exact EvMade.p0 _ _ _ _
  case rest =>
    obtain ⟨E, rfl, hE, hs0, hEo⟩ := hcut
    obtain ⟨a0, a1, a2, a3, a4, a5, a6, a7⟩ := ev_cells hE
    have HE := Lib.hid hE
    clear hE q1 q2 q3 q4 q5 q6 r1 r2 r3 r4 r5 r6 hM1 hM2 hm1 hm2
    go_wp2_with fail
    refine (of_any id tx S1 tries long kind 0 S2 _ hid htx hl0 hl1 hk0 hk1).mono ?_
    rintro _ w2 ⟨id2, tx2, tr2, tb2, kd2, rfl, hok, hi2, ht2, hs2⟩
    unfold evv
    have hE2 := heap_alloc_new w2 (.cells #[.int .i64 id2, .int .i64 tx2, .string (cutB S1 40), .int .i64 tr2, .int .i64 table, .int .u8 kd2, .int .i64 0, .string (cutB S2 40)] 26)
    have HS0 := Lib.hid (hs0.trans hs2)
    have HE3 := Lib.hid (((Chg.alloc_ (fun _ => False) w2 (.cells #[.int .i64 id2, .int .i64 tx2, .string (cutB S1 40), .int .i64 tr2, .int .i64 table, .int .u8 kd2, .int .i64 0, .string (cutB S2 40)] 26)).at_ (hs2.at_ HE.out (fun h => h)) (fun h => h)))
    have HS := Lib.hid (HS0.out.trans (Chg.alloc_ (fun _ => False) w2 (.cells #[.int .i64 id2, .int .i64 tx2, .string (cutB S1 40), .int .i64 tr2, .int .i64 table, .int .u8 kd2, .int .i64 0, .string (cutB S2 40)] 26)))
    clear hok hi2 ht2 hs0 hs2 HS0 a0 a1 a2 a3 a4 a5 a6 a7
    obtain ⟨S3, HS3⟩ : ∃ S : ByteArray, cutB S1 40 = S := ⟨_, rfl⟩
    obtain ⟨S4, HS4⟩ : ∃ S : ByteArray, cutB S2 40 = S := ⟨_, rfl⟩
    rw [HS3, HS4] at hE2 HS HE3
    rw [HS3, HS4]
    clear HS3 HS4
    obtain ⟨b1, B1⟩ : ∃ b, Hid (decide (EvOk id tx S1.size tries table kind S2.size) = b) := ⟨_, Lib.hid rfl⟩
    obtain ⟨b2, B2⟩ : ∃ b, Hid (decide (EvOk id2 tx2 S3.size tr2 table kd2 S4.size) = b) := ⟨_, Lib.hid rfl⟩
    have HE2 := Lib.hid hE2
    clear hE2
    go_upto_region 4 with fail
    generalize w2.alloc (.cells #[.int .i64 id2, .int .i64 tx2, .string S3, .int .i64 tr2, .int .i64 table, .int .u8 kd2, .int .i64 0, .string S4] 26) = W4 at *
    generalize w2.heap.size = E2 at *
    have HE5 := Lib.hid HE3.out
    have HE6 := Lib.hid HE2.out
    obtain ⟨⟨e0, e1, e2, e3, e4, e5, e6, e7⟩, ⟨f0, f1, f2, f3, f4, f5, f6, f7⟩⟩ := both_cells HE5.out HE6.out (Chg.refl _ W4)
    go_region_held3 (fun w' => w'.cell? ⟨E, 0, none⟩ = some (.int .i64 id) ∧ w'.cell? ⟨E, 1, none⟩ = some (.int .i64 tx) ∧ w'.cell? ⟨E, 2, none⟩ = some (.string S1) ∧ w'.cell? ⟨E, 3, none⟩ = some (.int .i64 tries) ∧ w'.cell? ⟨E, 4, none⟩ = some (.int .i64 table) ∧ w'.cell? ⟨E, 5, none⟩ = some (.int .u8 kind) ∧ w'.cell? ⟨E, 6, none⟩ = some (.int .i64 0) ∧ w'.cell? ⟨E, 7, none⟩ = some (.string S2) ∧ w'.cell? ⟨E2, 0, none⟩ = some (.int .i64 id2) ∧ w'.cell? ⟨E2, 1, none⟩ = some (.int .i64 tx2) ∧ w'.cell? ⟨E2, 2, none⟩ = some (.string S3) ∧ w'.cell? ⟨E2, 3, none⟩ = some (.int .i64 tr2) ∧ w'.cell? ⟨E2, 4, none⟩ = some (.int .i64 table) ∧ w'.cell? ⟨E2, 5, none⟩ = some (.int .u8 kd2) ∧ w'.cell? ⟨E2, 6, none⟩ = some (.int .i64 0) ∧ w'.cell? ⟨E2, 7, none⟩ = some (.string S4)) (go_keep) (first | (go_at_call 9; ((with_reducible refine (nine_any _).mono ?_); rintro _ w5 ⟨rfl, hs0⟩; have k0 : Same W4 w5 := (Chg.refl (fun _ => False) W4).drew.trans hs0; obtain ⟨⟨x0, x1, x2, x3, x4, x5, x6, x7⟩, ⟨xx0, xx1, xx2, xx3, xx4, xx5, xx6, xx7⟩⟩ := both_cells HE5.out HE6.out k0)) | (go_at_call 13; ((with_reducible refine (eright_b id tx S1 tries table kind 0 S2 _ b1 B1).mono ?_); rintro _ w6 ⟨rfl, hs1⟩; have k1 : Same W4 w6 := k0.trans hs1; obtain ⟨⟨y0, y1, y2, y3, y4, y5, y6, y7⟩, ⟨yy0, yy1, yy2, yy3, yy4, yy5, yy6, yy7⟩⟩ := both_cells HE5.out HE6.out k1)) | (go_at_call 18; ((with_reducible refine (pright_b id tx S1 tries table kind 0 S2 _ b1 B1).mono ?_); rintro _ w7 ⟨rfl, hs2⟩; have k2 : Same W4 w7 := k1.trans hs2; obtain ⟨⟨z0, z1, z2, z3, z4, z5, z6, z7⟩, ⟨zz0, zz1, zz2, zz3, zz4, zz5, zz6, zz7⟩⟩ := both_cells HE5.out HE6.out k2)) | (go_at_call 13; ((with_reducible refine (eright_b id2 tx2 S3 tr2 table kd2 0 S4 _ b2 B2).mono ?_); rintro _ w8 ⟨rfl, hs3⟩; have k3 : Same W4 w8 := k2.trans hs3; obtain ⟨⟨u0, u1, u2, u3, u4, u5, u6, u7⟩, ⟨uu0, uu1, uu2, uu3, uu4, uu5, uu6, uu7⟩⟩ := both_cells HE5.out HE6.out k3)) | (go_at_call 18; ((with_reducible refine (pright_b id2 tx2 S3 tr2 table kd2 0 S4 _ b2 B2).mono ?_); rintro _ w9 ⟨rfl, hs4⟩; have k4 : Same W4 w9 := k3.trans hs4; obtain ⟨⟨v0, v1, v2, v3, v4, v5, v6, v7⟩, ⟨vv0, vv1, vv2, vv3, vv4, vv5, vv6, vv7⟩⟩ := both_cells HE5.out HE6.out k4)))
    all_goals
      go_wp2_with fail
      go_ret
      exact ⟨rfl, HS.out.trans k4⟩
end Go.Proofs.Ytpommgohciigoaa
