/- The walk of entry.Encode. -/
import Derived.Test.YtdkankiohoocaaaQWrR
namespace Go.Proofs.Ytdkankiohoocaaa
set_option linter.unusedSimpArgs false
set_option linter.unusedVariables false
open Go Go.RowKit Go.Proofs

set_option maxHeartbeats 3200000 in
set_option maxRecDepth 100000 in
theorem encode_1 (e : EntD) (he : e.kind = 1) (hk : e.ok) (vo ve vp : Value) (w : World) (hE : EntS w (fun b => b < w.heap.size) e vo ve vp) :
    Calls Try.prog 15 #[entV e vo ve vp] w fun en w' => ∃ v', en = .returned v' ∧ Fresh w w' v' (1 :: bodyB e) := by
  obtain ⟨Ao, co, ho, -, -⟩ := hE.ops.form
  obtain ⟨Ae, ce, hev, -, -⟩ := hE.evs.form
  obtain ⟨Ap, cp, hp, -, -⟩ := hE.opn.form
  rw [List.length_map] at ho hev hp
  subst ho; subst hev; subst hp
  obtain ⟨L1, H1⟩ : ∃ L : List UInt8, Hid ([] ++ idsB e = L) := ⟨_, Lib.hid rfl⟩
  obtain ⟨L2, H2⟩ : ∃ L : List UInt8, Hid (L1 ++ opsB e.ops = L) := ⟨_, Lib.hid rfl⟩
  obtain ⟨L3, H3⟩ : ∃ L : List UInt8, Hid (L2 ++ plsB e.evs = L) := ⟨_, Lib.hid rfl⟩
  have hl1 : L1.length ≤ 30 := by rw [← H1.out, List.length_append]; have a1 := idsB_len e hk.tx hk.next hk.nextID; simp only [List.length_nil]; omega
  have hl2 : L2.length ≤ 1060030 := by rw [← H2.out, List.length_append]; have a1 := opsB_len e.ops hk.ops hk.fewO; omega
  have hl3 : L3.length ≤ 1320030 := by rw [← H3.out, List.length_append]; have a1 := plsB_len e.evs hk.evs hk.fewE; omega
  have HB : Hid (bodyB e = L3) := by
    show _ = _
    unfold bodyB
    rw [he]
    have x1 := H1.out; have x2 := H2.out; have x3 := H3.out
    subst x1; subst x2; subst x3
    simp
  rw [HB.out]
  clear HB
  have hz : (w.alloc (.cells (entCells e (.slice Ao e.ops.length co) (.slice Ae e.evs.length ce) (.slice Ap e.opn.length cp)) 40)).heap.size = w.heap.size + 1 := by simp
  have hA0 : WrAt w ((w.alloc (.cells (entCells e (.slice Ao e.ops.length co) (.slice Ae e.evs.length ce) (.slice Ap e.opn.length cp)) 40)).alloc (.cells #[.slice none 0 0] 85)) w.heap.size (fun k => k = w.heap.size + 1) (w.heap.size + 1) [] (.cells (entCells e (.slice Ao e.ops.length co) (.slice Ae e.evs.length ce) (.slice Ap e.opn.length cp)) 40 (0, 0)) := by
    have hW := Wr.new (w.alloc (.cells (entCells e (.slice Ao e.ops.length co) (.slice Ae e.evs.length ce) (.slice Ap e.opn.length cp)) 40))
    rw [hz] at hW
    exact ⟨hW, fun k hk => by omega, (Chg.alloc_ (fun _ => False) _ _).at_ (heap_alloc_new w _) (fun h => h), ((Chg.refl _ w).alloc _).alloc _, Nat.le_refl _⟩
  clear hz
  unfold entV
  unfold entCells at hA0 ⊢
  rw [he] at hA0 ⊢
  have HA0 := Lib.hid hA0
  clear hA0
  go_enter Try.func15, Try.ntmps15
  go_upto_region 2 with fail
  have hA := HA0.out
  clear HA0
  generalize (w.alloc (.cells #[.int .u8 1, .int .i64 e.tx, .int .i64 e.next, .int .i64 e.nextID, .slice Ao e.ops.length co, .slice Ae e.evs.length ce, .int .i64 e.tickN, .int .i64 e.max, .slice Ap e.opn.length cp, .int .i64 e.tickAt, .string e.name, .int .i64 e.n, .int .i64 e.at_] 40)).alloc (.cells #[.slice none 0 0] 85) = W0 at *
  generalize w.heap.size + 1 = a at *
  obtain ⟨B, hB⟩ : ∃ B, w.heap.size = B := ⟨_, rfl⟩
  rw [hB] at hA ⊢
  clear hB
  obtain ⟨x0, x1, x2, x3, x4, x5, x6, x7, x8, x9, x10, x11, x12⟩ := ent_cells hA.blk
  go_wp2_with fail
  refine (WrAt.idsW he hA hk.tx hk.next hk.nextID (by simp) H1).mono ?_
  rintro _ w1 ⟨rfl, F1, hA1⟩
  clear hA x0 x1 x2 x3 x4 x5 x6 x7 x8 x9 x10 x11 x12
  obtain ⟨x0, x1, x2, x3, x4, x5, x6, x7, x8, x9, x10, x11, x12⟩ := ent_cells hA1.blk
  go_wp2_with fail
  refine (hA1.opsW hE hk.ops hk.fewO (by omega) H2).mono ?_
  rintro _ w2 ⟨rfl, F2, hA2⟩
  clear hA1 x0 x1 x2 x3 x4 x5 x6 x7 x8 x9 x10 x11 x12
  obtain ⟨x0, x1, x2, x3, x4, x5, x6, x7, x8, x9, x10, x11, x12⟩ := ent_cells hA2.blk
  go_wp2_with fail
  refine (hA2.evsW hE hk.evs hk.fewE (by omega) H3).mono ?_
  rintro _ w3 ⟨rfl, F3, hA3⟩
  clear hA2 x0 x1 x2 x3 x4 x5 x6 x7 x8 x9 x10 x11 x12
  obtain ⟨x0, x1, x2, x3, x4, x5, x6, x7, x8, x9, x10, x11, x12⟩ := ent_cells hA3.blk
  go_upto_region 31 with fail
  clear hE hk
  go_region_law (first | (refine step_appB rfl _ _ rfl _ [1] A8 n8 c8 _ L3 (by rfl) (by rfl) hLit.own hLit.bs (by simp; omega) ?_; intro A9 k9 c9 w9 ho9) | (go_simp; go_at_call 37; ((first | (with_reducible refine (hA3.lit 1 1 rfl (by omega)).mono ?_) | (with_reducible refine (hA3.bare 1 1 rfl (by omega)).mono ?_)); rintro _ w8 ⟨A8, n8, c8, rfl, hLit, hB8⟩; obtain ⟨z0, -⟩ := ent_cells hB8)))
  all_goals
    go_wp2_with fail
    go_ret
    exact ⟨_, rfl, hLit.fresh ho9⟩

set_option maxHeartbeats 3200000 in
set_option maxRecDepth 100000 in
theorem encode_2 (e : EntD) (he : e.kind = 2) (hk : e.ok) (vo ve vp : Value) (w : World) (hE : EntS w (fun b => b < w.heap.size) e vo ve vp) :
    Calls Try.prog 15 #[entV e vo ve vp] w fun en w' => ∃ v', en = .returned v' ∧ Fresh w w' v' (2 :: bodyB e) := by
  obtain ⟨Ao, co, ho, -, -⟩ := hE.ops.form
  obtain ⟨Ae, ce, hev, -, -⟩ := hE.evs.form
  obtain ⟨Ap, cp, hp, -, -⟩ := hE.opn.form
  rw [List.length_map] at ho hev hp
  subst ho; subst hev; subst hp
  obtain ⟨L1, H1⟩ : ∃ L : List UInt8, Hid ([] ++ (numB e.tickN.toNat ++ numB e.max.toNat ++ numB (e.opn.length : Int).toNat) = L) := ⟨_, Lib.hid rfl⟩
  obtain ⟨L2, H2⟩ : ∃ L : List UInt8, Hid (L1 ++ numsB e.opn = L) := ⟨_, Lib.hid rfl⟩
  obtain ⟨L3, H3⟩ : ∃ L : List UInt8, Hid (L2 ++ intB e.tickAt = L) := ⟨_, Lib.hid rfl⟩
  have hl1 : L1.length ≤ 30 := by rw [← H1.out, List.length_append]; have a1 := numW_len e.tickN hk.tickN; have a2 := numW_len e.max hk.max; have a3 := (numB_len 10 (e.opn.length : Int).toNat (by have := hk.fewN; omega) (by omega)).1; simp only [List.length_append]; simp only [List.length_nil]; omega
  have hl2 : L2.length ≤ 10030 := by rw [← H2.out, List.length_append]; have a1 := numsB_len e.opn hk.opn; have a2 := hk.fewN; omega
  have hl3 : L3.length ≤ 10040 := by rw [← H3.out, List.length_append]; have a1 := intB_len e.tickAt hk.tickAt; omega
  have HB : Hid (bodyB e = L3) := by
    show _ = _
    unfold bodyB
    rw [he]
    have x1 := H1.out; have x2 := H2.out; have x3 := H3.out
    subst x1; subst x2; subst x3
    simp
  rw [HB.out]
  clear HB
  have hz : (w.alloc (.cells (entCells e (.slice Ao e.ops.length co) (.slice Ae e.evs.length ce) (.slice Ap e.opn.length cp)) 40)).heap.size = w.heap.size + 1 := by simp
  have hA0 : WrAt w ((w.alloc (.cells (entCells e (.slice Ao e.ops.length co) (.slice Ae e.evs.length ce) (.slice Ap e.opn.length cp)) 40)).alloc (.cells #[.slice none 0 0] 85)) w.heap.size (fun k => k = w.heap.size + 1) (w.heap.size + 1) [] (.cells (entCells e (.slice Ao e.ops.length co) (.slice Ae e.evs.length ce) (.slice Ap e.opn.length cp)) 40 (0, 0)) := by
    have hW := Wr.new (w.alloc (.cells (entCells e (.slice Ao e.ops.length co) (.slice Ae e.evs.length ce) (.slice Ap e.opn.length cp)) 40))
    rw [hz] at hW
    exact ⟨hW, fun k hk => by omega, (Chg.alloc_ (fun _ => False) _ _).at_ (heap_alloc_new w _) (fun h => h), ((Chg.refl _ w).alloc _).alloc _, Nat.le_refl _⟩
  clear hz
  unfold entV
  unfold entCells at hA0 ⊢
  rw [he] at hA0 ⊢
  have HA0 := Lib.hid hA0
  clear hA0
  go_enter Try.func15, Try.ntmps15
  go_upto_region 2 with fail
  have hA := HA0.out
  clear HA0
  generalize (w.alloc (.cells #[.int .u8 2, .int .i64 e.tx, .int .i64 e.next, .int .i64 e.nextID, .slice Ao e.ops.length co, .slice Ae e.evs.length ce, .int .i64 e.tickN, .int .i64 e.max, .slice Ap e.opn.length cp, .int .i64 e.tickAt, .string e.name, .int .i64 e.n, .int .i64 e.at_] 40)).alloc (.cells #[.slice none 0 0] 85) = W0 at *
  generalize w.heap.size + 1 = a at *
  obtain ⟨B, hB⟩ : ∃ B, w.heap.size = B := ⟨_, rfl⟩
  rw [hB] at hA ⊢
  clear hB
  obtain ⟨x0, x1, x2, x3, x4, x5, x6, x7, x8, x9, x10, x11, x12⟩ := ent_cells hA.blk
  go_wp2_with fail
  refine (hA.num3 hk.tickN hk.max ⟨by omega, by have := hk.fewN; omega⟩ (by simp) H1).mono ?_
  rintro _ w1 ⟨rfl, F1, hA1⟩
  clear hA x0 x1 x2 x3 x4 x5 x6 x7 x8 x9 x10 x11 x12
  obtain ⟨x0, x1, x2, x3, x4, x5, x6, x7, x8, x9, x10, x11, x12⟩ := ent_cells hA1.blk
  go_wp2_with fail
  refine (hA1.opnW hE hk.opn hk.fewN (by omega) H2).mono ?_
  rintro _ w2 ⟨rfl, F2, hA2⟩
  clear hA1 x0 x1 x2 x3 x4 x5 x6 x7 x8 x9 x10 x11 x12
  obtain ⟨x0, x1, x2, x3, x4, x5, x6, x7, x8, x9, x10, x11, x12⟩ := ent_cells hA2.blk
  go_wp2_with fail
  refine (hA2.intW hk.tickAt (by omega) H3).mono ?_
  rintro _ w3 ⟨rfl, F3, hA3⟩
  clear hA2 x0 x1 x2 x3 x4 x5 x6 x7 x8 x9 x10 x11 x12
  obtain ⟨x0, x1, x2, x3, x4, x5, x6, x7, x8, x9, x10, x11, x12⟩ := ent_cells hA3.blk
  go_upto_region 31 with fail
  clear hE hk
  go_region_law (first | (refine step_appB rfl _ _ rfl _ [2] A8 n8 c8 _ L3 (by rfl) (by rfl) hLit.own hLit.bs (by simp; omega) ?_; intro A9 k9 c9 w9 ho9) | (go_simp; go_at_call 37; ((first | (with_reducible refine (hA3.lit 2 2 rfl (by omega)).mono ?_) | (with_reducible refine (hA3.bare 2 2 rfl (by omega)).mono ?_)); rintro _ w8 ⟨A8, n8, c8, rfl, hLit, hB8⟩; obtain ⟨z0, -⟩ := ent_cells hB8)))
  all_goals
    go_wp2_with fail
    go_ret
    exact ⟨_, rfl, hLit.fresh ho9⟩

set_option maxHeartbeats 3200000 in
set_option maxRecDepth 100000 in
theorem encode_3 (e : EntD) (he : e.kind = 3) (hk : e.ok) (vo ve vp : Value) (w : World) (hE : EntS w (fun b => b < w.heap.size) e vo ve vp) :
    Calls Try.prog 15 #[entV e vo ve vp] w fun en w' => ∃ v', en = .returned v' ∧ Fresh w w' v' (3 :: bodyB e) := by
  obtain ⟨Ao, co, ho, -, -⟩ := hE.ops.form
  obtain ⟨Ae, ce, hev, -, -⟩ := hE.evs.form
  obtain ⟨Ap, cp, hp, -, -⟩ := hE.opn.form
  rw [List.length_map] at ho hev hp
  subst ho; subst hev; subst hp
  obtain ⟨L1, H1⟩ : ∃ L : List UInt8, Hid ([] ++ textB e.name.data.toList = L) := ⟨_, Lib.hid rfl⟩
  obtain ⟨L2, H2⟩ : ∃ L : List UInt8, Hid (L1 ++ numB e.n.toNat = L) := ⟨_, Lib.hid rfl⟩
  have hl1 : L1.length ≤ 1010 := by rw [← H1.out, List.length_append]; have a1 := textB_len e.name hk.name; simp only [List.length_nil]; omega
  have hl2 : L2.length ≤ 1020 := by rw [← H2.out, List.length_append]; have a1 := numW_len e.n hk.n; omega
  have HB : Hid (bodyB e = L2) := by
    show _ = _
    unfold bodyB
    rw [he]
    have x1 := H1.out; have x2 := H2.out
    subst x1; subst x2
    simp
  rw [HB.out]
  clear HB
  have hz : (w.alloc (.cells (entCells e (.slice Ao e.ops.length co) (.slice Ae e.evs.length ce) (.slice Ap e.opn.length cp)) 40)).heap.size = w.heap.size + 1 := by simp
  have hA0 : WrAt w ((w.alloc (.cells (entCells e (.slice Ao e.ops.length co) (.slice Ae e.evs.length ce) (.slice Ap e.opn.length cp)) 40)).alloc (.cells #[.slice none 0 0] 85)) w.heap.size (fun k => k = w.heap.size + 1) (w.heap.size + 1) [] (.cells (entCells e (.slice Ao e.ops.length co) (.slice Ae e.evs.length ce) (.slice Ap e.opn.length cp)) 40 (0, 0)) := by
    have hW := Wr.new (w.alloc (.cells (entCells e (.slice Ao e.ops.length co) (.slice Ae e.evs.length ce) (.slice Ap e.opn.length cp)) 40))
    rw [hz] at hW
    exact ⟨hW, fun k hk => by omega, (Chg.alloc_ (fun _ => False) _ _).at_ (heap_alloc_new w _) (fun h => h), ((Chg.refl _ w).alloc _).alloc _, Nat.le_refl _⟩
  clear hz
  unfold entV
  unfold entCells at hA0 ⊢
  rw [he] at hA0 ⊢
  have HA0 := Lib.hid hA0
  clear hA0
  go_enter Try.func15, Try.ntmps15
  go_upto_region 2 with fail
  have hA := HA0.out
  clear HA0
  generalize (w.alloc (.cells #[.int .u8 3, .int .i64 e.tx, .int .i64 e.next, .int .i64 e.nextID, .slice Ao e.ops.length co, .slice Ae e.evs.length ce, .int .i64 e.tickN, .int .i64 e.max, .slice Ap e.opn.length cp, .int .i64 e.tickAt, .string e.name, .int .i64 e.n, .int .i64 e.at_] 40)).alloc (.cells #[.slice none 0 0] 85) = W0 at *
  generalize w.heap.size + 1 = a at *
  obtain ⟨B, hB⟩ : ∃ B, w.heap.size = B := ⟨_, rfl⟩
  rw [hB] at hA ⊢
  clear hB
  obtain ⟨x0, x1, x2, x3, x4, x5, x6, x7, x8, x9, x10, x11, x12⟩ := ent_cells hA.blk
  go_wp2_with fail
  refine (hA.textW hk.name (by simp) H1).mono ?_
  rintro _ w1 ⟨rfl, F1, hA1⟩
  clear hA x0 x1 x2 x3 x4 x5 x6 x7 x8 x9 x10 x11 x12
  obtain ⟨x0, x1, x2, x3, x4, x5, x6, x7, x8, x9, x10, x11, x12⟩ := ent_cells hA1.blk
  go_wp2_with fail
  refine (hA1.num1 hk.n (by omega) H2).mono ?_
  rintro _ w2 ⟨rfl, F2, hA2⟩
  clear hA1 x0 x1 x2 x3 x4 x5 x6 x7 x8 x9 x10 x11 x12
  obtain ⟨x0, x1, x2, x3, x4, x5, x6, x7, x8, x9, x10, x11, x12⟩ := ent_cells hA2.blk
  go_upto_region 31 with fail
  clear hE hk
  go_region_law (first | (refine step_appB rfl _ _ rfl _ [3] A8 n8 c8 _ L2 (by rfl) (by rfl) hLit.own hLit.bs (by simp; omega) ?_; intro A9 k9 c9 w9 ho9) | (go_simp; go_at_call 37; ((first | (with_reducible refine (hA2.lit 3 3 rfl (by omega)).mono ?_) | (with_reducible refine (hA2.bare 3 3 rfl (by omega)).mono ?_)); rintro _ w8 ⟨A8, n8, c8, rfl, hLit, hB8⟩; obtain ⟨z0, -⟩ := ent_cells hB8)))
  all_goals
    go_wp2_with fail
    go_ret
    exact ⟨_, rfl, hLit.fresh ho9⟩

set_option maxHeartbeats 3200000 in
set_option maxRecDepth 100000 in
theorem encode_4 (e : EntD) (he : e.kind = 4) (hk : e.ok) (vo ve vp : Value) (w : World) (hE : EntS w (fun b => b < w.heap.size) e vo ve vp) :
    Calls Try.prog 15 #[entV e vo ve vp] w fun en w' => ∃ v', en = .returned v' ∧ Fresh w w' v' (4 :: bodyB e) := by
  obtain ⟨Ao, co, ho, -, -⟩ := hE.ops.form
  obtain ⟨Ae, ce, hev, -, -⟩ := hE.evs.form
  obtain ⟨Ap, cp, hp, -, -⟩ := hE.opn.form
  rw [List.length_map] at ho hev hp
  subst ho; subst hev; subst hp
  obtain ⟨L1, H1⟩ : ∃ L : List UInt8, Hid ([] ++ textB e.name.data.toList = L) := ⟨_, Lib.hid rfl⟩
  obtain ⟨L2, H2⟩ : ∃ L : List UInt8, Hid (L1 ++ numB e.n.toNat = L) := ⟨_, Lib.hid rfl⟩
  have hl1 : L1.length ≤ 1010 := by rw [← H1.out, List.length_append]; have a1 := textB_len e.name hk.name; simp only [List.length_nil]; omega
  have hl2 : L2.length ≤ 1020 := by rw [← H2.out, List.length_append]; have a1 := numW_len e.n hk.n; omega
  have HB : Hid (bodyB e = L2) := by
    show _ = _
    unfold bodyB
    rw [he]
    have x1 := H1.out; have x2 := H2.out
    subst x1; subst x2
    simp
  rw [HB.out]
  clear HB
  have hz : (w.alloc (.cells (entCells e (.slice Ao e.ops.length co) (.slice Ae e.evs.length ce) (.slice Ap e.opn.length cp)) 40)).heap.size = w.heap.size + 1 := by simp
  have hA0 : WrAt w ((w.alloc (.cells (entCells e (.slice Ao e.ops.length co) (.slice Ae e.evs.length ce) (.slice Ap e.opn.length cp)) 40)).alloc (.cells #[.slice none 0 0] 85)) w.heap.size (fun k => k = w.heap.size + 1) (w.heap.size + 1) [] (.cells (entCells e (.slice Ao e.ops.length co) (.slice Ae e.evs.length ce) (.slice Ap e.opn.length cp)) 40 (0, 0)) := by
    have hW := Wr.new (w.alloc (.cells (entCells e (.slice Ao e.ops.length co) (.slice Ae e.evs.length ce) (.slice Ap e.opn.length cp)) 40))
    rw [hz] at hW
    exact ⟨hW, fun k hk => by omega, (Chg.alloc_ (fun _ => False) _ _).at_ (heap_alloc_new w _) (fun h => h), ((Chg.refl _ w).alloc _).alloc _, Nat.le_refl _⟩
  clear hz
  unfold entV
  unfold entCells at hA0 ⊢
  rw [he] at hA0 ⊢
  have HA0 := Lib.hid hA0
  clear hA0
  go_enter Try.func15, Try.ntmps15
  go_upto_region 2 with fail
  have hA := HA0.out
  clear HA0
  generalize (w.alloc (.cells #[.int .u8 4, .int .i64 e.tx, .int .i64 e.next, .int .i64 e.nextID, .slice Ao e.ops.length co, .slice Ae e.evs.length ce, .int .i64 e.tickN, .int .i64 e.max, .slice Ap e.opn.length cp, .int .i64 e.tickAt, .string e.name, .int .i64 e.n, .int .i64 e.at_] 40)).alloc (.cells #[.slice none 0 0] 85) = W0 at *
  generalize w.heap.size + 1 = a at *
  obtain ⟨B, hB⟩ : ∃ B, w.heap.size = B := ⟨_, rfl⟩
  rw [hB] at hA ⊢
  clear hB
  obtain ⟨x0, x1, x2, x3, x4, x5, x6, x7, x8, x9, x10, x11, x12⟩ := ent_cells hA.blk
  go_wp2_with fail
  refine (hA.textW hk.name (by simp) H1).mono ?_
  rintro _ w1 ⟨rfl, F1, hA1⟩
  clear hA x0 x1 x2 x3 x4 x5 x6 x7 x8 x9 x10 x11 x12
  obtain ⟨x0, x1, x2, x3, x4, x5, x6, x7, x8, x9, x10, x11, x12⟩ := ent_cells hA1.blk
  go_wp2_with fail
  refine (hA1.num1 hk.n (by omega) H2).mono ?_
  rintro _ w2 ⟨rfl, F2, hA2⟩
  clear hA1 x0 x1 x2 x3 x4 x5 x6 x7 x8 x9 x10 x11 x12
  obtain ⟨x0, x1, x2, x3, x4, x5, x6, x7, x8, x9, x10, x11, x12⟩ := ent_cells hA2.blk
  go_upto_region 31 with fail
  clear hE hk
  go_region_law (first | (refine step_appB rfl _ _ rfl _ [4] A8 n8 c8 _ L2 (by rfl) (by rfl) hLit.own hLit.bs (by simp; omega) ?_; intro A9 k9 c9 w9 ho9) | (go_simp; go_at_call 37; ((first | (with_reducible refine (hA2.lit 4 4 rfl (by omega)).mono ?_) | (with_reducible refine (hA2.bare 4 4 rfl (by omega)).mono ?_)); rintro _ w8 ⟨A8, n8, c8, rfl, hLit, hB8⟩; obtain ⟨z0, -⟩ := ent_cells hB8)))
  all_goals
    go_wp2_with fail
    go_ret
    exact ⟨_, rfl, hLit.fresh ho9⟩

set_option maxHeartbeats 3200000 in
set_option maxRecDepth 100000 in
theorem encode_5 (e : EntD) (he : e.kind = 5) (hk : e.ok) (vo ve vp : Value) (w : World) (hE : EntS w (fun b => b < w.heap.size) e vo ve vp) :
    Calls Try.prog 15 #[entV e vo ve vp] w fun en w' => ∃ v', en = .returned v' ∧ Fresh w w' v' (5 :: bodyB e) := by
  obtain ⟨Ao, co, ho, -, -⟩ := hE.ops.form
  obtain ⟨Ae, ce, hev, -, -⟩ := hE.evs.form
  obtain ⟨Ap, cp, hp, -, -⟩ := hE.opn.form
  rw [List.length_map] at ho hev hp
  subst ho; subst hev; subst hp
  obtain ⟨L1, H1⟩ : ∃ L : List UInt8, Hid ([] ++ textB e.name.data.toList = L) := ⟨_, Lib.hid rfl⟩
  obtain ⟨L2, H2⟩ : ∃ L : List UInt8, Hid (L1 ++ numB e.n.toNat = L) := ⟨_, Lib.hid rfl⟩
  have hl1 : L1.length ≤ 1010 := by rw [← H1.out, List.length_append]; have a1 := textB_len e.name hk.name; simp only [List.length_nil]; omega
  have hl2 : L2.length ≤ 1020 := by rw [← H2.out, List.length_append]; have a1 := numW_len e.n hk.n; omega
  have HB : Hid (bodyB e = L2) := by
    show _ = _
    unfold bodyB
    rw [he]
    have x1 := H1.out; have x2 := H2.out
    subst x1; subst x2
    simp
  rw [HB.out]
  clear HB
  have hz : (w.alloc (.cells (entCells e (.slice Ao e.ops.length co) (.slice Ae e.evs.length ce) (.slice Ap e.opn.length cp)) 40)).heap.size = w.heap.size + 1 := by simp
  have hA0 : WrAt w ((w.alloc (.cells (entCells e (.slice Ao e.ops.length co) (.slice Ae e.evs.length ce) (.slice Ap e.opn.length cp)) 40)).alloc (.cells #[.slice none 0 0] 85)) w.heap.size (fun k => k = w.heap.size + 1) (w.heap.size + 1) [] (.cells (entCells e (.slice Ao e.ops.length co) (.slice Ae e.evs.length ce) (.slice Ap e.opn.length cp)) 40 (0, 0)) := by
    have hW := Wr.new (w.alloc (.cells (entCells e (.slice Ao e.ops.length co) (.slice Ae e.evs.length ce) (.slice Ap e.opn.length cp)) 40))
    rw [hz] at hW
    exact ⟨hW, fun k hk => by omega, (Chg.alloc_ (fun _ => False) _ _).at_ (heap_alloc_new w _) (fun h => h), ((Chg.refl _ w).alloc _).alloc _, Nat.le_refl _⟩
  clear hz
  unfold entV
  unfold entCells at hA0 ⊢
  rw [he] at hA0 ⊢
  have HA0 := Lib.hid hA0
  clear hA0
  go_enter Try.func15, Try.ntmps15
  go_upto_region 2 with fail
  have hA := HA0.out
  clear HA0
  generalize (w.alloc (.cells #[.int .u8 5, .int .i64 e.tx, .int .i64 e.next, .int .i64 e.nextID, .slice Ao e.ops.length co, .slice Ae e.evs.length ce, .int .i64 e.tickN, .int .i64 e.max, .slice Ap e.opn.length cp, .int .i64 e.tickAt, .string e.name, .int .i64 e.n, .int .i64 e.at_] 40)).alloc (.cells #[.slice none 0 0] 85) = W0 at *
  generalize w.heap.size + 1 = a at *
  obtain ⟨B, hB⟩ : ∃ B, w.heap.size = B := ⟨_, rfl⟩
  rw [hB] at hA ⊢
  clear hB
  obtain ⟨x0, x1, x2, x3, x4, x5, x6, x7, x8, x9, x10, x11, x12⟩ := ent_cells hA.blk
  go_wp2_with fail
  refine (hA.textW hk.name (by simp) H1).mono ?_
  rintro _ w1 ⟨rfl, F1, hA1⟩
  clear hA x0 x1 x2 x3 x4 x5 x6 x7 x8 x9 x10 x11 x12
  obtain ⟨x0, x1, x2, x3, x4, x5, x6, x7, x8, x9, x10, x11, x12⟩ := ent_cells hA1.blk
  go_wp2_with fail
  refine (hA1.num1 hk.n (by omega) H2).mono ?_
  rintro _ w2 ⟨rfl, F2, hA2⟩
  clear hA1 x0 x1 x2 x3 x4 x5 x6 x7 x8 x9 x10 x11 x12
  obtain ⟨x0, x1, x2, x3, x4, x5, x6, x7, x8, x9, x10, x11, x12⟩ := ent_cells hA2.blk
  go_upto_region 31 with fail
  clear hE hk
  go_region_law (first | (refine step_appB rfl _ _ rfl _ [5] A8 n8 c8 _ L2 (by rfl) (by rfl) hLit.own hLit.bs (by simp; omega) ?_; intro A9 k9 c9 w9 ho9) | (go_simp; go_at_call 37; ((first | (with_reducible refine (hA2.lit 5 5 rfl (by omega)).mono ?_) | (with_reducible refine (hA2.bare 5 5 rfl (by omega)).mono ?_)); rintro _ w8 ⟨A8, n8, c8, rfl, hLit, hB8⟩; obtain ⟨z0, -⟩ := ent_cells hB8)))
  all_goals
    go_wp2_with fail
    go_ret
    exact ⟨_, rfl, hLit.fresh ho9⟩

set_option maxHeartbeats 3200000 in
set_option maxRecDepth 100000 in
theorem encode_6 (e : EntD) (he : e.kind = 6) (hk : e.ok) (vo ve vp : Value) (w : World) (hE : EntS w (fun b => b < w.heap.size) e vo ve vp) :
    Calls Try.prog 15 #[entV e vo ve vp] w fun en w' => ∃ v', en = .returned v' ∧ Fresh w w' v' (6 :: bodyB e) := by
  obtain ⟨Ao, co, ho, -, -⟩ := hE.ops.form
  obtain ⟨Ae, ce, hev, -, -⟩ := hE.evs.form
  obtain ⟨Ap, cp, hp, -, -⟩ := hE.opn.form
  rw [List.length_map] at ho hev hp
  subst ho; subst hev; subst hp
  obtain ⟨L1, H1⟩ : ∃ L : List UInt8, Hid ([] ++ textB e.name.data.toList = L) := ⟨_, Lib.hid rfl⟩
  obtain ⟨L2, H2⟩ : ∃ L : List UInt8, Hid (L1 ++ numB e.n.toNat = L) := ⟨_, Lib.hid rfl⟩
  have hl1 : L1.length ≤ 1010 := by rw [← H1.out, List.length_append]; have a1 := textB_len e.name hk.name; simp only [List.length_nil]; omega
  have hl2 : L2.length ≤ 1020 := by rw [← H2.out, List.length_append]; have a1 := numW_len e.n hk.n; omega
  have HB : Hid (bodyB e = L2) := by
    show _ = _
    unfold bodyB
    rw [he]
    have x1 := H1.out; have x2 := H2.out
    subst x1; subst x2
    simp
  rw [HB.out]
  clear HB
  have hz : (w.alloc (.cells (entCells e (.slice Ao e.ops.length co) (.slice Ae e.evs.length ce) (.slice Ap e.opn.length cp)) 40)).heap.size = w.heap.size + 1 := by simp
  have hA0 : WrAt w ((w.alloc (.cells (entCells e (.slice Ao e.ops.length co) (.slice Ae e.evs.length ce) (.slice Ap e.opn.length cp)) 40)).alloc (.cells #[.slice none 0 0] 85)) w.heap.size (fun k => k = w.heap.size + 1) (w.heap.size + 1) [] (.cells (entCells e (.slice Ao e.ops.length co) (.slice Ae e.evs.length ce) (.slice Ap e.opn.length cp)) 40 (0, 0)) := by
    have hW := Wr.new (w.alloc (.cells (entCells e (.slice Ao e.ops.length co) (.slice Ae e.evs.length ce) (.slice Ap e.opn.length cp)) 40))
    rw [hz] at hW
    exact ⟨hW, fun k hk => by omega, (Chg.alloc_ (fun _ => False) _ _).at_ (heap_alloc_new w _) (fun h => h), ((Chg.refl _ w).alloc _).alloc _, Nat.le_refl _⟩
  clear hz
  unfold entV
  unfold entCells at hA0 ⊢
  rw [he] at hA0 ⊢
  have HA0 := Lib.hid hA0
  clear hA0
  go_enter Try.func15, Try.ntmps15
  go_upto_region 2 with fail
  have hA := HA0.out
  clear HA0
  generalize (w.alloc (.cells #[.int .u8 6, .int .i64 e.tx, .int .i64 e.next, .int .i64 e.nextID, .slice Ao e.ops.length co, .slice Ae e.evs.length ce, .int .i64 e.tickN, .int .i64 e.max, .slice Ap e.opn.length cp, .int .i64 e.tickAt, .string e.name, .int .i64 e.n, .int .i64 e.at_] 40)).alloc (.cells #[.slice none 0 0] 85) = W0 at *
  generalize w.heap.size + 1 = a at *
  obtain ⟨B, hB⟩ : ∃ B, w.heap.size = B := ⟨_, rfl⟩
  rw [hB] at hA ⊢
  clear hB
  obtain ⟨x0, x1, x2, x3, x4, x5, x6, x7, x8, x9, x10, x11, x12⟩ := ent_cells hA.blk
  go_wp2_with fail
  refine (hA.textW hk.name (by simp) H1).mono ?_
  rintro _ w1 ⟨rfl, F1, hA1⟩
  clear hA x0 x1 x2 x3 x4 x5 x6 x7 x8 x9 x10 x11 x12
  obtain ⟨x0, x1, x2, x3, x4, x5, x6, x7, x8, x9, x10, x11, x12⟩ := ent_cells hA1.blk
  go_wp2_with fail
  refine (hA1.num1 hk.n (by omega) H2).mono ?_
  rintro _ w2 ⟨rfl, F2, hA2⟩
  clear hA1 x0 x1 x2 x3 x4 x5 x6 x7 x8 x9 x10 x11 x12
  obtain ⟨x0, x1, x2, x3, x4, x5, x6, x7, x8, x9, x10, x11, x12⟩ := ent_cells hA2.blk
  go_upto_region 31 with fail
  clear hE hk
  go_region_law (first | (refine step_appB rfl _ _ rfl _ [6] A8 n8 c8 _ L2 (by rfl) (by rfl) hLit.own hLit.bs (by simp; omega) ?_; intro A9 k9 c9 w9 ho9) | (go_simp; go_at_call 37; ((first | (with_reducible refine (hA2.lit 6 6 rfl (by omega)).mono ?_) | (with_reducible refine (hA2.bare 6 6 rfl (by omega)).mono ?_)); rintro _ w8 ⟨A8, n8, c8, rfl, hLit, hB8⟩; obtain ⟨z0, -⟩ := ent_cells hB8)))
  all_goals
    go_wp2_with fail
    go_ret
    exact ⟨_, rfl, hLit.fresh ho9⟩

set_option maxHeartbeats 3200000 in
set_option maxRecDepth 100000 in
theorem encode_7 (e : EntD) (he : e.kind = 7) (hk : e.ok) (vo ve vp : Value) (w : World) (hE : EntS w (fun b => b < w.heap.size) e vo ve vp) :
    Calls Try.prog 15 #[entV e vo ve vp] w fun en w' => ∃ v', en = .returned v' ∧ Fresh w w' v' (7 :: bodyB e) := by
  obtain ⟨Ao, co, ho, -, -⟩ := hE.ops.form
  obtain ⟨Ae, ce, hev, -, -⟩ := hE.evs.form
  obtain ⟨Ap, cp, hp, -, -⟩ := hE.opn.form
  rw [List.length_map] at ho hev hp
  subst ho; subst hev; subst hp
  obtain ⟨L1, H1⟩ : ∃ L : List UInt8, Hid ([] ++ textB e.name.data.toList = L) := ⟨_, Lib.hid rfl⟩
  obtain ⟨L2, H2⟩ : ∃ L : List UInt8, Hid (L1 ++ numB e.n.toNat = L) := ⟨_, Lib.hid rfl⟩
  obtain ⟨L3, H3⟩ : ∃ L : List UInt8, Hid (L2 ++ intB e.at_ = L) := ⟨_, Lib.hid rfl⟩
  have hl1 : L1.length ≤ 1010 := by rw [← H1.out, List.length_append]; have a1 := textB_len e.name hk.name; simp only [List.length_nil]; omega
  have hl2 : L2.length ≤ 1020 := by rw [← H2.out, List.length_append]; have a1 := numW_len e.n hk.n; omega
  have hl3 : L3.length ≤ 1030 := by rw [← H3.out, List.length_append]; have a1 := intB_len e.at_ hk.at_; omega
  have HB : Hid (bodyB e = L3) := by
    show _ = _
    unfold bodyB
    rw [he]
    have x1 := H1.out; have x2 := H2.out; have x3 := H3.out
    subst x1; subst x2; subst x3
    simp
  rw [HB.out]
  clear HB
  have hz : (w.alloc (.cells (entCells e (.slice Ao e.ops.length co) (.slice Ae e.evs.length ce) (.slice Ap e.opn.length cp)) 40)).heap.size = w.heap.size + 1 := by simp
  have hA0 : WrAt w ((w.alloc (.cells (entCells e (.slice Ao e.ops.length co) (.slice Ae e.evs.length ce) (.slice Ap e.opn.length cp)) 40)).alloc (.cells #[.slice none 0 0] 85)) w.heap.size (fun k => k = w.heap.size + 1) (w.heap.size + 1) [] (.cells (entCells e (.slice Ao e.ops.length co) (.slice Ae e.evs.length ce) (.slice Ap e.opn.length cp)) 40 (0, 0)) := by
    have hW := Wr.new (w.alloc (.cells (entCells e (.slice Ao e.ops.length co) (.slice Ae e.evs.length ce) (.slice Ap e.opn.length cp)) 40))
    rw [hz] at hW
    exact ⟨hW, fun k hk => by omega, (Chg.alloc_ (fun _ => False) _ _).at_ (heap_alloc_new w _) (fun h => h), ((Chg.refl _ w).alloc _).alloc _, Nat.le_refl _⟩
  clear hz
  unfold entV
  unfold entCells at hA0 ⊢
  rw [he] at hA0 ⊢
  have HA0 := Lib.hid hA0
  clear hA0
  go_enter Try.func15, Try.ntmps15
  go_upto_region 2 with fail
  have hA := HA0.out
  clear HA0
  generalize (w.alloc (.cells #[.int .u8 7, .int .i64 e.tx, .int .i64 e.next, .int .i64 e.nextID, .slice Ao e.ops.length co, .slice Ae e.evs.length ce, .int .i64 e.tickN, .int .i64 e.max, .slice Ap e.opn.length cp, .int .i64 e.tickAt, .string e.name, .int .i64 e.n, .int .i64 e.at_] 40)).alloc (.cells #[.slice none 0 0] 85) = W0 at *
  generalize w.heap.size + 1 = a at *
  obtain ⟨B, hB⟩ : ∃ B, w.heap.size = B := ⟨_, rfl⟩
  rw [hB] at hA ⊢
  clear hB
  obtain ⟨x0, x1, x2, x3, x4, x5, x6, x7, x8, x9, x10, x11, x12⟩ := ent_cells hA.blk
  go_wp2_with fail
  refine (hA.textW hk.name (by simp) H1).mono ?_
  rintro _ w1 ⟨rfl, F1, hA1⟩
  clear hA x0 x1 x2 x3 x4 x5 x6 x7 x8 x9 x10 x11 x12
  obtain ⟨x0, x1, x2, x3, x4, x5, x6, x7, x8, x9, x10, x11, x12⟩ := ent_cells hA1.blk
  go_wp2_with fail
  refine (hA1.num1 hk.n (by omega) H2).mono ?_
  rintro _ w2 ⟨rfl, F2, hA2⟩
  clear hA1 x0 x1 x2 x3 x4 x5 x6 x7 x8 x9 x10 x11 x12
  obtain ⟨x0, x1, x2, x3, x4, x5, x6, x7, x8, x9, x10, x11, x12⟩ := ent_cells hA2.blk
  go_wp2_with fail
  refine (hA2.intW hk.at_ (by omega) H3).mono ?_
  rintro _ w3 ⟨rfl, F3, hA3⟩
  clear hA2 x0 x1 x2 x3 x4 x5 x6 x7 x8 x9 x10 x11 x12
  obtain ⟨x0, x1, x2, x3, x4, x5, x6, x7, x8, x9, x10, x11, x12⟩ := ent_cells hA3.blk
  go_upto_region 31 with fail
  clear hE hk
  go_region_law (first | (refine step_appB rfl _ _ rfl _ [7] A8 n8 c8 _ L3 (by rfl) (by rfl) hLit.own hLit.bs (by simp; omega) ?_; intro A9 k9 c9 w9 ho9) | (go_simp; go_at_call 37; ((first | (with_reducible refine (hA3.lit 7 7 rfl (by omega)).mono ?_) | (with_reducible refine (hA3.bare 7 7 rfl (by omega)).mono ?_)); rintro _ w8 ⟨A8, n8, c8, rfl, hLit, hB8⟩; obtain ⟨z0, -⟩ := ent_cells hB8)))
  all_goals
    go_wp2_with fail
    go_ret
    exact ⟨_, rfl, hLit.fresh ho9⟩

set_option maxHeartbeats 3200000 in
set_option maxRecDepth 100000 in
theorem encode_8 (e : EntD) (he : e.kind = 8) (hk : e.ok) (vo ve vp : Value) (w : World) (hE : EntS w (fun b => b < w.heap.size) e vo ve vp) :
    Calls Try.prog 15 #[entV e vo ve vp] w fun en w' => ∃ v', en = .returned v' ∧ Fresh w w' v' (8 :: bodyB e) := by
  obtain ⟨Ao, co, ho, -, -⟩ := hE.ops.form
  obtain ⟨Ae, ce, hev, -, -⟩ := hE.evs.form
  obtain ⟨Ap, cp, hp, -, -⟩ := hE.opn.form
  rw [List.length_map] at ho hev hp
  subst ho; subst hev; subst hp
  obtain ⟨L1, H1⟩ : ∃ L : List UInt8, Hid ([] ++ idsB e = L) := ⟨_, Lib.hid rfl⟩
  obtain ⟨L2, H2⟩ : ∃ L : List UInt8, Hid (L1 ++ plsB e.evs = L) := ⟨_, Lib.hid rfl⟩
  obtain ⟨L3, H3⟩ : ∃ L : List UInt8, Hid (L2 ++ intB e.at_ = L) := ⟨_, Lib.hid rfl⟩
  have hl1 : L1.length ≤ 30 := by rw [← H1.out, List.length_append]; have a1 := idsB_len e hk.tx hk.next hk.nextID; simp only [List.length_nil]; omega
  have hl2 : L2.length ≤ 260030 := by rw [← H2.out, List.length_append]; have a1 := plsB_len e.evs hk.evs hk.fewE; omega
  have hl3 : L3.length ≤ 260040 := by rw [← H3.out, List.length_append]; have a1 := intB_len e.at_ hk.at_; omega
  have HB : Hid (bodyB e = L3) := by
    show _ = _
    unfold bodyB
    rw [he]
    have x1 := H1.out; have x2 := H2.out; have x3 := H3.out
    subst x1; subst x2; subst x3
    simp
  rw [HB.out]
  clear HB
  have hz : (w.alloc (.cells (entCells e (.slice Ao e.ops.length co) (.slice Ae e.evs.length ce) (.slice Ap e.opn.length cp)) 40)).heap.size = w.heap.size + 1 := by simp
  have hA0 : WrAt w ((w.alloc (.cells (entCells e (.slice Ao e.ops.length co) (.slice Ae e.evs.length ce) (.slice Ap e.opn.length cp)) 40)).alloc (.cells #[.slice none 0 0] 85)) w.heap.size (fun k => k = w.heap.size + 1) (w.heap.size + 1) [] (.cells (entCells e (.slice Ao e.ops.length co) (.slice Ae e.evs.length ce) (.slice Ap e.opn.length cp)) 40 (0, 0)) := by
    have hW := Wr.new (w.alloc (.cells (entCells e (.slice Ao e.ops.length co) (.slice Ae e.evs.length ce) (.slice Ap e.opn.length cp)) 40))
    rw [hz] at hW
    exact ⟨hW, fun k hk => by omega, (Chg.alloc_ (fun _ => False) _ _).at_ (heap_alloc_new w _) (fun h => h), ((Chg.refl _ w).alloc _).alloc _, Nat.le_refl _⟩
  clear hz
  unfold entV
  unfold entCells at hA0 ⊢
  rw [he] at hA0 ⊢
  have HA0 := Lib.hid hA0
  clear hA0
  go_enter Try.func15, Try.ntmps15
  go_upto_region 2 with fail
  have hA := HA0.out
  clear HA0
  generalize (w.alloc (.cells #[.int .u8 8, .int .i64 e.tx, .int .i64 e.next, .int .i64 e.nextID, .slice Ao e.ops.length co, .slice Ae e.evs.length ce, .int .i64 e.tickN, .int .i64 e.max, .slice Ap e.opn.length cp, .int .i64 e.tickAt, .string e.name, .int .i64 e.n, .int .i64 e.at_] 40)).alloc (.cells #[.slice none 0 0] 85) = W0 at *
  generalize w.heap.size + 1 = a at *
  obtain ⟨B, hB⟩ : ∃ B, w.heap.size = B := ⟨_, rfl⟩
  rw [hB] at hA ⊢
  clear hB
  obtain ⟨x0, x1, x2, x3, x4, x5, x6, x7, x8, x9, x10, x11, x12⟩ := ent_cells hA.blk
  go_wp2_with fail
  refine (WrAt.idsW he hA hk.tx hk.next hk.nextID (by simp) H1).mono ?_
  rintro _ w1 ⟨rfl, F1, hA1⟩
  clear hA x0 x1 x2 x3 x4 x5 x6 x7 x8 x9 x10 x11 x12
  obtain ⟨x0, x1, x2, x3, x4, x5, x6, x7, x8, x9, x10, x11, x12⟩ := ent_cells hA1.blk
  go_wp2_with fail
  refine (hA1.evsW hE hk.evs hk.fewE (by omega) H2).mono ?_
  rintro _ w2 ⟨rfl, F2, hA2⟩
  clear hA1 x0 x1 x2 x3 x4 x5 x6 x7 x8 x9 x10 x11 x12
  obtain ⟨x0, x1, x2, x3, x4, x5, x6, x7, x8, x9, x10, x11, x12⟩ := ent_cells hA2.blk
  go_wp2_with fail
  refine (hA2.intW hk.at_ (by omega) H3).mono ?_
  rintro _ w3 ⟨rfl, F3, hA3⟩
  clear hA2 x0 x1 x2 x3 x4 x5 x6 x7 x8 x9 x10 x11 x12
  obtain ⟨x0, x1, x2, x3, x4, x5, x6, x7, x8, x9, x10, x11, x12⟩ := ent_cells hA3.blk
  go_upto_region 31 with fail
  clear hE hk
  go_region_law (first | (refine step_appB rfl _ _ rfl _ [8] A8 n8 c8 _ L3 (by rfl) (by rfl) hLit.own hLit.bs (by simp; omega) ?_; intro A9 k9 c9 w9 ho9) | (go_simp; go_at_call 37; ((first | (with_reducible refine (hA3.lit 8 8 rfl (by omega)).mono ?_) | (with_reducible refine (hA3.bare 8 8 rfl (by omega)).mono ?_)); rintro _ w8 ⟨A8, n8, c8, rfl, hLit, hB8⟩; obtain ⟨z0, -⟩ := ent_cells hB8)))
  all_goals
    go_wp2_with fail
    go_ret
    exact ⟨_, rfl, hLit.fresh ho9⟩

set_option maxHeartbeats 3200000 in
set_option maxRecDepth 100000 in
theorem encode_9 (e : EntD) (he : e.kind = 9) (hk : e.ok) (vo ve vp : Value) (w : World) (hE : EntS w (fun b => b < w.heap.size) e vo ve vp) :
    Calls Try.prog 15 #[entV e vo ve vp] w fun en w' => ∃ v', en = .returned v' ∧ Fresh w w' v' (9 :: bodyB e) := by
  obtain ⟨Ao, co, ho, -, -⟩ := hE.ops.form
  obtain ⟨Ae, ce, hev, -, -⟩ := hE.evs.form
  obtain ⟨Ap, cp, hp, -, -⟩ := hE.opn.form
  rw [List.length_map] at ho hev hp
  subst ho; subst hev; subst hp
  obtain ⟨L1, H1⟩ : ∃ L : List UInt8, Hid ([] ++ numB e.n.toNat = L) := ⟨_, Lib.hid rfl⟩
  have hl1 : L1.length ≤ 10 := by rw [← H1.out, List.length_append]; have a1 := numW_len e.n hk.n; simp only [List.length_nil]; omega
  have HB : Hid (bodyB e = L1) := by
    show _ = _
    unfold bodyB
    rw [he]
    have x1 := H1.out
    subst x1
    simp
  rw [HB.out]
  clear HB
  have hz : (w.alloc (.cells (entCells e (.slice Ao e.ops.length co) (.slice Ae e.evs.length ce) (.slice Ap e.opn.length cp)) 40)).heap.size = w.heap.size + 1 := by simp
  have hA0 : WrAt w ((w.alloc (.cells (entCells e (.slice Ao e.ops.length co) (.slice Ae e.evs.length ce) (.slice Ap e.opn.length cp)) 40)).alloc (.cells #[.slice none 0 0] 85)) w.heap.size (fun k => k = w.heap.size + 1) (w.heap.size + 1) [] (.cells (entCells e (.slice Ao e.ops.length co) (.slice Ae e.evs.length ce) (.slice Ap e.opn.length cp)) 40 (0, 0)) := by
    have hW := Wr.new (w.alloc (.cells (entCells e (.slice Ao e.ops.length co) (.slice Ae e.evs.length ce) (.slice Ap e.opn.length cp)) 40))
    rw [hz] at hW
    exact ⟨hW, fun k hk => by omega, (Chg.alloc_ (fun _ => False) _ _).at_ (heap_alloc_new w _) (fun h => h), ((Chg.refl _ w).alloc _).alloc _, Nat.le_refl _⟩
  clear hz
  unfold entV
  unfold entCells at hA0 ⊢
  rw [he] at hA0 ⊢
  have HA0 := Lib.hid hA0
  clear hA0
  go_enter Try.func15, Try.ntmps15
  go_upto_region 2 with fail
  have hA := HA0.out
  clear HA0
  generalize (w.alloc (.cells #[.int .u8 9, .int .i64 e.tx, .int .i64 e.next, .int .i64 e.nextID, .slice Ao e.ops.length co, .slice Ae e.evs.length ce, .int .i64 e.tickN, .int .i64 e.max, .slice Ap e.opn.length cp, .int .i64 e.tickAt, .string e.name, .int .i64 e.n, .int .i64 e.at_] 40)).alloc (.cells #[.slice none 0 0] 85) = W0 at *
  generalize w.heap.size + 1 = a at *
  obtain ⟨B, hB⟩ : ∃ B, w.heap.size = B := ⟨_, rfl⟩
  rw [hB] at hA ⊢
  clear hB
  obtain ⟨x0, x1, x2, x3, x4, x5, x6, x7, x8, x9, x10, x11, x12⟩ := ent_cells hA.blk
  go_wp2_with fail
  refine (hA.num1 hk.n (by simp) H1).mono ?_
  rintro _ w1 ⟨rfl, F1, hA1⟩
  clear hA x0 x1 x2 x3 x4 x5 x6 x7 x8 x9 x10 x11 x12
  obtain ⟨x0, x1, x2, x3, x4, x5, x6, x7, x8, x9, x10, x11, x12⟩ := ent_cells hA1.blk
  go_upto_region 31 with fail
  clear hE hk
  go_region_law (first | (refine step_appB rfl _ _ rfl _ [9] A8 n8 c8 _ L1 (by rfl) (by rfl) hLit.own hLit.bs (by simp; omega) ?_; intro A9 k9 c9 w9 ho9) | (go_simp; go_at_call 37; ((first | (with_reducible refine (hA1.lit 9 9 rfl (by omega)).mono ?_) | (with_reducible refine (hA1.bare 9 9 rfl (by omega)).mono ?_)); rintro _ w8 ⟨A8, n8, c8, rfl, hLit, hB8⟩; obtain ⟨z0, -⟩ := ent_cells hB8)))
  all_goals
    go_wp2_with fail
    go_ret
    exact ⟨_, rfl, hLit.fresh ho9⟩

set_option maxHeartbeats 3200000 in
set_option maxRecDepth 100000 in
theorem encode_10 (e : EntD) (he : e.kind = 10) (hk : e.ok) (vo ve vp : Value) (w : World) (hE : EntS w (fun b => b < w.heap.size) e vo ve vp) :
    Calls Try.prog 15 #[entV e vo ve vp] w fun en w' => ∃ v', en = .returned v' ∧ Fresh w w' v' (10 :: bodyB e) := by
  obtain ⟨Ao, co, ho, -, -⟩ := hE.ops.form
  obtain ⟨Ae, ce, hev, -, -⟩ := hE.evs.form
  obtain ⟨Ap, cp, hp, -, -⟩ := hE.opn.form
  rw [List.length_map] at ho hev hp
  subst ho; subst hev; subst hp
  obtain ⟨L1, H1⟩ : ∃ L : List UInt8, Hid ([] ++ numB e.n.toNat = L) := ⟨_, Lib.hid rfl⟩
  have hl1 : L1.length ≤ 10 := by rw [← H1.out, List.length_append]; have a1 := numW_len e.n hk.n; simp only [List.length_nil]; omega
  have HB : Hid (bodyB e = L1) := by
    show _ = _
    unfold bodyB
    rw [he]
    have x1 := H1.out
    subst x1
    simp
  rw [HB.out]
  clear HB
  have hz : (w.alloc (.cells (entCells e (.slice Ao e.ops.length co) (.slice Ae e.evs.length ce) (.slice Ap e.opn.length cp)) 40)).heap.size = w.heap.size + 1 := by simp
  have hA0 : WrAt w ((w.alloc (.cells (entCells e (.slice Ao e.ops.length co) (.slice Ae e.evs.length ce) (.slice Ap e.opn.length cp)) 40)).alloc (.cells #[.slice none 0 0] 85)) w.heap.size (fun k => k = w.heap.size + 1) (w.heap.size + 1) [] (.cells (entCells e (.slice Ao e.ops.length co) (.slice Ae e.evs.length ce) (.slice Ap e.opn.length cp)) 40 (0, 0)) := by
    have hW := Wr.new (w.alloc (.cells (entCells e (.slice Ao e.ops.length co) (.slice Ae e.evs.length ce) (.slice Ap e.opn.length cp)) 40))
    rw [hz] at hW
    exact ⟨hW, fun k hk => by omega, (Chg.alloc_ (fun _ => False) _ _).at_ (heap_alloc_new w _) (fun h => h), ((Chg.refl _ w).alloc _).alloc _, Nat.le_refl _⟩
  clear hz
  unfold entV
  unfold entCells at hA0 ⊢
  rw [he] at hA0 ⊢
  have HA0 := Lib.hid hA0
  clear hA0
  go_enter Try.func15, Try.ntmps15
  go_upto_region 2 with fail
  have hA := HA0.out
  clear HA0
  generalize (w.alloc (.cells #[.int .u8 10, .int .i64 e.tx, .int .i64 e.next, .int .i64 e.nextID, .slice Ao e.ops.length co, .slice Ae e.evs.length ce, .int .i64 e.tickN, .int .i64 e.max, .slice Ap e.opn.length cp, .int .i64 e.tickAt, .string e.name, .int .i64 e.n, .int .i64 e.at_] 40)).alloc (.cells #[.slice none 0 0] 85) = W0 at *
  generalize w.heap.size + 1 = a at *
  obtain ⟨B, hB⟩ : ∃ B, w.heap.size = B := ⟨_, rfl⟩
  rw [hB] at hA ⊢
  clear hB
  obtain ⟨x0, x1, x2, x3, x4, x5, x6, x7, x8, x9, x10, x11, x12⟩ := ent_cells hA.blk
  go_wp2_with fail
  refine (hA.num1 hk.n (by simp) H1).mono ?_
  rintro _ w1 ⟨rfl, F1, hA1⟩
  clear hA x0 x1 x2 x3 x4 x5 x6 x7 x8 x9 x10 x11 x12
  obtain ⟨x0, x1, x2, x3, x4, x5, x6, x7, x8, x9, x10, x11, x12⟩ := ent_cells hA1.blk
  go_upto_region 31 with fail
  clear hE hk
  go_region_law (first | (refine step_appB rfl _ _ rfl _ [10] A8 n8 c8 _ L1 (by rfl) (by rfl) hLit.own hLit.bs (by simp; omega) ?_; intro A9 k9 c9 w9 ho9) | (go_simp; go_at_call 37; ((first | (with_reducible refine (hA1.lit 10 10 rfl (by omega)).mono ?_) | (with_reducible refine (hA1.bare 10 10 rfl (by omega)).mono ?_)); rintro _ w8 ⟨A8, n8, c8, rfl, hLit, hB8⟩; obtain ⟨z0, -⟩ := ent_cells hB8)))
  all_goals
    go_wp2_with fail
    go_ret
    exact ⟨_, rfl, hLit.fresh ho9⟩

set_option maxHeartbeats 3200000 in
set_option maxRecDepth 100000 in
theorem encode_11 (e : EntD) (he : e.kind = 11) (hk : e.ok) (vo ve vp : Value) (w : World) (hE : EntS w (fun b => b < w.heap.size) e vo ve vp) :
    Calls Try.prog 15 #[entV e vo ve vp] w fun en w' => ∃ v', en = .returned v' ∧ Fresh w w' v' (11 :: bodyB e) := by
  obtain ⟨Ao, co, ho, -, -⟩ := hE.ops.form
  obtain ⟨Ae, ce, hev, -, -⟩ := hE.evs.form
  obtain ⟨Ap, cp, hp, -, -⟩ := hE.opn.form
  rw [List.length_map] at ho hev hp
  subst ho; subst hev; subst hp
  obtain ⟨L1, H1⟩ : ∃ L : List UInt8, Hid ([] ++ numB e.n.toNat = L) := ⟨_, Lib.hid rfl⟩
  obtain ⟨L2, H2⟩ : ∃ L : List UInt8, Hid (L1 ++ opsB e.ops = L) := ⟨_, Lib.hid rfl⟩
  have hl1 : L1.length ≤ 10 := by rw [← H1.out, List.length_append]; have a1 := numW_len e.n hk.n; simp only [List.length_nil]; omega
  have hl2 : L2.length ≤ 1060010 := by rw [← H2.out, List.length_append]; have a1 := opsB_len e.ops hk.ops hk.fewO; omega
  have HB : Hid (bodyB e = L2) := by
    show _ = _
    unfold bodyB
    rw [he]
    have x1 := H1.out; have x2 := H2.out
    subst x1; subst x2
    simp
  rw [HB.out]
  clear HB
  have hz : (w.alloc (.cells (entCells e (.slice Ao e.ops.length co) (.slice Ae e.evs.length ce) (.slice Ap e.opn.length cp)) 40)).heap.size = w.heap.size + 1 := by simp
  have hA0 : WrAt w ((w.alloc (.cells (entCells e (.slice Ao e.ops.length co) (.slice Ae e.evs.length ce) (.slice Ap e.opn.length cp)) 40)).alloc (.cells #[.slice none 0 0] 85)) w.heap.size (fun k => k = w.heap.size + 1) (w.heap.size + 1) [] (.cells (entCells e (.slice Ao e.ops.length co) (.slice Ae e.evs.length ce) (.slice Ap e.opn.length cp)) 40 (0, 0)) := by
    have hW := Wr.new (w.alloc (.cells (entCells e (.slice Ao e.ops.length co) (.slice Ae e.evs.length ce) (.slice Ap e.opn.length cp)) 40))
    rw [hz] at hW
    exact ⟨hW, fun k hk => by omega, (Chg.alloc_ (fun _ => False) _ _).at_ (heap_alloc_new w _) (fun h => h), ((Chg.refl _ w).alloc _).alloc _, Nat.le_refl _⟩
  clear hz
  unfold entV
  unfold entCells at hA0 ⊢
  rw [he] at hA0 ⊢
  have HA0 := Lib.hid hA0
  clear hA0
  go_enter Try.func15, Try.ntmps15
  go_upto_region 2 with fail
  have hA := HA0.out
  clear HA0
  generalize (w.alloc (.cells #[.int .u8 11, .int .i64 e.tx, .int .i64 e.next, .int .i64 e.nextID, .slice Ao e.ops.length co, .slice Ae e.evs.length ce, .int .i64 e.tickN, .int .i64 e.max, .slice Ap e.opn.length cp, .int .i64 e.tickAt, .string e.name, .int .i64 e.n, .int .i64 e.at_] 40)).alloc (.cells #[.slice none 0 0] 85) = W0 at *
  generalize w.heap.size + 1 = a at *
  obtain ⟨B, hB⟩ : ∃ B, w.heap.size = B := ⟨_, rfl⟩
  rw [hB] at hA ⊢
  clear hB
  obtain ⟨x0, x1, x2, x3, x4, x5, x6, x7, x8, x9, x10, x11, x12⟩ := ent_cells hA.blk
  go_wp2_with fail
  refine (hA.num1 hk.n (by simp) H1).mono ?_
  rintro _ w1 ⟨rfl, F1, hA1⟩
  clear hA x0 x1 x2 x3 x4 x5 x6 x7 x8 x9 x10 x11 x12
  obtain ⟨x0, x1, x2, x3, x4, x5, x6, x7, x8, x9, x10, x11, x12⟩ := ent_cells hA1.blk
  go_wp2_with fail
  refine (hA1.opsW hE hk.ops hk.fewO (by omega) H2).mono ?_
  rintro _ w2 ⟨rfl, F2, hA2⟩
  clear hA1 x0 x1 x2 x3 x4 x5 x6 x7 x8 x9 x10 x11 x12
  obtain ⟨x0, x1, x2, x3, x4, x5, x6, x7, x8, x9, x10, x11, x12⟩ := ent_cells hA2.blk
  go_upto_region 31 with fail
  clear hE hk
  go_region_law (first | (refine step_appB rfl _ _ rfl _ [11] A8 n8 c8 _ L2 (by rfl) (by rfl) hLit.own hLit.bs (by simp; omega) ?_; intro A9 k9 c9 w9 ho9) | (go_simp; go_at_call 37; ((first | (with_reducible refine (hA2.lit 11 11 rfl (by omega)).mono ?_) | (with_reducible refine (hA2.bare 11 11 rfl (by omega)).mono ?_)); rintro _ w8 ⟨A8, n8, c8, rfl, hLit, hB8⟩; obtain ⟨z0, -⟩ := ent_cells hB8)))
  all_goals
    go_wp2_with fail
    go_ret
    exact ⟨_, rfl, hLit.fresh ho9⟩

theorem encode_any (e : EntD) (hk1 : 1 ≤ e.kind ∧ e.kind ≤ 11) (hk : e.ok) (vo ve vp : Value) (w : World) (hE : EntS w (fun b => b < w.heap.size) e vo ve vp) :
    Calls Try.prog 15 #[entV e vo ve vp] w fun en w' => ∃ v', en = .returned v' ∧ Fresh w w' v' (entB e) := by
  unfold entB
  obtain h | h | h | h | h | h | h | h | h | h | h : e.kind = 1 ∨ e.kind = 2 ∨ e.kind = 3 ∨ e.kind = 4 ∨ e.kind = 5 ∨ e.kind = 6 ∨ e.kind = 7 ∨ e.kind = 8 ∨ e.kind = 9 ∨ e.kind = 10 ∨ e.kind = 11 := by omega
  · rw [h]; exact encode_1 e h hk vo ve vp w hE
  · rw [h]; exact encode_2 e h hk vo ve vp w hE
  · rw [h]; exact encode_3 e h hk vo ve vp w hE
  · rw [h]; exact encode_4 e h hk vo ve vp w hE
  · rw [h]; exact encode_5 e h hk vo ve vp w hE
  · rw [h]; exact encode_6 e h hk vo ve vp w hE
  · rw [h]; exact encode_7 e h hk vo ve vp w hE
  · rw [h]; exact encode_8 e h hk vo ve vp w hE
  · rw [h]; exact encode_9 e h hk vo ve vp w hE
  · rw [h]; exact encode_10 e h hk vo ve vp w hE
  · rw [h]; exact encode_11 e h hk vo ve vp w hE
end Go.Proofs.Ytdkankiohoocaaa
