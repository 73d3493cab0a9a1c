/- The walk of carrierref16.Encode. -/
import Derived.Test.YtdkankiohoocaaaQRfP
import Derived.Test.YtdkankiohoocaaaQWrR
namespace Go.Proofs.Ytdkankiohoocaaa
set_option linter.unusedSimpArgs false
set_option linter.unusedVariables false
open Go Go.RowKit Go.Proofs

/-- In the midst of it: the bytes so far, and the entry's block B. -/
structure GrAt (w wi : World) (B : Nat) (A : Option Addr) (c : Nat) (L : List UInt8) (o : Obj) : Prop where
  fr : Fresh w wi (.slice A L.length c) L
  blk : wi.heap[B]? = some o
section
variable {w wi w' : World} {B c : Nat} {A : Option Addr} {L L1 K : List UInt8} {o : Obj} {e : EntD} {vo ve vp : Value}
theorem GrAt.sm (h : GrAt w wi B A c L o) : Same w wi := h.fr.2
theorem GrAt.next {A' : Option Addr} {c' : Nat} (h : GrAt w wi B A c L o) (hf : Fresh wi w' (.slice A' L1.length c') L1) : GrAt w w' B A' c' L1 o := ⟨fresh_since h.sm hf, hf.2.at_ h.blk (fun h => h)⟩
theorem GrAt.keep (h : GrAt w wi B A c L o) (hs : Same wi w') : GrAt w w' B A c L o := ⟨⟨h.fr.1.keep hs (fun _ _ h => h), h.sm.trans hs⟩, hs.at_ h.blk (fun h => h)⟩
theorem GrAt.drew (h : GrAt w wi B A c L o) : GrAt w wi.drew B A c L o := h.keep (Chg.refl _ wi).drew
theorem GrAt.num1 {n : Int} (h : GrAt w wi B A c L o) (hn : wholeI n) (hl : L.length ≤ 1099500000000) (hq : Hid (L ++ numB n.toNat = L1)) :
    Calls Try.prog 42 #[.slice A L.length c, .int .i64 n] wi fun en w' => ∃ A' c', en = .returned (.slice A' L1.length c') ∧ GrAt w w' B A' c' L1 o :=
  (rfnum_s n hn A _ c L L1 _ wi h.fr.bs (by omega) hq).mono fun en w' ⟨A', c', h1, h2⟩ => ⟨A', c', h1, h.next h2⟩
theorem GrAt.intW {n : Int} (h : GrAt w wi B A c L o) (hn : i64I n) (hq : Hid (intB n = K)) :
    Calls Try.prog 45 #[.int .i64 n] wi fun en w' => ∃ A' c', en = .returned (.slice A' K.length c') ∧ GrAt w w' B A c L o ∧ Bs w' (fun b => wi.heap.size ≤ b) (.slice A' K.length c') K :=
  (rintb_s n hn.1 hn.2 wi K hq).mono fun en w' ⟨A', c', h1, h2⟩ => ⟨A', c', h1, h.keep h2.2, h2.bs⟩
theorem GrAt.textW {s : ByteArray} (h : GrAt w wi B A c L o) (hs : s.size ≤ 1000) (hq : Hid (textB s.data.toList = K)) :
    Calls Try.prog 46 #[.string s] wi fun en w' => ∃ A' c', en = .returned (.slice A' K.length c') ∧ GrAt w w' B A c L o ∧ Bs w' (fun b => wi.heap.size ≤ b) (.slice A' K.length c') K :=
  (rtextb_s s (by omega) wi K hq).mono fun en w' ⟨A', c', h1, h2⟩ => ⟨A', c', h1, h.keep h2.2, h2.bs⟩
theorem GrAt.join {A2 : Option Addr} {c2 : Nat} {G : Nat → Prop} (h : GrAt w wi B A c L o) (hb : Bs wi G (.slice A2 K.length c2) K) (hl : L.length ≤ 1099500000000) (hk : K.length ≤ 1010) (hq : Hid (L ++ K = L1)) :
    Calls Try.prog 22 #[.slice A L.length c, .slice A2 K.length c2] wi fun en w' => ∃ A' c', en = .returned (.slice A' L1.length c') ∧ GrAt w w' B A' c' L1 o :=
  (join_s A A2 _ _ c c2 L K L1 _ G wi h.fr.bs hb (by omega) hq).mono fun en w' ⟨A', c', h1, h2⟩ => ⟨A', c', h1, h.next h2⟩
theorem GrAt.num1z {n : Int} {x : UInt8} (h : GrAt w wi B A c [x] o) (hn : wholeI n) (hl : [x].length ≤ 1099500000000) (hq : Hid ([x] ++ numB n.toNat = L1)) :
    Calls Try.prog 42 #[.slice A 1 c, .int .i64 n] wi fun en w' => ∃ A' c', en = .returned (.slice A' L1.length c') ∧ GrAt w w' B A' c' L1 o := h.num1 hn hl hq
theorem GrAt.joinz {A2 : Option Addr} {c2 : Nat} {G : Nat → Prop} {x : UInt8} (h : GrAt w wi B A c [x] o) (hb : Bs wi G (.slice A2 K.length c2) K) (hl : [x].length ≤ 1099500000000) (hk : K.length ≤ 1010) (hq : Hid ([x] ++ K = L1)) :
    Calls Try.prog 22 #[.slice A 1 c, .slice A2 K.length c2] wi fun en w' => ∃ A' c', en = .returned (.slice A' L1.length c') ∧ GrAt w w' B A' c' L1 o := h.join hb hl hk hq
theorem GrAt.opsW {G : Nat → Prop} (h : GrAt w wi B A c L o) (hE : EntS w G e vo ve vp) (hn : ∀ o ∈ e.ops, o.ok) (hf : e.ops.length ≤ 1000) (hl : L.length ≤ 1099500000000) (hq : Hid (L ++ opsB e.ops = L1)) :
    Calls Try.prog 43 #[.slice A L.length c, vo] wi fun en w' => ∃ A' c', en = .returned (.slice A' L1.length c') ∧ GrAt w w' B A' c' L1 o :=
  (rfops_any A c _ _ L e.ops vo wi h.fr.bs (hE.ops.same h.sm) hn (by omega) hf L1 hq).mono fun en w' ⟨A', c', h1, h2⟩ => ⟨A', c', h1, h.next h2⟩
theorem GrAt.evsW {G : Nat → Prop} (h : GrAt w wi B A c L o) (hE : EntS w G e vo ve vp) (hn : ∀ o ∈ e.evs, o.ok) (hf : e.evs.length ≤ 1000) (hl : L.length ≤ 1099500000000) (hq : Hid (L ++ plsB e.evs = L1)) :
    Calls Try.prog 44 #[.slice A L.length c, ve] wi fun en w' => ∃ A' c', en = .returned (.slice A' L1.length c') ∧ GrAt w w' B A' c' L1 o :=
  (rfevents_any A c _ _ L e.evs ve wi h.fr.bs (hE.evs.same h.sm) hn (by omega) hf L1 hq).mono fun en w' ⟨A', c', h1, h2⟩ => ⟨A', c', h1, h.next h2⟩
end
theorem GrAt.start (w : World) (x : UInt8) (k : Int) (hk : k = (x.toNat : Int)) (cs : Array Value) (t : TypeId) : GrAt w ((w.alloc (.cells cs t)).alloc (.cells #[.int .u8 k] 5)) w.heap.size (some ⟨w.heap.size + 1, 0, none⟩) 1 [x] (.cells cs t (0, 0)) := by
  subst hk
  obtain ⟨b1, b2, b3, b4⟩ := two_new (Chg.refl (fun _ => False) ((w.alloc (.cells cs t)).alloc (.cells #[.int .u8 (x.toNat : Int)] 5)))
  exact ⟨⟨⟨rfl, .inr ⟨_, 1, _, rfl, by omega, b2, Nat.le_refl _, by unfold maxLen; omega, rfl, rfl⟩⟩, b4⟩, b1⟩

set_option maxHeartbeats 3200000 in
set_option maxRecDepth 100000 in
theorem rencode_1 (e : EntD) (he : e.kind = 1) (hk : e.ok) (vo ve vp : Value) (w : World) (G : Nat → Prop) (hE : EntS w G e vo ve vp) :
    Calls Try.prog 18 #[entV e vo ve vp] w fun en w' => ∃ v', en = .returned v' ∧ Fresh w w' v' (1 :: bodyB e) := by
  obtain ⟨Ao, co, ho, -, -⟩ := hE.ops.form
  obtain ⟨Ae, ce, hev, -, -⟩ := hE.evs.form
  obtain ⟨Ap, cp, hp, -, -⟩ := hE.opn.form
  rw [List.length_map] at ho hev hp
  subst ho; subst hev; subst hp
  obtain ⟨L1, H1⟩ : ∃ L : List UInt8, Hid ([1] ++ numB e.tx.toNat = L) := ⟨_, Lib.hid rfl⟩
  have hl1 : L1.length ≤ 11 := by rw [← H1.out, List.length_append]; have a1 := numW_len e.tx hk.tx; simp only [List.length_cons, List.length_nil]; omega
  obtain ⟨L2, H2⟩ : ∃ L : List UInt8, Hid (L1 ++ numB e.next.toNat = L) := ⟨_, Lib.hid rfl⟩
  have hl2 : L2.length ≤ 21 := by rw [← H2.out, List.length_append]; have a1 := numW_len e.next hk.next; omega
  obtain ⟨L3, H3⟩ : ∃ L : List UInt8, Hid (L2 ++ numB e.nextID.toNat = L) := ⟨_, Lib.hid rfl⟩
  have hl3 : L3.length ≤ 31 := by rw [← H3.out, List.length_append]; have a1 := numW_len e.nextID hk.nextID; omega
  obtain ⟨L4, H4⟩ : ∃ L : List UInt8, Hid (L3 ++ opsB e.ops = L) := ⟨_, Lib.hid rfl⟩
  have hl4 : L4.length ≤ 1060031 := by rw [← H4.out, List.length_append]; have a1 := opsB_len e.ops hk.ops hk.fewO; omega
  obtain ⟨L5, H5⟩ : ∃ L : List UInt8, Hid (L4 ++ plsB e.evs = L) := ⟨_, Lib.hid rfl⟩
  have hl5 : L5.length ≤ 1320031 := by rw [← H5.out, List.length_append]; have a1 := plsB_len e.evs hk.evs hk.fewE; omega
  have HB : Hid (1 :: bodyB e = L5) := by
    show _ = _
    unfold bodyB
    rw [he]
    have x1 := H1.out; have x2 := H2.out; have x3 := H3.out; have x4 := H4.out; have x5 := H5.out
    subst x1; subst x2; subst x3; subst x4; subst x5
    simp [idsB]
  rw [HB.out]
  clear HB
  unfold entV
  unfold entCells
  rw [he]
  have HA0 := Lib.hid (GrAt.start w 1 1 rfl #[.int .u8 1, .int .i64 e.tx, .int .i64 e.next, .int .i64 e.nextID, .slice Ao e.ops.length co, .slice Ae e.evs.length ce, .int .i64 e.tickN, .int .i64 e.max, .slice Ap e.opn.length cp, .int .i64 e.tickAt, .string e.name, .int .i64 e.n, .int .i64 e.at_] 35)
  obtain ⟨x0, -⟩ := ent_cells (heap_alloc_new w (.cells #[.int .u8 1, .int .i64 e.tx, .int .i64 e.next, .int .i64 e.nextID, .slice Ao e.ops.length co, .slice Ae e.evs.length ce, .int .i64 e.tickN, .int .i64 e.max, .slice Ap e.opn.length cp, .int .i64 e.tickAt, .string e.name, .int .i64 e.n, .int .i64 e.at_] 35))
  go_enter Try.func18, Try.ntmps18
  go_upto_region 2 with fail
  have hA := HA0.out
  clear HA0 x0
  generalize (w.alloc (.cells #[.int .u8 1, .int .i64 e.tx, .int .i64 e.next, .int .i64 e.nextID, .slice Ao e.ops.length co, .slice Ae e.evs.length ce, .int .i64 e.tickN, .int .i64 e.max, .slice Ap e.opn.length cp, .int .i64 e.tickAt, .string e.name, .int .i64 e.n, .int .i64 e.at_] 35)).alloc (.cells #[.int .u8 1] 5) = W0 at *
  obtain ⟨B, hB⟩ : ∃ B, w.heap.size = B := ⟨_, rfl⟩
  rw [hB] at hA ⊢
  clear hB
  obtain ⟨x0, x1, x2, x3, x4, x5, x6, x7, x8, x9, x10, x11, x12⟩ := ent_cells hA.blk
  go_upto_region 5 with fail
  go_region_held3 (fun w' => w'.cell? ⟨B, 1, none⟩ = some (.int .i64 e.tx) ∧ w'.cell? ⟨B, 2, none⟩ = some (.int .i64 e.next) ∧ w'.cell? ⟨B, 3, none⟩ = some (.int .i64 e.nextID)) (go_keep) (first | (go_at_call 42; ((with_reducible refine (hA2.num1 hk.nextID (by omega) H3).mono ?_); rintro _ w3 ⟨A3, c3, rfl, hA3⟩; obtain ⟨z3_0, z3_1, z3_2, z3_3, z3_4, z3_5, z3_6, z3_7, z3_8, z3_9, z3_10, z3_11, z3_12⟩ := ent_cells hA3.blk)) | (go_at_call 42; ((with_reducible refine (hA1.num1 hk.next (by omega) H2).mono ?_); rintro _ w2 ⟨A2, c2, rfl, hA2⟩; obtain ⟨z2_0, z2_1, z2_2, z2_3, z2_4, z2_5, z2_6, z2_7, z2_8, z2_9, z2_10, z2_11, z2_12⟩ := ent_cells hA2.blk)) | (go_at_call 42; ((with_reducible refine (hA.drew.num1z hk.tx (by simp) H1).mono ?_); rintro _ w1 ⟨A1, c1, rfl, hA1⟩; obtain ⟨z1_0, z1_1, z1_2, z1_3, z1_4, z1_5, z1_6, z1_7, z1_8, z1_9, z1_10, z1_11, z1_12⟩ := ent_cells hA1.blk)))
  clear hA hA1 hA2 z1_0 z1_1 z1_2 z1_3 z1_4 z1_5 z1_6 z1_7 z1_8 z1_9 z1_10 z1_11 z1_12 z2_0 z2_1 z2_2 z2_3 z2_4 z2_5 z2_6 z2_7 z2_8 z2_9 z2_10 z2_11 z2_12 z3_0 z3_1 z3_2 z3_3 z3_4 z3_5 z3_6 z3_7 z3_8 z3_9 z3_10 z3_11 z3_12 x0 x1 x2 x3 x4 x5 x6 x7 x8 x9 x10 x11 x12
  obtain ⟨x0, x1, x2, x3, x4, x5, x6, x7, x8, x9, x10, x11, x12⟩ := ent_cells hA3.blk
  go_wp2_with fail
  refine (hA3.opsW hE hk.ops hk.fewO (by omega) H4).mono ?_
  rintro _ w4 ⟨A4, c4, rfl, hA4⟩
  clear hA3 x0 x1 x2 x3 x4 x5 x6 x7 x8 x9 x10 x11 x12
  obtain ⟨x0, x1, x2, x3, x4, x5, x6, x7, x8, x9, x10, x11, x12⟩ := ent_cells hA4.blk
  go_wp2_with fail
  refine (hA4.evsW hE hk.evs hk.fewE (by omega) H5).mono ?_
  rintro _ w5 ⟨A5, c5, rfl, hA5⟩
  clear hA4 x0 x1 x2 x3 x4 x5 x6 x7 x8 x9 x10 x11 x12
  obtain ⟨x0, x1, x2, x3, x4, x5, x6, x7, x8, x9, x10, x11, x12⟩ := ent_cells hA5.blk
  have HF := Lib.hid hA5.fr
  clear hA5
  go_wp2_with fail
  go_ret
  exact ⟨_, rfl, HF.out⟩

set_option maxHeartbeats 3200000 in
set_option maxRecDepth 100000 in
theorem rencode_2 (e : EntD) (he : e.kind = 2) (hk : e.ok) (vo ve vp : Value) (w : World) (G : Nat → Prop) (hE : EntS w G e vo ve vp) :
    Calls Try.prog 18 #[entV e vo ve vp] w fun en w' => ∃ v', en = .returned v' ∧ Fresh w w' v' (2 :: bodyB e) := by
  obtain ⟨Ao, co, ho, -, -⟩ := hE.ops.form
  obtain ⟨Ae, ce, hev, -, -⟩ := hE.evs.form
  obtain ⟨Ap, cp, hp, -, -⟩ := hE.opn.form
  rw [List.length_map] at ho hev hp
  subst ho; subst hev; subst hp
  have hlenW : wholeI (e.opn.length : Int) := ⟨by omega, by have := hk.fewN; omega⟩
  obtain ⟨L1, H1⟩ : ∃ L : List UInt8, Hid ([2] ++ numB e.tickN.toNat = L) := ⟨_, Lib.hid rfl⟩
  have hl1 : L1.length ≤ 11 := by rw [← H1.out, List.length_append]; have a1 := numW_len e.tickN hk.tickN; simp only [List.length_cons, List.length_nil]; omega
  obtain ⟨L2, H2⟩ : ∃ L : List UInt8, Hid (L1 ++ numB e.max.toNat = L) := ⟨_, Lib.hid rfl⟩
  have hl2 : L2.length ≤ 21 := by rw [← H2.out, List.length_append]; have a1 := numW_len e.max hk.max; omega
  obtain ⟨L3, H3⟩ : ∃ L : List UInt8, Hid (L2 ++ numB (e.opn.length : Int).toNat = L) := ⟨_, Lib.hid rfl⟩
  have hl3 : L3.length ≤ 31 := by rw [← H3.out, List.length_append]; have a1 := numW_len (e.opn.length : Int) ⟨by omega, by have := hk.fewN; omega⟩; omega
  obtain ⟨L4, H4⟩ : ∃ L : List UInt8, Hid (L3 ++ numsB e.opn = L) := ⟨_, Lib.hid rfl⟩
  have hl4 : L4.length ≤ 10031 := by rw [← H4.out, List.length_append]; have a1 := numsB_len e.opn hk.opn; have a2 := hk.fewN; omega
  obtain ⟨K5, J5⟩ : ∃ L : List UInt8, Hid (intB e.tickAt = L) := ⟨_, Lib.hid rfl⟩
  have hK5 : K5.length ≤ 10 := by rw [← J5.out]; exact intB_len e.tickAt hk.tickAt
  obtain ⟨L5, H5⟩ : ∃ L : List UInt8, Hid (L4 ++ K5 = L) := ⟨_, Lib.hid rfl⟩
  have hl5 : L5.length ≤ 10041 := by rw [← H5.out, List.length_append]; omega
  have HB : Hid (2 :: bodyB e = L5) := by
    show _ = _
    unfold bodyB
    rw [he]
    have x1 := H1.out; have x2 := H2.out; have x3 := H3.out; have x4 := H4.out; have x5 := H5.out; have y5 := J5.out
    subst y5; subst x1; subst x2; subst x3; subst x4; subst x5
    simp [idsB]
  rw [HB.out]
  clear HB
  unfold entV
  unfold entCells
  rw [he]
  have HA0 := Lib.hid (GrAt.start w 2 2 rfl #[.int .u8 2, .int .i64 e.tx, .int .i64 e.next, .int .i64 e.nextID, .slice Ao e.ops.length co, .slice Ae e.evs.length ce, .int .i64 e.tickN, .int .i64 e.max, .slice Ap e.opn.length cp, .int .i64 e.tickAt, .string e.name, .int .i64 e.n, .int .i64 e.at_] 35)
  obtain ⟨x0, -⟩ := ent_cells (heap_alloc_new w (.cells #[.int .u8 2, .int .i64 e.tx, .int .i64 e.next, .int .i64 e.nextID, .slice Ao e.ops.length co, .slice Ae e.evs.length ce, .int .i64 e.tickN, .int .i64 e.max, .slice Ap e.opn.length cp, .int .i64 e.tickAt, .string e.name, .int .i64 e.n, .int .i64 e.at_] 35))
  go_enter Try.func18, Try.ntmps18
  go_upto_region 2 with fail
  have hA := HA0.out
  clear HA0 x0
  generalize (w.alloc (.cells #[.int .u8 2, .int .i64 e.tx, .int .i64 e.next, .int .i64 e.nextID, .slice Ao e.ops.length co, .slice Ae e.evs.length ce, .int .i64 e.tickN, .int .i64 e.max, .slice Ap e.opn.length cp, .int .i64 e.tickAt, .string e.name, .int .i64 e.n, .int .i64 e.at_] 35)).alloc (.cells #[.int .u8 2] 5) = W0 at *
  obtain ⟨B, hB⟩ : ∃ B, w.heap.size = B := ⟨_, rfl⟩
  rw [hB] at hA ⊢
  clear hB
  obtain ⟨x0, x1, x2, x3, x4, x5, x6, x7, x8, x9, x10, x11, x12⟩ := ent_cells hA.blk
  go_upto_region 12 with fail
  go_region_held3 (fun w' => w'.cell? ⟨B, 6, none⟩ = some (.int .i64 e.tickN) ∧ w'.cell? ⟨B, 7, none⟩ = some (.int .i64 e.max) ∧ w'.cell? ⟨B, 8, none⟩ = some (.slice Ap e.opn.length cp)) (go_keep) (first | (go_at_call 42; ((with_reducible refine (hA2.num1 hlenW (by omega) H3).mono ?_); rintro _ w3 ⟨A3, c3, rfl, hA3⟩; obtain ⟨z3_0, z3_1, z3_2, z3_3, z3_4, z3_5, z3_6, z3_7, z3_8, z3_9, z3_10, z3_11, z3_12⟩ := ent_cells hA3.blk)) | (go_at_call 42; ((with_reducible refine (hA1.num1 hk.max (by omega) H2).mono ?_); rintro _ w2 ⟨A2, c2, rfl, hA2⟩; obtain ⟨z2_0, z2_1, z2_2, z2_3, z2_4, z2_5, z2_6, z2_7, z2_8, z2_9, z2_10, z2_11, z2_12⟩ := ent_cells hA2.blk)) | (go_at_call 42; ((with_reducible refine (hA.drew.num1z hk.tickN (by simp) H1).mono ?_); rintro _ w1 ⟨A1, c1, rfl, hA1⟩; obtain ⟨z1_0, z1_1, z1_2, z1_3, z1_4, z1_5, z1_6, z1_7, z1_8, z1_9, z1_10, z1_11, z1_12⟩ := ent_cells hA1.blk)))
  clear hA hA1 hA2 z1_0 z1_1 z1_2 z1_3 z1_4 z1_5 z1_6 z1_7 z1_8 z1_9 z1_10 z1_11 z1_12 z2_0 z2_1 z2_2 z2_3 z2_4 z2_5 z2_6 z2_7 z2_8 z2_9 z2_10 z2_11 z2_12 z3_0 z3_1 z3_2 z3_3 z3_4 z3_5 z3_6 z3_7 z3_8 z3_9 z3_10 z3_11 z3_12 x0 x1 x2 x3 x4 x5 x6 x7 x8 x9 x10 x11 x12
  obtain ⟨x0, x1, x2, x3, x4, x5, x6, x7, x8, x9, x10, x11, x12⟩ := ent_cells hA3.blk
  have HAi := Lib.hid hA3
  clear hA3 x0 x1 x2 x3 x4 x5 x6 x7 x8 x9 x10 x11 x12
  go_wp2_with fail
  go_loopw [3, 4] (fun p i wr => ∃ k : Nat, i = .int .i64 k ∧ k ≤ e.opn.length ∧ ∃ A c, p = .slice A (L3 ++ numsB (e.opn.take k)).length c ∧ GrAt w wr B A c (L3 ++ numsB (e.opn.take k)) (.cells #[.int .u8 2, .int .i64 e.tx, .int .i64 e.next, .int .i64 e.nextID, .slice Ao e.ops.length co, .slice Ae e.evs.length ce, .int .i64 e.tickN, .int .i64 e.max, .slice Ap e.opn.length cp, .int .i64 e.tickAt, .string e.name, .int .i64 e.n, .int .i64 e.at_] 35 (0, 0))) (fun _ i _ => e.opn.length - (intOf i).toNat)
  case atStart => exact ⟨0, rfl, Nat.zero_le _, A3, c3, by simp [numsB], by simpa [numsB] using HAi.out⟩
  case round =>
    obtain ⟨k, rfl, hkn, Ar, cr, rfl, hR⟩ := hrel
    by_cases hkl : k < e.opn.length
    · obtain ⟨b, o, x, hA', -, hx, hc⟩ := (hE.opn.same hR.sm).at_ (i := k) (by rw [List.length_map]; exact hkl)
      have hg : e.opn[k]? = some e.opn[k] := List.getElem?_eq_getElem hkl
      generalize e.opn[k] = nn at hg
      have hxn : x = numCells nn := by rw [List.getElem?_map, hg] at hx; simpa using hx.symm
      subst hxn
      subst hA'
      have p0 := hc 0 (.int .i64 nn) rfl
      have e0 : o + k * 1 + 0 = o + k := by omega
      rw [e0] at p0
      obtain ⟨x0, x1, x2, x3, x4, x5, x6, x7, x8, x9, x10, x11, x12⟩ := ent_cells hR.blk
      have hkl' : (k : Int) < (e.opn.length : Int) := by omega
      have hfew := hk.fewN
      have hnn := hk.opn nn (List.mem_of_getElem? hg)
      have hlt : (L3 ++ numsB (e.opn.take k)).length ≤ 1099500000000 := by
        have := numsB_len (e.opn.take k) (fun m hm => hk.opn m (List.mem_of_mem_take hm))
        have h2 : (e.opn.take k).length ≤ e.opn.length := by simp; omega
        have := hk.fewN
        rw [List.length_append]
        omega
      have HQ : Hid ((L3 ++ numsB (e.opn.take k)) ++ numB nn.toNat = L3 ++ numsB (e.opn.take (k + 1))) := by show _ = _; rw [numsB_take e.opn k nn hg, List.append_assoc]
      obtain ⟨M0, G0⟩ : ∃ M, Hid (L3 ++ numsB (e.opn.take k) = M) := ⟨_, rfl⟩
      rw [G0.out] at hR hlt HQ ⊢
      clear hc hx hg
      go_wp2_with fail
      refine (hR.num1 hnn hlt HQ).mono ?_
      rintro _ w2 ⟨A2, c2, rfl, hR2⟩
      have HR2 := Lib.hid hR2
      clear hR hR2 x0 x1 x2 x3 x4 x5 x6 x7 x8 x9 x10 x11 x12
      go_wp2_with fail
      go_roundw
      case rel => exact ⟨k + 1, by go_num, by omega, A2, c2, by simp, HR2.out⟩
      case measure => simp [intOf]; omega
    · have hke : k = e.opn.length := by omega
      subst hke
      have e9 : L3 ++ numsB (e.opn.take e.opn.length) = L4 := by rw [List.take_length]; exact H4.out
      rw [e9] at hR ⊢
      have hA4 := hR
      clear hR e9 hkl hkn
      obtain ⟨x0, x1, x2, x3, x4, x5, x6, x7, x8, x9, x10, x11, x12⟩ := ent_cells hA4.blk
      go_wp2_with fail
      refine (hA4.intW hk.tickAt J5).mono ?_
      rintro _ v5 ⟨B5, d5, rfl, hB5, hK5b⟩
      clear hA4
      go_wp2_with fail
      refine (hB5.join hK5b (by omega) (by omega) H5).mono ?_
      rintro _ w5 ⟨A5, c5, rfl, hA5⟩
      have HF := Lib.hid hA5.fr
      clear hA5 hB5 hK5b
      go_wp2_with fail
      go_ret
      exact ⟨_, rfl, HF.out⟩

set_option maxHeartbeats 3200000 in
set_option maxRecDepth 100000 in
theorem rencode_3 (e : EntD) (he : e.kind = 3) (hk : e.ok) (vo ve vp : Value) (w : World) (G : Nat → Prop) (hE : EntS w G e vo ve vp) :
    Calls Try.prog 18 #[entV e vo ve vp] w fun en w' => ∃ v', en = .returned v' ∧ Fresh w w' v' (3 :: bodyB e) := by
  obtain ⟨Ao, co, ho, -, -⟩ := hE.ops.form
  obtain ⟨Ae, ce, hev, -, -⟩ := hE.evs.form
  obtain ⟨Ap, cp, hp, -, -⟩ := hE.opn.form
  rw [List.length_map] at ho hev hp
  subst ho; subst hev; subst hp
  obtain ⟨K1, J1⟩ : ∃ L : List UInt8, Hid (textB e.name.data.toList = L) := ⟨_, Lib.hid rfl⟩
  have hK1 : K1.length ≤ 1010 := by rw [← J1.out]; exact textB_len e.name hk.name
  obtain ⟨L1, H1⟩ : ∃ L : List UInt8, Hid ([3] ++ K1 = L) := ⟨_, Lib.hid rfl⟩
  have hl1 : L1.length ≤ 1011 := by rw [← H1.out, List.length_append]; simp only [List.length_cons, List.length_nil]; omega
  obtain ⟨L2, H2⟩ : ∃ L : List UInt8, Hid (L1 ++ numB e.n.toNat = L) := ⟨_, Lib.hid rfl⟩
  have hl2 : L2.length ≤ 1021 := by rw [← H2.out, List.length_append]; have a1 := numW_len e.n hk.n; omega
  have HB : Hid (3 :: bodyB e = L2) := by
    show _ = _
    unfold bodyB
    rw [he]
    have x1 := H1.out; have x2 := H2.out; have y1 := J1.out
    subst y1; subst x1; subst x2
    simp [idsB]
  rw [HB.out]
  clear HB
  unfold entV
  unfold entCells
  rw [he]
  have HA0 := Lib.hid (GrAt.start w 3 3 rfl #[.int .u8 3, .int .i64 e.tx, .int .i64 e.next, .int .i64 e.nextID, .slice Ao e.ops.length co, .slice Ae e.evs.length ce, .int .i64 e.tickN, .int .i64 e.max, .slice Ap e.opn.length cp, .int .i64 e.tickAt, .string e.name, .int .i64 e.n, .int .i64 e.at_] 35)
  obtain ⟨x0, -⟩ := ent_cells (heap_alloc_new w (.cells #[.int .u8 3, .int .i64 e.tx, .int .i64 e.next, .int .i64 e.nextID, .slice Ao e.ops.length co, .slice Ae e.evs.length ce, .int .i64 e.tickN, .int .i64 e.max, .slice Ap e.opn.length cp, .int .i64 e.tickAt, .string e.name, .int .i64 e.n, .int .i64 e.at_] 35))
  go_enter Try.func18, Try.ntmps18
  go_upto_region 2 with fail
  have hA := HA0.out
  clear HA0 x0
  generalize (w.alloc (.cells #[.int .u8 3, .int .i64 e.tx, .int .i64 e.next, .int .i64 e.nextID, .slice Ao e.ops.length co, .slice Ae e.evs.length ce, .int .i64 e.tickN, .int .i64 e.max, .slice Ap e.opn.length cp, .int .i64 e.tickAt, .string e.name, .int .i64 e.n, .int .i64 e.at_] 35)).alloc (.cells #[.int .u8 3] 5) = W0 at *
  obtain ⟨B, hB⟩ : ∃ B, w.heap.size = B := ⟨_, rfl⟩
  rw [hB] at hA ⊢
  clear hB
  obtain ⟨x0, x1, x2, x3, x4, x5, x6, x7, x8, x9, x10, x11, x12⟩ := ent_cells hA.blk
  go_upto_region 23 with fail
  go_region_held3 (fun w' => w'.cell? ⟨B, 10, none⟩ = some (.string e.name) ∧ w'.cell? ⟨B, 11, none⟩ = some (.int .i64 e.n)) (go_keep) (first | (go_at_call 42; ((with_reducible refine (hA1.num1 hk.n (by omega) H2).mono ?_); rintro _ w2 ⟨A2, c2, rfl, hA2⟩; obtain ⟨z2_0, z2_1, z2_2, z2_3, z2_4, z2_5, z2_6, z2_7, z2_8, z2_9, z2_10, z2_11, z2_12⟩ := ent_cells hA2.blk)) | (go_at_call 22; ((with_reducible refine (hB1.joinz hK1b (by simp) (by omega) H1).mono ?_); rintro _ w1 ⟨A1, c1, rfl, hA1⟩; obtain ⟨z1_0, z1_1, z1_2, z1_3, z1_4, z1_5, z1_6, z1_7, z1_8, z1_9, z1_10, z1_11, z1_12⟩ := ent_cells hA1.blk)) | (go_at_call 46; ((with_reducible refine (hA.drew.textW hk.name J1).mono ?_); rintro _ v1 ⟨B1, d1, rfl, hB1, hK1b⟩; obtain ⟨y1_0, y1_1, y1_2, y1_3, y1_4, y1_5, y1_6, y1_7, y1_8, y1_9, y1_10, y1_11, y1_12⟩ := ent_cells hB1.blk)))
  clear hA hA1 z1_0 z1_1 z1_2 z1_3 z1_4 z1_5 z1_6 z1_7 z1_8 z1_9 z1_10 z1_11 z1_12 hB1 hK1b y1_0 y1_1 y1_2 y1_3 y1_4 y1_5 y1_6 y1_7 y1_8 y1_9 y1_10 y1_11 y1_12 z2_0 z2_1 z2_2 z2_3 z2_4 z2_5 z2_6 z2_7 z2_8 z2_9 z2_10 z2_11 z2_12 x0 x1 x2 x3 x4 x5 x6 x7 x8 x9 x10 x11 x12
  obtain ⟨x0, x1, x2, x3, x4, x5, x6, x7, x8, x9, x10, x11, x12⟩ := ent_cells hA2.blk
  have HF := Lib.hid hA2.fr
  clear hA2
  go_wp2_with fail
  go_ret
  exact ⟨_, rfl, HF.out⟩

set_option maxHeartbeats 3200000 in
set_option maxRecDepth 100000 in
theorem rencode_4 (e : EntD) (he : e.kind = 4) (hk : e.ok) (vo ve vp : Value) (w : World) (G : Nat → Prop) (hE : EntS w G e vo ve vp) :
    Calls Try.prog 18 #[entV e vo ve vp] w fun en w' => ∃ v', en = .returned v' ∧ Fresh w w' v' (4 :: bodyB e) := by
  obtain ⟨Ao, co, ho, -, -⟩ := hE.ops.form
  obtain ⟨Ae, ce, hev, -, -⟩ := hE.evs.form
  obtain ⟨Ap, cp, hp, -, -⟩ := hE.opn.form
  rw [List.length_map] at ho hev hp
  subst ho; subst hev; subst hp
  obtain ⟨K1, J1⟩ : ∃ L : List UInt8, Hid (textB e.name.data.toList = L) := ⟨_, Lib.hid rfl⟩
  have hK1 : K1.length ≤ 1010 := by rw [← J1.out]; exact textB_len e.name hk.name
  obtain ⟨L1, H1⟩ : ∃ L : List UInt8, Hid ([4] ++ K1 = L) := ⟨_, Lib.hid rfl⟩
  have hl1 : L1.length ≤ 1011 := by rw [← H1.out, List.length_append]; simp only [List.length_cons, List.length_nil]; omega
  obtain ⟨L2, H2⟩ : ∃ L : List UInt8, Hid (L1 ++ numB e.n.toNat = L) := ⟨_, Lib.hid rfl⟩
  have hl2 : L2.length ≤ 1021 := by rw [← H2.out, List.length_append]; have a1 := numW_len e.n hk.n; omega
  have HB : Hid (4 :: bodyB e = L2) := by
    show _ = _
    unfold bodyB
    rw [he]
    have x1 := H1.out; have x2 := H2.out; have y1 := J1.out
    subst y1; subst x1; subst x2
    simp [idsB]
  rw [HB.out]
  clear HB
  unfold entV
  unfold entCells
  rw [he]
  have HA0 := Lib.hid (GrAt.start w 4 4 rfl #[.int .u8 4, .int .i64 e.tx, .int .i64 e.next, .int .i64 e.nextID, .slice Ao e.ops.length co, .slice Ae e.evs.length ce, .int .i64 e.tickN, .int .i64 e.max, .slice Ap e.opn.length cp, .int .i64 e.tickAt, .string e.name, .int .i64 e.n, .int .i64 e.at_] 35)
  obtain ⟨x0, -⟩ := ent_cells (heap_alloc_new w (.cells #[.int .u8 4, .int .i64 e.tx, .int .i64 e.next, .int .i64 e.nextID, .slice Ao e.ops.length co, .slice Ae e.evs.length ce, .int .i64 e.tickN, .int .i64 e.max, .slice Ap e.opn.length cp, .int .i64 e.tickAt, .string e.name, .int .i64 e.n, .int .i64 e.at_] 35))
  go_enter Try.func18, Try.ntmps18
  go_upto_region 2 with fail
  have hA := HA0.out
  clear HA0 x0
  generalize (w.alloc (.cells #[.int .u8 4, .int .i64 e.tx, .int .i64 e.next, .int .i64 e.nextID, .slice Ao e.ops.length co, .slice Ae e.evs.length ce, .int .i64 e.tickN, .int .i64 e.max, .slice Ap e.opn.length cp, .int .i64 e.tickAt, .string e.name, .int .i64 e.n, .int .i64 e.at_] 35)).alloc (.cells #[.int .u8 4] 5) = W0 at *
  obtain ⟨B, hB⟩ : ∃ B, w.heap.size = B := ⟨_, rfl⟩
  rw [hB] at hA ⊢
  clear hB
  obtain ⟨x0, x1, x2, x3, x4, x5, x6, x7, x8, x9, x10, x11, x12⟩ := ent_cells hA.blk
  go_upto_region 23 with fail
  go_region_held3 (fun w' => w'.cell? ⟨B, 10, none⟩ = some (.string e.name) ∧ w'.cell? ⟨B, 11, none⟩ = some (.int .i64 e.n)) (go_keep) (first | (go_at_call 42; ((with_reducible refine (hA1.num1 hk.n (by omega) H2).mono ?_); rintro _ w2 ⟨A2, c2, rfl, hA2⟩; obtain ⟨z2_0, z2_1, z2_2, z2_3, z2_4, z2_5, z2_6, z2_7, z2_8, z2_9, z2_10, z2_11, z2_12⟩ := ent_cells hA2.blk)) | (go_at_call 22; ((with_reducible refine (hB1.joinz hK1b (by simp) (by omega) H1).mono ?_); rintro _ w1 ⟨A1, c1, rfl, hA1⟩; obtain ⟨z1_0, z1_1, z1_2, z1_3, z1_4, z1_5, z1_6, z1_7, z1_8, z1_9, z1_10, z1_11, z1_12⟩ := ent_cells hA1.blk)) | (go_at_call 46; ((with_reducible refine (hA.drew.textW hk.name J1).mono ?_); rintro _ v1 ⟨B1, d1, rfl, hB1, hK1b⟩; obtain ⟨y1_0, y1_1, y1_2, y1_3, y1_4, y1_5, y1_6, y1_7, y1_8, y1_9, y1_10, y1_11, y1_12⟩ := ent_cells hB1.blk)))
  clear hA hA1 z1_0 z1_1 z1_2 z1_3 z1_4 z1_5 z1_6 z1_7 z1_8 z1_9 z1_10 z1_11 z1_12 hB1 hK1b y1_0 y1_1 y1_2 y1_3 y1_4 y1_5 y1_6 y1_7 y1_8 y1_9 y1_10 y1_11 y1_12 z2_0 z2_1 z2_2 z2_3 z2_4 z2_5 z2_6 z2_7 z2_8 z2_9 z2_10 z2_11 z2_12 x0 x1 x2 x3 x4 x5 x6 x7 x8 x9 x10 x11 x12
  obtain ⟨x0, x1, x2, x3, x4, x5, x6, x7, x8, x9, x10, x11, x12⟩ := ent_cells hA2.blk
  have HF := Lib.hid hA2.fr
  clear hA2
  go_wp2_with fail
  go_ret
  exact ⟨_, rfl, HF.out⟩

set_option maxHeartbeats 3200000 in
set_option maxRecDepth 100000 in
theorem rencode_5 (e : EntD) (he : e.kind = 5) (hk : e.ok) (vo ve vp : Value) (w : World) (G : Nat → Prop) (hE : EntS w G e vo ve vp) :
    Calls Try.prog 18 #[entV e vo ve vp] w fun en w' => ∃ v', en = .returned v' ∧ Fresh w w' v' (5 :: bodyB e) := by
  obtain ⟨Ao, co, ho, -, -⟩ := hE.ops.form
  obtain ⟨Ae, ce, hev, -, -⟩ := hE.evs.form
  obtain ⟨Ap, cp, hp, -, -⟩ := hE.opn.form
  rw [List.length_map] at ho hev hp
  subst ho; subst hev; subst hp
  obtain ⟨K1, J1⟩ : ∃ L : List UInt8, Hid (textB e.name.data.toList = L) := ⟨_, Lib.hid rfl⟩
  have hK1 : K1.length ≤ 1010 := by rw [← J1.out]; exact textB_len e.name hk.name
  obtain ⟨L1, H1⟩ : ∃ L : List UInt8, Hid ([5] ++ K1 = L) := ⟨_, Lib.hid rfl⟩
  have hl1 : L1.length ≤ 1011 := by rw [← H1.out, List.length_append]; simp only [List.length_cons, List.length_nil]; omega
  obtain ⟨L2, H2⟩ : ∃ L : List UInt8, Hid (L1 ++ numB e.n.toNat = L) := ⟨_, Lib.hid rfl⟩
  have hl2 : L2.length ≤ 1021 := by rw [← H2.out, List.length_append]; have a1 := numW_len e.n hk.n; omega
  have HB : Hid (5 :: bodyB e = L2) := by
    show _ = _
    unfold bodyB
    rw [he]
    have x1 := H1.out; have x2 := H2.out; have y1 := J1.out
    subst y1; subst x1; subst x2
    simp [idsB]
  rw [HB.out]
  clear HB
  unfold entV
  unfold entCells
  rw [he]
  have HA0 := Lib.hid (GrAt.start w 5 5 rfl #[.int .u8 5, .int .i64 e.tx, .int .i64 e.next, .int .i64 e.nextID, .slice Ao e.ops.length co, .slice Ae e.evs.length ce, .int .i64 e.tickN, .int .i64 e.max, .slice Ap e.opn.length cp, .int .i64 e.tickAt, .string e.name, .int .i64 e.n, .int .i64 e.at_] 35)
  obtain ⟨x0, -⟩ := ent_cells (heap_alloc_new w (.cells #[.int .u8 5, .int .i64 e.tx, .int .i64 e.next, .int .i64 e.nextID, .slice Ao e.ops.length co, .slice Ae e.evs.length ce, .int .i64 e.tickN, .int .i64 e.max, .slice Ap e.opn.length cp, .int .i64 e.tickAt, .string e.name, .int .i64 e.n, .int .i64 e.at_] 35))
  go_enter Try.func18, Try.ntmps18
  go_upto_region 2 with fail
  have hA := HA0.out
  clear HA0 x0
  generalize (w.alloc (.cells #[.int .u8 5, .int .i64 e.tx, .int .i64 e.next, .int .i64 e.nextID, .slice Ao e.ops.length co, .slice Ae e.evs.length ce, .int .i64 e.tickN, .int .i64 e.max, .slice Ap e.opn.length cp, .int .i64 e.tickAt, .string e.name, .int .i64 e.n, .int .i64 e.at_] 35)).alloc (.cells #[.int .u8 5] 5) = W0 at *
  obtain ⟨B, hB⟩ : ∃ B, w.heap.size = B := ⟨_, rfl⟩
  rw [hB] at hA ⊢
  clear hB
  obtain ⟨x0, x1, x2, x3, x4, x5, x6, x7, x8, x9, x10, x11, x12⟩ := ent_cells hA.blk
  go_upto_region 23 with fail
  go_region_held3 (fun w' => w'.cell? ⟨B, 10, none⟩ = some (.string e.name) ∧ w'.cell? ⟨B, 11, none⟩ = some (.int .i64 e.n)) (go_keep) (first | (go_at_call 42; ((with_reducible refine (hA1.num1 hk.n (by omega) H2).mono ?_); rintro _ w2 ⟨A2, c2, rfl, hA2⟩; obtain ⟨z2_0, z2_1, z2_2, z2_3, z2_4, z2_5, z2_6, z2_7, z2_8, z2_9, z2_10, z2_11, z2_12⟩ := ent_cells hA2.blk)) | (go_at_call 22; ((with_reducible refine (hB1.joinz hK1b (by simp) (by omega) H1).mono ?_); rintro _ w1 ⟨A1, c1, rfl, hA1⟩; obtain ⟨z1_0, z1_1, z1_2, z1_3, z1_4, z1_5, z1_6, z1_7, z1_8, z1_9, z1_10, z1_11, z1_12⟩ := ent_cells hA1.blk)) | (go_at_call 46; ((with_reducible refine (hA.drew.textW hk.name J1).mono ?_); rintro _ v1 ⟨B1, d1, rfl, hB1, hK1b⟩; obtain ⟨y1_0, y1_1, y1_2, y1_3, y1_4, y1_5, y1_6, y1_7, y1_8, y1_9, y1_10, y1_11, y1_12⟩ := ent_cells hB1.blk)))
  clear hA hA1 z1_0 z1_1 z1_2 z1_3 z1_4 z1_5 z1_6 z1_7 z1_8 z1_9 z1_10 z1_11 z1_12 hB1 hK1b y1_0 y1_1 y1_2 y1_3 y1_4 y1_5 y1_6 y1_7 y1_8 y1_9 y1_10 y1_11 y1_12 z2_0 z2_1 z2_2 z2_3 z2_4 z2_5 z2_6 z2_7 z2_8 z2_9 z2_10 z2_11 z2_12 x0 x1 x2 x3 x4 x5 x6 x7 x8 x9 x10 x11 x12
  obtain ⟨x0, x1, x2, x3, x4, x5, x6, x7, x8, x9, x10, x11, x12⟩ := ent_cells hA2.blk
  have HF := Lib.hid hA2.fr
  clear hA2
  go_wp2_with fail
  go_ret
  exact ⟨_, rfl, HF.out⟩

set_option maxHeartbeats 3200000 in
set_option maxRecDepth 100000 in
theorem rencode_6 (e : EntD) (he : e.kind = 6) (hk : e.ok) (vo ve vp : Value) (w : World) (G : Nat → Prop) (hE : EntS w G e vo ve vp) :
    Calls Try.prog 18 #[entV e vo ve vp] w fun en w' => ∃ v', en = .returned v' ∧ Fresh w w' v' (6 :: bodyB e) := by
  obtain ⟨Ao, co, ho, -, -⟩ := hE.ops.form
  obtain ⟨Ae, ce, hev, -, -⟩ := hE.evs.form
  obtain ⟨Ap, cp, hp, -, -⟩ := hE.opn.form
  rw [List.length_map] at ho hev hp
  subst ho; subst hev; subst hp
  obtain ⟨K1, J1⟩ : ∃ L : List UInt8, Hid (textB e.name.data.toList = L) := ⟨_, Lib.hid rfl⟩
  have hK1 : K1.length ≤ 1010 := by rw [← J1.out]; exact textB_len e.name hk.name
  obtain ⟨L1, H1⟩ : ∃ L : List UInt8, Hid ([6] ++ K1 = L) := ⟨_, Lib.hid rfl⟩
  have hl1 : L1.length ≤ 1011 := by rw [← H1.out, List.length_append]; simp only [List.length_cons, List.length_nil]; omega
  obtain ⟨L2, H2⟩ : ∃ L : List UInt8, Hid (L1 ++ numB e.n.toNat = L) := ⟨_, Lib.hid rfl⟩
  have hl2 : L2.length ≤ 1021 := by rw [← H2.out, List.length_append]; have a1 := numW_len e.n hk.n; omega
  have HB : Hid (6 :: bodyB e = L2) := by
    show _ = _
    unfold bodyB
    rw [he]
    have x1 := H1.out; have x2 := H2.out; have y1 := J1.out
    subst y1; subst x1; subst x2
    simp [idsB]
  rw [HB.out]
  clear HB
  unfold entV
  unfold entCells
  rw [he]
  have HA0 := Lib.hid (GrAt.start w 6 6 rfl #[.int .u8 6, .int .i64 e.tx, .int .i64 e.next, .int .i64 e.nextID, .slice Ao e.ops.length co, .slice Ae e.evs.length ce, .int .i64 e.tickN, .int .i64 e.max, .slice Ap e.opn.length cp, .int .i64 e.tickAt, .string e.name, .int .i64 e.n, .int .i64 e.at_] 35)
  obtain ⟨x0, -⟩ := ent_cells (heap_alloc_new w (.cells #[.int .u8 6, .int .i64 e.tx, .int .i64 e.next, .int .i64 e.nextID, .slice Ao e.ops.length co, .slice Ae e.evs.length ce, .int .i64 e.tickN, .int .i64 e.max, .slice Ap e.opn.length cp, .int .i64 e.tickAt, .string e.name, .int .i64 e.n, .int .i64 e.at_] 35))
  go_enter Try.func18, Try.ntmps18
  go_upto_region 2 with fail
  have hA := HA0.out
  clear HA0 x0
  generalize (w.alloc (.cells #[.int .u8 6, .int .i64 e.tx, .int .i64 e.next, .int .i64 e.nextID, .slice Ao e.ops.length co, .slice Ae e.evs.length ce, .int .i64 e.tickN, .int .i64 e.max, .slice Ap e.opn.length cp, .int .i64 e.tickAt, .string e.name, .int .i64 e.n, .int .i64 e.at_] 35)).alloc (.cells #[.int .u8 6] 5) = W0 at *
  obtain ⟨B, hB⟩ : ∃ B, w.heap.size = B := ⟨_, rfl⟩
  rw [hB] at hA ⊢
  clear hB
  obtain ⟨x0, x1, x2, x3, x4, x5, x6, x7, x8, x9, x10, x11, x12⟩ := ent_cells hA.blk
  go_upto_region 23 with fail
  go_region_held3 (fun w' => w'.cell? ⟨B, 10, none⟩ = some (.string e.name) ∧ w'.cell? ⟨B, 11, none⟩ = some (.int .i64 e.n)) (go_keep) (first | (go_at_call 42; ((with_reducible refine (hA1.num1 hk.n (by omega) H2).mono ?_); rintro _ w2 ⟨A2, c2, rfl, hA2⟩; obtain ⟨z2_0, z2_1, z2_2, z2_3, z2_4, z2_5, z2_6, z2_7, z2_8, z2_9, z2_10, z2_11, z2_12⟩ := ent_cells hA2.blk)) | (go_at_call 22; ((with_reducible refine (hB1.joinz hK1b (by simp) (by omega) H1).mono ?_); rintro _ w1 ⟨A1, c1, rfl, hA1⟩; obtain ⟨z1_0, z1_1, z1_2, z1_3, z1_4, z1_5, z1_6, z1_7, z1_8, z1_9, z1_10, z1_11, z1_12⟩ := ent_cells hA1.blk)) | (go_at_call 46; ((with_reducible refine (hA.drew.textW hk.name J1).mono ?_); rintro _ v1 ⟨B1, d1, rfl, hB1, hK1b⟩; obtain ⟨y1_0, y1_1, y1_2, y1_3, y1_4, y1_5, y1_6, y1_7, y1_8, y1_9, y1_10, y1_11, y1_12⟩ := ent_cells hB1.blk)))
  clear hA hA1 z1_0 z1_1 z1_2 z1_3 z1_4 z1_5 z1_6 z1_7 z1_8 z1_9 z1_10 z1_11 z1_12 hB1 hK1b y1_0 y1_1 y1_2 y1_3 y1_4 y1_5 y1_6 y1_7 y1_8 y1_9 y1_10 y1_11 y1_12 z2_0 z2_1 z2_2 z2_3 z2_4 z2_5 z2_6 z2_7 z2_8 z2_9 z2_10 z2_11 z2_12 x0 x1 x2 x3 x4 x5 x6 x7 x8 x9 x10 x11 x12
  obtain ⟨x0, x1, x2, x3, x4, x5, x6, x7, x8, x9, x10, x11, x12⟩ := ent_cells hA2.blk
  have HF := Lib.hid hA2.fr
  clear hA2
  go_wp2_with fail
  go_ret
  exact ⟨_, rfl, HF.out⟩

set_option maxHeartbeats 3200000 in
set_option maxRecDepth 100000 in
theorem rencode_7 (e : EntD) (he : e.kind = 7) (hk : e.ok) (vo ve vp : Value) (w : World) (G : Nat → Prop) (hE : EntS w G e vo ve vp) :
    Calls Try.prog 18 #[entV e vo ve vp] w fun en w' => ∃ v', en = .returned v' ∧ Fresh w w' v' (7 :: bodyB e) := by
  obtain ⟨Ao, co, ho, -, -⟩ := hE.ops.form
  obtain ⟨Ae, ce, hev, -, -⟩ := hE.evs.form
  obtain ⟨Ap, cp, hp, -, -⟩ := hE.opn.form
  rw [List.length_map] at ho hev hp
  subst ho; subst hev; subst hp
  obtain ⟨K1, J1⟩ : ∃ L : List UInt8, Hid (textB e.name.data.toList = L) := ⟨_, Lib.hid rfl⟩
  have hK1 : K1.length ≤ 1010 := by rw [← J1.out]; exact textB_len e.name hk.name
  obtain ⟨L1, H1⟩ : ∃ L : List UInt8, Hid ([7] ++ K1 = L) := ⟨_, Lib.hid rfl⟩
  have hl1 : L1.length ≤ 1011 := by rw [← H1.out, List.length_append]; simp only [List.length_cons, List.length_nil]; omega
  obtain ⟨L2, H2⟩ : ∃ L : List UInt8, Hid (L1 ++ numB e.n.toNat = L) := ⟨_, Lib.hid rfl⟩
  have hl2 : L2.length ≤ 1021 := by rw [← H2.out, List.length_append]; have a1 := numW_len e.n hk.n; omega
  obtain ⟨K3, J3⟩ : ∃ L : List UInt8, Hid (intB e.at_ = L) := ⟨_, Lib.hid rfl⟩
  have hK3 : K3.length ≤ 10 := by rw [← J3.out]; exact intB_len e.at_ hk.at_
  obtain ⟨L3, H3⟩ : ∃ L : List UInt8, Hid (L2 ++ K3 = L) := ⟨_, Lib.hid rfl⟩
  have hl3 : L3.length ≤ 1031 := by rw [← H3.out, List.length_append]; omega
  have HB : Hid (7 :: bodyB e = L3) := by
    show _ = _
    unfold bodyB
    rw [he]
    have x1 := H1.out; have x2 := H2.out; have x3 := H3.out; have y1 := J1.out; have y3 := J3.out
    subst y1; subst y3; subst x1; subst x2; subst x3
    simp [idsB]
  rw [HB.out]
  clear HB
  unfold entV
  unfold entCells
  rw [he]
  have HA0 := Lib.hid (GrAt.start w 7 7 rfl #[.int .u8 7, .int .i64 e.tx, .int .i64 e.next, .int .i64 e.nextID, .slice Ao e.ops.length co, .slice Ae e.evs.length ce, .int .i64 e.tickN, .int .i64 e.max, .slice Ap e.opn.length cp, .int .i64 e.tickAt, .string e.name, .int .i64 e.n, .int .i64 e.at_] 35)
  obtain ⟨x0, -⟩ := ent_cells (heap_alloc_new w (.cells #[.int .u8 7, .int .i64 e.tx, .int .i64 e.next, .int .i64 e.nextID, .slice Ao e.ops.length co, .slice Ae e.evs.length ce, .int .i64 e.tickN, .int .i64 e.max, .slice Ap e.opn.length cp, .int .i64 e.tickAt, .string e.name, .int .i64 e.n, .int .i64 e.at_] 35))
  go_enter Try.func18, Try.ntmps18
  go_upto_region 2 with fail
  have hA := HA0.out
  clear HA0 x0
  generalize (w.alloc (.cells #[.int .u8 7, .int .i64 e.tx, .int .i64 e.next, .int .i64 e.nextID, .slice Ao e.ops.length co, .slice Ae e.evs.length ce, .int .i64 e.tickN, .int .i64 e.max, .slice Ap e.opn.length cp, .int .i64 e.tickAt, .string e.name, .int .i64 e.n, .int .i64 e.at_] 35)).alloc (.cells #[.int .u8 7] 5) = W0 at *
  obtain ⟨B, hB⟩ : ∃ B, w.heap.size = B := ⟨_, rfl⟩
  rw [hB] at hA ⊢
  clear hB
  obtain ⟨x0, x1, x2, x3, x4, x5, x6, x7, x8, x9, x10, x11, x12⟩ := ent_cells hA.blk
  go_upto_region 23 with fail
  go_region_held3 (fun w' => w'.cell? ⟨B, 10, none⟩ = some (.string e.name) ∧ w'.cell? ⟨B, 11, none⟩ = some (.int .i64 e.n)) (go_keep) (first | (go_at_call 42; ((with_reducible refine (hA1.num1 hk.n (by omega) H2).mono ?_); rintro _ w2 ⟨A2, c2, rfl, hA2⟩; obtain ⟨z2_0, z2_1, z2_2, z2_3, z2_4, z2_5, z2_6, z2_7, z2_8, z2_9, z2_10, z2_11, z2_12⟩ := ent_cells hA2.blk)) | (go_at_call 22; ((with_reducible refine (hB1.joinz hK1b (by simp) (by omega) H1).mono ?_); rintro _ w1 ⟨A1, c1, rfl, hA1⟩; obtain ⟨z1_0, z1_1, z1_2, z1_3, z1_4, z1_5, z1_6, z1_7, z1_8, z1_9, z1_10, z1_11, z1_12⟩ := ent_cells hA1.blk)) | (go_at_call 46; ((with_reducible refine (hA.drew.textW hk.name J1).mono ?_); rintro _ v1 ⟨B1, d1, rfl, hB1, hK1b⟩; obtain ⟨y1_0, y1_1, y1_2, y1_3, y1_4, y1_5, y1_6, y1_7, y1_8, y1_9, y1_10, y1_11, y1_12⟩ := ent_cells hB1.blk)))
  clear hA hA1 z1_0 z1_1 z1_2 z1_3 z1_4 z1_5 z1_6 z1_7 z1_8 z1_9 z1_10 z1_11 z1_12 hB1 hK1b y1_0 y1_1 y1_2 y1_3 y1_4 y1_5 y1_6 y1_7 y1_8 y1_9 y1_10 y1_11 y1_12 z2_0 z2_1 z2_2 z2_3 z2_4 z2_5 z2_6 z2_7 z2_8 z2_9 z2_10 z2_11 z2_12 x0 x1 x2 x3 x4 x5 x6 x7 x8 x9 x10 x11 x12
  obtain ⟨x0, x1, x2, x3, x4, x5, x6, x7, x8, x9, x10, x11, x12⟩ := ent_cells hA2.blk
  go_wp2_with fail
  refine (hA2.intW hk.at_ J3).mono ?_
  rintro _ v3 ⟨B3, d3, rfl, hB3, hK3b⟩
  obtain ⟨y3_0, y3_1, y3_2, y3_3, y3_4, y3_5, y3_6, y3_7, y3_8, y3_9, y3_10, y3_11, y3_12⟩ := ent_cells hB3.blk
  clear hA2 x0 x1 x2 x3 x4 x5 x6 x7 x8 x9 x10 x11 x12
  go_wp2_with fail
  refine (hB3.join hK3b (by omega) (by omega) H3).mono ?_
  rintro _ w3 ⟨A3, c3, rfl, hA3⟩
  clear hB3 hK3b
  obtain ⟨x0, x1, x2, x3, x4, x5, x6, x7, x8, x9, x10, x11, x12⟩ := ent_cells hA3.blk
  have HF := Lib.hid hA3.fr
  clear hA3
  go_wp2_with fail
  go_ret
  exact ⟨_, rfl, HF.out⟩

set_option maxHeartbeats 3200000 in
set_option maxRecDepth 100000 in
theorem rencode_8 (e : EntD) (he : e.kind = 8) (hk : e.ok) (vo ve vp : Value) (w : World) (G : Nat → Prop) (hE : EntS w G e vo ve vp) :
    Calls Try.prog 18 #[entV e vo ve vp] w fun en w' => ∃ v', en = .returned v' ∧ Fresh w w' v' (8 :: bodyB e) := by
  obtain ⟨Ao, co, ho, -, -⟩ := hE.ops.form
  obtain ⟨Ae, ce, hev, -, -⟩ := hE.evs.form
  obtain ⟨Ap, cp, hp, -, -⟩ := hE.opn.form
  rw [List.length_map] at ho hev hp
  subst ho; subst hev; subst hp
  obtain ⟨L1, H1⟩ : ∃ L : List UInt8, Hid ([8] ++ numB e.tx.toNat = L) := ⟨_, Lib.hid rfl⟩
  have hl1 : L1.length ≤ 11 := by rw [← H1.out, List.length_append]; have a1 := numW_len e.tx hk.tx; simp only [List.length_cons, List.length_nil]; omega
  obtain ⟨L2, H2⟩ : ∃ L : List UInt8, Hid (L1 ++ numB e.next.toNat = L) := ⟨_, Lib.hid rfl⟩
  have hl2 : L2.length ≤ 21 := by rw [← H2.out, List.length_append]; have a1 := numW_len e.next hk.next; omega
  obtain ⟨L3, H3⟩ : ∃ L : List UInt8, Hid (L2 ++ numB e.nextID.toNat = L) := ⟨_, Lib.hid rfl⟩
  have hl3 : L3.length ≤ 31 := by rw [← H3.out, List.length_append]; have a1 := numW_len e.nextID hk.nextID; omega
  obtain ⟨L4, H4⟩ : ∃ L : List UInt8, Hid (L3 ++ plsB e.evs = L) := ⟨_, Lib.hid rfl⟩
  have hl4 : L4.length ≤ 260031 := by rw [← H4.out, List.length_append]; have a1 := plsB_len e.evs hk.evs hk.fewE; omega
  obtain ⟨K5, J5⟩ : ∃ L : List UInt8, Hid (intB e.at_ = L) := ⟨_, Lib.hid rfl⟩
  have hK5 : K5.length ≤ 10 := by rw [← J5.out]; exact intB_len e.at_ hk.at_
  obtain ⟨L5, H5⟩ : ∃ L : List UInt8, Hid (L4 ++ K5 = L) := ⟨_, Lib.hid rfl⟩
  have hl5 : L5.length ≤ 260041 := by rw [← H5.out, List.length_append]; omega
  have HB : Hid (8 :: bodyB e = L5) := by
    show _ = _
    unfold bodyB
    rw [he]
    have x1 := H1.out; have x2 := H2.out; have x3 := H3.out; have x4 := H4.out; have x5 := H5.out; have y5 := J5.out
    subst y5; subst x1; subst x2; subst x3; subst x4; subst x5
    simp [idsB]
  rw [HB.out]
  clear HB
  unfold entV
  unfold entCells
  rw [he]
  have HA0 := Lib.hid (GrAt.start w 8 8 rfl #[.int .u8 8, .int .i64 e.tx, .int .i64 e.next, .int .i64 e.nextID, .slice Ao e.ops.length co, .slice Ae e.evs.length ce, .int .i64 e.tickN, .int .i64 e.max, .slice Ap e.opn.length cp, .int .i64 e.tickAt, .string e.name, .int .i64 e.n, .int .i64 e.at_] 35)
  obtain ⟨x0, -⟩ := ent_cells (heap_alloc_new w (.cells #[.int .u8 8, .int .i64 e.tx, .int .i64 e.next, .int .i64 e.nextID, .slice Ao e.ops.length co, .slice Ae e.evs.length ce, .int .i64 e.tickN, .int .i64 e.max, .slice Ap e.opn.length cp, .int .i64 e.tickAt, .string e.name, .int .i64 e.n, .int .i64 e.at_] 35))
  go_enter Try.func18, Try.ntmps18
  go_upto_region 2 with fail
  have hA := HA0.out
  clear HA0 x0
  generalize (w.alloc (.cells #[.int .u8 8, .int .i64 e.tx, .int .i64 e.next, .int .i64 e.nextID, .slice Ao e.ops.length co, .slice Ae e.evs.length ce, .int .i64 e.tickN, .int .i64 e.max, .slice Ap e.opn.length cp, .int .i64 e.tickAt, .string e.name, .int .i64 e.n, .int .i64 e.at_] 35)).alloc (.cells #[.int .u8 8] 5) = W0 at *
  obtain ⟨B, hB⟩ : ∃ B, w.heap.size = B := ⟨_, rfl⟩
  rw [hB] at hA ⊢
  clear hB
  obtain ⟨x0, x1, x2, x3, x4, x5, x6, x7, x8, x9, x10, x11, x12⟩ := ent_cells hA.blk
  go_upto_region 5 with fail
  go_region_held3 (fun w' => w'.cell? ⟨B, 1, none⟩ = some (.int .i64 e.tx) ∧ w'.cell? ⟨B, 2, none⟩ = some (.int .i64 e.next) ∧ w'.cell? ⟨B, 3, none⟩ = some (.int .i64 e.nextID)) (go_keep) (first | (go_at_call 42; ((with_reducible refine (hA2.num1 hk.nextID (by omega) H3).mono ?_); rintro _ w3 ⟨A3, c3, rfl, hA3⟩; obtain ⟨z3_0, z3_1, z3_2, z3_3, z3_4, z3_5, z3_6, z3_7, z3_8, z3_9, z3_10, z3_11, z3_12⟩ := ent_cells hA3.blk)) | (go_at_call 42; ((with_reducible refine (hA1.num1 hk.next (by omega) H2).mono ?_); rintro _ w2 ⟨A2, c2, rfl, hA2⟩; obtain ⟨z2_0, z2_1, z2_2, z2_3, z2_4, z2_5, z2_6, z2_7, z2_8, z2_9, z2_10, z2_11, z2_12⟩ := ent_cells hA2.blk)) | (go_at_call 42; ((with_reducible refine (hA.drew.num1z hk.tx (by simp) H1).mono ?_); rintro _ w1 ⟨A1, c1, rfl, hA1⟩; obtain ⟨z1_0, z1_1, z1_2, z1_3, z1_4, z1_5, z1_6, z1_7, z1_8, z1_9, z1_10, z1_11, z1_12⟩ := ent_cells hA1.blk)))
  clear hA hA1 hA2 z1_0 z1_1 z1_2 z1_3 z1_4 z1_5 z1_6 z1_7 z1_8 z1_9 z1_10 z1_11 z1_12 z2_0 z2_1 z2_2 z2_3 z2_4 z2_5 z2_6 z2_7 z2_8 z2_9 z2_10 z2_11 z2_12 z3_0 z3_1 z3_2 z3_3 z3_4 z3_5 z3_6 z3_7 z3_8 z3_9 z3_10 z3_11 z3_12 x0 x1 x2 x3 x4 x5 x6 x7 x8 x9 x10 x11 x12
  obtain ⟨x0, x1, x2, x3, x4, x5, x6, x7, x8, x9, x10, x11, x12⟩ := ent_cells hA3.blk
  go_wp2_with fail
  refine (hA3.evsW hE hk.evs hk.fewE (by omega) H4).mono ?_
  rintro _ w4 ⟨A4, c4, rfl, hA4⟩
  clear hA3 x0 x1 x2 x3 x4 x5 x6 x7 x8 x9 x10 x11 x12
  obtain ⟨x0, x1, x2, x3, x4, x5, x6, x7, x8, x9, x10, x11, x12⟩ := ent_cells hA4.blk
  go_wp2_with fail
  refine (hA4.intW hk.at_ J5).mono ?_
  rintro _ v5 ⟨B5, d5, rfl, hB5, hK5b⟩
  obtain ⟨y5_0, y5_1, y5_2, y5_3, y5_4, y5_5, y5_6, y5_7, y5_8, y5_9, y5_10, y5_11, y5_12⟩ := ent_cells hB5.blk
  clear hA4 x0 x1 x2 x3 x4 x5 x6 x7 x8 x9 x10 x11 x12
  go_wp2_with fail
  refine (hB5.join hK5b (by omega) (by omega) H5).mono ?_
  rintro _ w5 ⟨A5, c5, rfl, hA5⟩
  clear hB5 hK5b
  obtain ⟨x0, x1, x2, x3, x4, x5, x6, x7, x8, x9, x10, x11, x12⟩ := ent_cells hA5.blk
  have HF := Lib.hid hA5.fr
  clear hA5
  go_wp2_with fail
  go_ret
  exact ⟨_, rfl, HF.out⟩

set_option maxHeartbeats 3200000 in
set_option maxRecDepth 100000 in
theorem rencode_9 (e : EntD) (he : e.kind = 9) (hk : e.ok) (vo ve vp : Value) (w : World) (G : Nat → Prop) (hE : EntS w G e vo ve vp) :
    Calls Try.prog 18 #[entV e vo ve vp] w fun en w' => ∃ v', en = .returned v' ∧ Fresh w w' v' (9 :: bodyB e) := by
  obtain ⟨Ao, co, ho, -, -⟩ := hE.ops.form
  obtain ⟨Ae, ce, hev, -, -⟩ := hE.evs.form
  obtain ⟨Ap, cp, hp, -, -⟩ := hE.opn.form
  rw [List.length_map] at ho hev hp
  subst ho; subst hev; subst hp
  obtain ⟨L1, H1⟩ : ∃ L : List UInt8, Hid ([9] ++ numB e.n.toNat = L) := ⟨_, Lib.hid rfl⟩
  have hl1 : L1.length ≤ 11 := by rw [← H1.out, List.length_append]; have a1 := numW_len e.n hk.n; simp only [List.length_cons, List.length_nil]; omega
  have HB : Hid (9 :: bodyB e = L1) := by
    show _ = _
    unfold bodyB
    rw [he]
    have x1 := H1.out
    subst x1
    simp [idsB]
  rw [HB.out]
  clear HB
  unfold entV
  unfold entCells
  rw [he]
  have HA0 := Lib.hid (GrAt.start w 9 9 rfl #[.int .u8 9, .int .i64 e.tx, .int .i64 e.next, .int .i64 e.nextID, .slice Ao e.ops.length co, .slice Ae e.evs.length ce, .int .i64 e.tickN, .int .i64 e.max, .slice Ap e.opn.length cp, .int .i64 e.tickAt, .string e.name, .int .i64 e.n, .int .i64 e.at_] 35)
  obtain ⟨x0, -⟩ := ent_cells (heap_alloc_new w (.cells #[.int .u8 9, .int .i64 e.tx, .int .i64 e.next, .int .i64 e.nextID, .slice Ao e.ops.length co, .slice Ae e.evs.length ce, .int .i64 e.tickN, .int .i64 e.max, .slice Ap e.opn.length cp, .int .i64 e.tickAt, .string e.name, .int .i64 e.n, .int .i64 e.at_] 35))
  go_enter Try.func18, Try.ntmps18
  go_upto_region 2 with fail
  have hA := HA0.out
  clear HA0 x0
  generalize (w.alloc (.cells #[.int .u8 9, .int .i64 e.tx, .int .i64 e.next, .int .i64 e.nextID, .slice Ao e.ops.length co, .slice Ae e.evs.length ce, .int .i64 e.tickN, .int .i64 e.max, .slice Ap e.opn.length cp, .int .i64 e.tickAt, .string e.name, .int .i64 e.n, .int .i64 e.at_] 35)).alloc (.cells #[.int .u8 9] 5) = W0 at *
  obtain ⟨B, hB⟩ : ∃ B, w.heap.size = B := ⟨_, rfl⟩
  rw [hB] at hA ⊢
  clear hB
  obtain ⟨x0, x1, x2, x3, x4, x5, x6, x7, x8, x9, x10, x11, x12⟩ := ent_cells hA.blk
  go_wp2_with fail
  refine (hA.num1 hk.n (by simp) H1).mono ?_
  rintro _ w1 ⟨A1, c1, rfl, hA1⟩
  clear hA x0 x1 x2 x3 x4 x5 x6 x7 x8 x9 x10 x11 x12
  obtain ⟨x0, x1, x2, x3, x4, x5, x6, x7, x8, x9, x10, x11, x12⟩ := ent_cells hA1.blk
  have HF := Lib.hid hA1.fr
  clear hA1
  go_wp2_with fail
  go_ret
  exact ⟨_, rfl, HF.out⟩

set_option maxHeartbeats 3200000 in
set_option maxRecDepth 100000 in
theorem rencode_10 (e : EntD) (he : e.kind = 10) (hk : e.ok) (vo ve vp : Value) (w : World) (G : Nat → Prop) (hE : EntS w G e vo ve vp) :
    Calls Try.prog 18 #[entV e vo ve vp] w fun en w' => ∃ v', en = .returned v' ∧ Fresh w w' v' (10 :: bodyB e) := by
  obtain ⟨Ao, co, ho, -, -⟩ := hE.ops.form
  obtain ⟨Ae, ce, hev, -, -⟩ := hE.evs.form
  obtain ⟨Ap, cp, hp, -, -⟩ := hE.opn.form
  rw [List.length_map] at ho hev hp
  subst ho; subst hev; subst hp
  obtain ⟨L1, H1⟩ : ∃ L : List UInt8, Hid ([10] ++ numB e.n.toNat = L) := ⟨_, Lib.hid rfl⟩
  have hl1 : L1.length ≤ 11 := by rw [← H1.out, List.length_append]; have a1 := numW_len e.n hk.n; simp only [List.length_cons, List.length_nil]; omega
  have HB : Hid (10 :: bodyB e = L1) := by
    show _ = _
    unfold bodyB
    rw [he]
    have x1 := H1.out
    subst x1
    simp [idsB]
  rw [HB.out]
  clear HB
  unfold entV
  unfold entCells
  rw [he]
  have HA0 := Lib.hid (GrAt.start w 10 10 rfl #[.int .u8 10, .int .i64 e.tx, .int .i64 e.next, .int .i64 e.nextID, .slice Ao e.ops.length co, .slice Ae e.evs.length ce, .int .i64 e.tickN, .int .i64 e.max, .slice Ap e.opn.length cp, .int .i64 e.tickAt, .string e.name, .int .i64 e.n, .int .i64 e.at_] 35)
  obtain ⟨x0, -⟩ := ent_cells (heap_alloc_new w (.cells #[.int .u8 10, .int .i64 e.tx, .int .i64 e.next, .int .i64 e.nextID, .slice Ao e.ops.length co, .slice Ae e.evs.length ce, .int .i64 e.tickN, .int .i64 e.max, .slice Ap e.opn.length cp, .int .i64 e.tickAt, .string e.name, .int .i64 e.n, .int .i64 e.at_] 35))
  go_enter Try.func18, Try.ntmps18
  go_upto_region 2 with fail
  have hA := HA0.out
  clear HA0 x0
  generalize (w.alloc (.cells #[.int .u8 10, .int .i64 e.tx, .int .i64 e.next, .int .i64 e.nextID, .slice Ao e.ops.length co, .slice Ae e.evs.length ce, .int .i64 e.tickN, .int .i64 e.max, .slice Ap e.opn.length cp, .int .i64 e.tickAt, .string e.name, .int .i64 e.n, .int .i64 e.at_] 35)).alloc (.cells #[.int .u8 10] 5) = W0 at *
  obtain ⟨B, hB⟩ : ∃ B, w.heap.size = B := ⟨_, rfl⟩
  rw [hB] at hA ⊢
  clear hB
  obtain ⟨x0, x1, x2, x3, x4, x5, x6, x7, x8, x9, x10, x11, x12⟩ := ent_cells hA.blk
  go_wp2_with fail
  refine (hA.num1 hk.n (by simp) H1).mono ?_
  rintro _ w1 ⟨A1, c1, rfl, hA1⟩
  clear hA x0 x1 x2 x3 x4 x5 x6 x7 x8 x9 x10 x11 x12
  obtain ⟨x0, x1, x2, x3, x4, x5, x6, x7, x8, x9, x10, x11, x12⟩ := ent_cells hA1.blk
  have HF := Lib.hid hA1.fr
  clear hA1
  go_wp2_with fail
  go_ret
  exact ⟨_, rfl, HF.out⟩

set_option maxHeartbeats 3200000 in
set_option maxRecDepth 100000 in
theorem rencode_11 (e : EntD) (he : e.kind = 11) (hk : e.ok) (vo ve vp : Value) (w : World) (G : Nat → Prop) (hE : EntS w G e vo ve vp) :
    Calls Try.prog 18 #[entV e vo ve vp] w fun en w' => ∃ v', en = .returned v' ∧ Fresh w w' v' (11 :: bodyB e) := by
  obtain ⟨Ao, co, ho, -, -⟩ := hE.ops.form
  obtain ⟨Ae, ce, hev, -, -⟩ := hE.evs.form
  obtain ⟨Ap, cp, hp, -, -⟩ := hE.opn.form
  rw [List.length_map] at ho hev hp
  subst ho; subst hev; subst hp
  obtain ⟨L1, H1⟩ : ∃ L : List UInt8, Hid ([11] ++ numB e.n.toNat = L) := ⟨_, Lib.hid rfl⟩
  have hl1 : L1.length ≤ 11 := by rw [← H1.out, List.length_append]; have a1 := numW_len e.n hk.n; simp only [List.length_cons, List.length_nil]; omega
  obtain ⟨L2, H2⟩ : ∃ L : List UInt8, Hid (L1 ++ opsB e.ops = L) := ⟨_, Lib.hid rfl⟩
  have hl2 : L2.length ≤ 1060011 := by rw [← H2.out, List.length_append]; have a1 := opsB_len e.ops hk.ops hk.fewO; omega
  have HB : Hid (11 :: bodyB e = L2) := by
    show _ = _
    unfold bodyB
    rw [he]
    have x1 := H1.out; have x2 := H2.out
    subst x1; subst x2
    simp [idsB]
  rw [HB.out]
  clear HB
  unfold entV
  unfold entCells
  rw [he]
  have HA0 := Lib.hid (GrAt.start w 11 11 rfl #[.int .u8 11, .int .i64 e.tx, .int .i64 e.next, .int .i64 e.nextID, .slice Ao e.ops.length co, .slice Ae e.evs.length ce, .int .i64 e.tickN, .int .i64 e.max, .slice Ap e.opn.length cp, .int .i64 e.tickAt, .string e.name, .int .i64 e.n, .int .i64 e.at_] 35)
  obtain ⟨x0, -⟩ := ent_cells (heap_alloc_new w (.cells #[.int .u8 11, .int .i64 e.tx, .int .i64 e.next, .int .i64 e.nextID, .slice Ao e.ops.length co, .slice Ae e.evs.length ce, .int .i64 e.tickN, .int .i64 e.max, .slice Ap e.opn.length cp, .int .i64 e.tickAt, .string e.name, .int .i64 e.n, .int .i64 e.at_] 35))
  go_enter Try.func18, Try.ntmps18
  go_upto_region 2 with fail
  have hA := HA0.out
  clear HA0 x0
  generalize (w.alloc (.cells #[.int .u8 11, .int .i64 e.tx, .int .i64 e.next, .int .i64 e.nextID, .slice Ao e.ops.length co, .slice Ae e.evs.length ce, .int .i64 e.tickN, .int .i64 e.max, .slice Ap e.opn.length cp, .int .i64 e.tickAt, .string e.name, .int .i64 e.n, .int .i64 e.at_] 35)).alloc (.cells #[.int .u8 11] 5) = W0 at *
  obtain ⟨B, hB⟩ : ∃ B, w.heap.size = B := ⟨_, rfl⟩
  rw [hB] at hA ⊢
  clear hB
  obtain ⟨x0, x1, x2, x3, x4, x5, x6, x7, x8, x9, x10, x11, x12⟩ := ent_cells hA.blk
  go_wp2_with fail
  refine (hA.num1 hk.n (by simp) H1).mono ?_
  rintro _ w1 ⟨A1, c1, rfl, hA1⟩
  clear hA x0 x1 x2 x3 x4 x5 x6 x7 x8 x9 x10 x11 x12
  obtain ⟨x0, x1, x2, x3, x4, x5, x6, x7, x8, x9, x10, x11, x12⟩ := ent_cells hA1.blk
  go_wp2_with fail
  refine (hA1.opsW hE hk.ops hk.fewO (by omega) H2).mono ?_
  rintro _ w2 ⟨A2, c2, rfl, hA2⟩
  clear hA1 x0 x1 x2 x3 x4 x5 x6 x7 x8 x9 x10 x11 x12
  obtain ⟨x0, x1, x2, x3, x4, x5, x6, x7, x8, x9, x10, x11, x12⟩ := ent_cells hA2.blk
  have HF := Lib.hid hA2.fr
  clear hA2
  go_wp2_with fail
  go_ret
  exact ⟨_, rfl, HF.out⟩

theorem rencode_any (e : EntD) (hk1 : 1 ≤ e.kind ∧ e.kind ≤ 11) (hk : e.ok) (vo ve vp : Value) (w : World) (G : Nat → Prop) (hE : EntS w G e vo ve vp) :
    Calls Try.prog 18 #[entV e vo ve vp] w fun en w' => ∃ v', en = .returned v' ∧ Fresh w w' v' (entB e) := by
  unfold entB
  obtain h | h | h | h | h | h | h | h | h | h | h : e.kind = 1 ∨ e.kind = 2 ∨ e.kind = 3 ∨ e.kind = 4 ∨ e.kind = 5 ∨ e.kind = 6 ∨ e.kind = 7 ∨ e.kind = 8 ∨ e.kind = 9 ∨ e.kind = 10 ∨ e.kind = 11 := by omega
  · rw [h]; exact rencode_1 e h hk vo ve vp w G hE
  · rw [h]; exact rencode_2 e h hk vo ve vp w G hE
  · rw [h]; exact rencode_3 e h hk vo ve vp w G hE
  · rw [h]; exact rencode_4 e h hk vo ve vp w G hE
  · rw [h]; exact rencode_5 e h hk vo ve vp w G hE
  · rw [h]; exact rencode_6 e h hk vo ve vp w G hE
  · rw [h]; exact rencode_7 e h hk vo ve vp w G hE
  · rw [h]; exact rencode_8 e h hk vo ve vp w G hE
  · rw [h]; exact rencode_9 e h hk vo ve vp w G hE
  · rw [h]; exact rencode_10 e h hk vo ve vp w G hE
  · rw [h]; exact rencode_11 e h hk vo ve vp w G hE
end Go.Proofs.Ytdkankiohoocaaa
