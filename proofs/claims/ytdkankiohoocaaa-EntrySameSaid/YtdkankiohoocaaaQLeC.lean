/- carrierlaw16.turned and back. -/
import Derived.Test.YtdkankiohoocaaaQLeB
namespace Go.Proofs.Ytdkankiohoocaaa
set_option linter.unusedSimpArgs false
set_option linter.unusedVariables false
open Go Go.RowKit Go.Proofs

attribute [local go_sem ↓] app_hide
theorem four_free {w : World} {B : Nat} {a0 a1 a2 a3 : Value} {t : TypeId} (h : w.heap[B]? = some (.cells #[a0, a1, a2, a3] t (0, 0))) :
    w.frozen? ⟨B, 0, none⟩ = false ∧ w.frozen? ⟨B, 1, none⟩ = false ∧ w.frozen? ⟨B, 2, none⟩ = false ∧ w.frozen? ⟨B, 3, none⟩ = false := by
  simp [World.frozen?, h]
theorem four_put {w : World} {O : Nat} {a0 a1 a2 a3 : Value} {T : TypeId} (h : w.heap[O]? = some (.cells #[a0, a1, a2, a3] T (0, 0))) (b1 b2 b3 : Value) :
    (((w.setCell ⟨O, 1, none⟩ b1).setCell ⟨O, 2, none⟩ b2).setCell ⟨O, 3, none⟩ b3).heap[O]? = some (.cells #[a0, b1, b2, b3] T (0, 0)) := by
  simp [World.setCell, Array.getElem?_modify, h]
theorem TG.fin {w0 w : World} {B E R : Nat} {bx x : Array Value} {TB T e1 e2 : TypeId} {v1 v2 : Value} {e : EntD} (h : TG w0 w B E R bx TB x T e1 v1 (e.ops.map opCells) e2 v2 (e.evs.map plCells)) (a0 a1 a2 a3 a4 a5 a6 a7 a8 a9 a10 a11 a12 : Value) :
    TurnPost w0 e1 e2 e v1 v2 (putEnt w R a0 a1 a2 a3 a4 a5 a6 a7 a8 a9 a10 a11 a12) := by
  have hc := putEnt_chg w R a0 a1 a2 a3 a4 a5 a6 a7 a8 a9 a10 a11 a12
  have h1 := ownsRow_keep' h.own1 hc (fun g hg => (h.row1 g hg).2.2.2)
  have h2 := ownsRow_keep' h.own2 hc (fun g hg => (h.row2 g hg).2.2.2)
  rw [List.length_map] at h1 h2
  exact ⟨h1, h2, fun g hg => (h.row1 g hg).1, fun g hg => (h.row2 g hg).1, h.dj, h.same.since hc (fun k hk => by have := h.old; omega)⟩

set_option maxHeartbeats 6400000 in
set_option maxRecDepth 100000 in
theorem turned_any (e : EntD) (vo ve vp : Value) (F : Nat → Prop) (w : World) (h : EntS w F e vo ve vp) (hfo : e.ops.length ≤ 1000) (hfe : e.evs.length ≤ 1000) :
    Calls Try.prog 12 #[entV e vo ve vp] w fun en w' => ∃ vo' ve', en = .returned (entV e vo' ve' vp) ∧ TurnPost w 47 51 e vo' ve' w' := by
  obtain ⟨Ao, co, Ae, ce, Ap, cp, rfl, rfl, rfl⟩ := ent_forms h
  obtain ⟨io, hio, hzo0, hzo1, hzo2⟩ := info_parts info_op
  obtain ⟨ie, hie, hze0, hze1, hze2⟩ := info_parts info_pl
  have hb0 := heap_alloc_new w (.cells #[.int .u8 e.kind, .int .i64 e.tx, .int .i64 e.next, .int .i64 e.nextID, .slice Ao e.ops.length co, .slice Ae e.evs.length ce, .int .i64 e.tickN, .int .i64 e.max, .slice Ap e.opn.length cp, .int .i64 e.tickAt, .string e.name, .int .i64 e.n, .int .i64 e.at_] 35)
  obtain ⟨x0, x1, x2, x3, x4, x5, x6, x7, x8, x9, x10, x11, x12⟩ := ent_cells ((Chg.alloc_ (fun _ => False) (w.alloc (.cells #[.int .u8 e.kind, .int .i64 e.tx, .int .i64 e.next, .int .i64 e.nextID, .slice Ao e.ops.length co, .slice Ae e.evs.length ce, .int .i64 e.tickN, .int .i64 e.max, .slice Ap e.opn.length cp, .int .i64 e.tickAt, .string e.name, .int .i64 e.n, .int .i64 e.at_] 35)) (.cells (ent0 0) 40)).at_ hb0 (fun h => h))
  have HT0 : Hid (TG w (((w.alloc (.cells #[.int .u8 e.kind, .int .i64 e.tx, .int .i64 e.next, .int .i64 e.nextID, .slice Ao e.ops.length co, .slice Ae e.evs.length ce, .int .i64 e.tickN, .int .i64 e.max, .slice Ap e.opn.length cp, .int .i64 e.tickAt, .string e.name, .int .i64 e.n, .int .i64 e.at_] 35)).alloc (.cells (ent0 0) 40)).alloc (.cells #[.int .u8 e.kind, .int .i64 e.tx, .int .i64 e.next, .int .i64 e.nextID, .slice none 0 0, .slice none 0 0, .int .i64 e.tickN, .int .i64 e.max, .slice Ap e.opn.length cp, .int .i64 e.tickAt, .string e.name, .int .i64 e.n, .int .i64 e.at_] 40)) w.heap.size (w.heap.size + 1 + 1) (w.heap.size + 1) #[.int .u8 e.kind, .int .i64 e.tx, .int .i64 e.next, .int .i64 e.nextID, .slice Ao e.ops.length co, .slice Ae e.evs.length ce, .int .i64 e.tickN, .int .i64 e.max, .slice Ap e.opn.length cp, .int .i64 e.tickAt, .string e.name, .int .i64 e.n, .int .i64 e.at_] 35 #[.int .u8 e.kind, .int .i64 e.tx, .int .i64 e.next, .int .i64 e.nextID, .slice none 0 0, .slice none 0 0, .int .i64 e.tickN, .int .i64 e.max, .slice Ap e.opn.length cp, .int .i64 e.tickAt, .string e.name, .int .i64 e.n, .int .i64 e.at_] 40 47 (.slice none 0 0) [] 51 (.slice none 0 0) []) := by
    obtain ⟨b1, b2, b3, b4⟩ := two_new (Chg.refl (fun _ => False) ((w.alloc (.cells #[.int .u8 e.kind, .int .i64 e.tx, .int .i64 e.next, .int .i64 e.nextID, .slice Ao e.ops.length co, .slice Ae e.evs.length ce, .int .i64 e.tickN, .int .i64 e.max, .slice Ap e.opn.length cp, .int .i64 e.tickAt, .string e.name, .int .i64 e.n, .int .i64 e.at_] 35)).alloc (.cells (ent0 0) 40)))
    have hz : ((w.alloc (.cells #[.int .u8 e.kind, .int .i64 e.tx, .int .i64 e.next, .int .i64 e.nextID, .slice Ao e.ops.length co, .slice Ae e.evs.length ce, .int .i64 e.tickN, .int .i64 e.max, .slice Ap e.opn.length cp, .int .i64 e.tickAt, .string e.name, .int .i64 e.n, .int .i64 e.at_] 35)).alloc (.cells (ent0 0) 40)).heap.size = w.heap.size + 1 + 1 := by simp
    have b5 := heap_alloc_new ((w.alloc (.cells #[.int .u8 e.kind, .int .i64 e.tx, .int .i64 e.next, .int .i64 e.nextID, .slice Ao e.ops.length co, .slice Ae e.evs.length ce, .int .i64 e.tickN, .int .i64 e.max, .slice Ap e.opn.length cp, .int .i64 e.tickAt, .string e.name, .int .i64 e.n, .int .i64 e.at_] 35)).alloc (.cells (ent0 0) 40)) (.cells #[.int .u8 e.kind, .int .i64 e.tx, .int .i64 e.next, .int .i64 e.nextID, .slice none 0 0, .slice none 0 0, .int .i64 e.tickN, .int .i64 e.max, .slice Ap e.opn.length cp, .int .i64 e.tickAt, .string e.name, .int .i64 e.n, .int .i64 e.at_] 40)
    rw [hz] at b5
    have hc := Chg.alloc_ (fun _ => False) ((w.alloc (.cells #[.int .u8 e.kind, .int .i64 e.tx, .int .i64 e.next, .int .i64 e.nextID, .slice Ao e.ops.length co, .slice Ae e.evs.length ce, .int .i64 e.tickN, .int .i64 e.max, .slice Ap e.opn.length cp, .int .i64 e.tickAt, .string e.name, .int .i64 e.n, .int .i64 e.at_] 35)).alloc (.cells (ent0 0) 40)) (.cells #[.int .u8 e.kind, .int .i64 e.tx, .int .i64 e.next, .int .i64 e.nextID, .slice none 0 0, .slice none 0 0, .int .i64 e.tickN, .int .i64 e.max, .slice Ap e.opn.length cp, .int .i64 e.tickAt, .string e.name, .int .i64 e.n, .int .i64 e.at_] 40)
    exact ⟨hc.at_ b1 (fun h => h), b5, hc.at_ b2 (fun h => h), World.ownsRow_nil _ _ _ _, World.ownsRow_nil _ _ _ _, fun g hg => by simp [Value.ownBlock] at hg, fun g hg => by simp [Value.ownBlock] at hg, fun g hg => by simp [Value.ownBlock] at hg, b4.trans hc, by omega⟩
  unfold entV
  unfold entCells
  go_enter Try.func12, Try.ntmps12
  go_upto_region 2 with fail
  have hT0 := HT0.out
  clear HT0 hb0 x0 x1 x2 x3 x4 x5 x6 x7 x8 x9 x10 x11 x12
  generalize ((w.alloc (.cells #[.int .u8 e.kind, .int .i64 e.tx, .int .i64 e.next, .int .i64 e.nextID, .slice Ao e.ops.length co, .slice Ae e.evs.length ce, .int .i64 e.tickN, .int .i64 e.max, .slice Ap e.opn.length cp, .int .i64 e.tickAt, .string e.name, .int .i64 e.n, .int .i64 e.at_] 35)).alloc (.cells (ent0 0) 40)).alloc (.cells #[.int .u8 e.kind, .int .i64 e.tx, .int .i64 e.next, .int .i64 e.nextID, .slice none 0 0, .slice none 0 0, .int .i64 e.tickN, .int .i64 e.max, .slice Ap e.opn.length cp, .int .i64 e.tickAt, .string e.name, .int .i64 e.n, .int .i64 e.at_] 40) = W0 at *
  obtain ⟨B, hB⟩ : ∃ n, w.heap.size = n := ⟨_, rfl⟩
  obtain ⟨R, hR⟩ : ∃ n, w.heap.size + 1 = n := ⟨_, rfl⟩
  obtain ⟨E, hE⟩ : ∃ n, w.heap.size + 1 + 1 = n := ⟨_, rfl⟩
  rw [hE, hR, hB] at hT0
  rw [hE, hR, hB]
  clear hB hR hE
  have HT0 := Lib.hid hT0
  clear hT0
  go_wp2_with fail
  go_loopw [4] (fun i wr => ∃ (k : Nat) (v1 : Value), i = .int .i64 k ∧ k ≤ e.ops.length ∧ TG w wr B E R #[.int .u8 e.kind, .int .i64 e.tx, .int .i64 e.next, .int .i64 e.nextID, .slice Ao e.ops.length co, .slice Ae e.evs.length ce, .int .i64 e.tickN, .int .i64 e.max, .slice Ap e.opn.length cp, .int .i64 e.tickAt, .string e.name, .int .i64 e.n, .int .i64 e.at_] 35 #[.int .u8 e.kind, .int .i64 e.tx, .int .i64 e.next, .int .i64 e.nextID, v1, .slice none 0 0, .int .i64 e.tickN, .int .i64 e.max, .slice Ap e.opn.length cp, .int .i64 e.tickAt, .string e.name, .int .i64 e.n, .int .i64 e.at_] 40 47 v1 ((e.ops.take k).map opCells) 51 (.slice none 0 0) []) (fun i _ => e.ops.length - (intOf i).toNat)
  case atStart => exact ⟨0, _, rfl, Nat.zero_le _, HT0.out⟩
  case round =>
    clear HT0
    obtain ⟨k, v1, rfl, hk, hT⟩ := hrel
    obtain ⟨x0, x1, x2, x3, x4, x5, x6, x7, x8, x9, x10, x11, x12⟩ := ent_cells hT.box
    by_cases hkl : k < e.ops.length
    · obtain ⟨bb, oo, xx, hA, -, hxx, hcc⟩ := (h.ops.same hT.same).at_ (i := k) (by rw [List.length_map]; exact hkl)
      subst hA
      have hg : e.ops[k]? = some e.ops[k] := List.getElem?_eq_getElem hkl
      generalize e.ops[k] = od at hg
      have hxn : xx = opCells od := by rw [List.getElem?_map, hg] at hxx; simpa using hxx.symm
      subst hxn
      obtain ⟨tb, gn, ky, tt⟩ := od
      have a0 := hcc 0 (.int .i64 tb) rfl
      have a1 := hcc 1 (.bool gn) rfl
      have a2 := hcc 2 (.int .i64 ky) rfl
      have a3 := hcc 3 (.string tt) rfl
      rw [Nat.add_zero] at a0
      have hbl := cell_lt a0
      have hkl' : (k : Int) < (e.ops.length : Int) := by omega
      have HM := Lib.hid (map_take_more (f := opCells) hg)
      have hml : ((e.ops.take k).map opCells).length = k := by simp; omega
      obtain ⟨Av, nv, cv, hv1⟩ : ∃ A n c, v1 = .slice A n c := by
        rcases hT.own1.2 with ⟨hv, -⟩ | ⟨g, cap, cur, hv, -⟩
        · exact ⟨_, _, _, hv⟩
        · exact ⟨_, _, _, hv⟩
      subst hv1
      have hsz := hT.size
      have hbne : bb ≠ wr.heap.size := by have : bb < wr.heap.size := hbl; omega
      clear hcc hxx hg
      go_upto_region 6 with fail
      have HT7 := Lib.hid (hT.keep (Chg.alloc_ (fun _ => False) wr (.cells #[.int .i64 tb, .bool gn, .int .i64 ky, .string tt] 47)).drew)
      have HO7 := Lib.hid (heap_alloc_new wr (.cells #[.int .i64 tb, .bool gn, .int .i64 ky, .string tt] 47))
      have hBs := hsz.1
      have hbs : bb < wr.heap.size := hbl
      clear hT hsz hbl
      go_region
      go_upto_region 7 with fail
      have hT7 := HT7.out
      have hO8 : (wr.alloc (.cells #[.int .i64 tb, .bool gn, .int .i64 ky, .string tt] 47)).drew.heap[wr.heap.size]? = some (.cells #[.int .i64 tb, .bool gn, .int .i64 ky, .string tt] 47 (0, 0)) := HO7.out
      clear HT7 HO7 x0 x1 x2 x3 x4 x5 x6 x7 x8 x9 x10 x11 x12 a0 a1 a2 a3 hBs hbs
      generalize (wr.alloc (.cells #[.int .i64 tb, .bool gn, .int .i64 ky, .string tt] 47)).drew = W7 at *
      generalize wr.heap.size = O at *
      obtain ⟨o0, o1, o2, o3⟩ := four_cells' hO8
      obtain ⟨y0, y1⟩ := hT7.cell 4 _ rfl
      have hown := hT7.own1
      have hlE := (hT7.size).2.1
      have hrowE : ¬ (Value.slice Av nv cv).ownBlock = some E := fun e => (hT7.row1 E e).2.2.1 rfl
      go_wp2_with (at_builtin; refine wl_app _ rfl _ _ 37 rfl 47 io _ 4 40 Try.underlying37 hio hzo0 hzo1 hzo2 rfl (by omega) (.slice Av nv cv) _ _ (by rfl) (hown.alloc _) _ 1 1 [.int .i64 tb, .bool gn, .int .i64 ky, .string tt] (by rfl) (by rfl) (four_new_cells _ _ _ _ _ _) (by simp [Value.oneCell']) (by omega) (by unfold maxLen; omega) ?_; intro A8 cp8 w8 ho8 hg8 hat8; have q8 := Chg.of_grown (S := fun k => (Value.slice Av nv cv).ownBlock = some k) hg8 (fun k h => h); have qa := Chg.alloc_ (fun _ => False) W7 (.cells #[.int .i64 tb, .bool gn, .int .i64 ky, .string tt] 47); have k8 := q8.cell' (qa.cell' y0 (fun h => h)) hrowE; have f8 : w8.frozen? ⟨E, 4, none⟩ = false := (q8.frozen (p := ⟨E, 4, none⟩) (Nat.lt_of_lt_of_le hlE qa.size) hrowE).trans ((qa.frozen (p := ⟨E, 4, none⟩) hlE (fun h => h)).trans y1); have HM8 := Lib.hid (hT7.more1 4 _ _ ho8 hg8 hat8); clear ho8 hg8 hat8 q8 qa)
      go_roundw
      case rel =>
        have hz := HM8.out
        rw [hml] at hz
        refine ⟨k + 1, .slice A8 (k + 1) cp8, by go_num, by omega, ?_⟩
        rw [HM.out]
        exact hz
      case measure => simp [intOf]; omega
    · have hke : k = e.ops.length := by omega
      subst hke
      rw [List.take_length] at hT
      have HT1 := Lib.hid hT
      clear hT
      go_wp2_with fail
      go_loopw [6] (fun i wr => ∃ (k : Nat) (v2 : Value), i = .int .i64 k ∧ k ≤ e.evs.length ∧ TG w wr B E R #[.int .u8 e.kind, .int .i64 e.tx, .int .i64 e.next, .int .i64 e.nextID, .slice Ao e.ops.length co, .slice Ae e.evs.length ce, .int .i64 e.tickN, .int .i64 e.max, .slice Ap e.opn.length cp, .int .i64 e.tickAt, .string e.name, .int .i64 e.n, .int .i64 e.at_] 35 #[.int .u8 e.kind, .int .i64 e.tx, .int .i64 e.next, .int .i64 e.nextID, v1, v2, .int .i64 e.tickN, .int .i64 e.max, .slice Ap e.opn.length cp, .int .i64 e.tickAt, .string e.name, .int .i64 e.n, .int .i64 e.at_] 40 47 v1 (e.ops.map opCells) 51 v2 ((e.evs.take k).map plCells)) (fun i _ => e.evs.length - (intOf i).toNat)
      case atStart => exact ⟨0, _, rfl, Nat.zero_le _, HT1.out⟩
      case round =>
        clear HT1
        obtain ⟨k, v2, rfl, hk, hT⟩ := hrel
        obtain ⟨x0, x1, x2, x3, x4, x5, x6, x7, x8, x9, x10, x11, x12⟩ := ent_cells hT.box
        by_cases hkl : k < e.evs.length
        · obtain ⟨bb, oo, xx, hA, -, hxx, hcc⟩ := (h.evs.same hT.same).at_ (i := k) (by rw [List.length_map]; exact hkl)
          subst hA
          have hg : e.evs[k]? = some e.evs[k] := List.getElem?_eq_getElem hkl
          generalize e.evs[k] = od at hg
          have hxn : xx = plCells od := by rw [List.getElem?_map, hg] at hxx; simpa using hxx.symm
          subst hxn
          have a0 := hcc 0 (.int .i64 od.spool) rfl
          have a1 := hcc 1 (.int .i64 od.id) rfl
          have a2 := hcc 2 (.int .i64 od.tx) rfl
          have a3 := hcc 3 (.string od.owner) rfl
          have a4 := hcc 4 (.int .i64 od.tries) rfl
          have a5 := hcc 5 (.int .i64 od.table) rfl
          have a6 := hcc 6 (.int .u8 od.kind) rfl
          have a7 := hcc 7 (.int .i64 od.key) rfl
          have a8 := hcc 8 (.string od.text) rfl
          rw [Nat.add_zero] at a0
          have hkl' : (k : Int) < (e.evs.length : Int) := by omega
          have HM := Lib.hid (map_take_more (f := plCells) hg)
          have hml : ((e.evs.take k).map plCells).length = k := by simp; omega
          obtain ⟨Av, nv, cv, hv2⟩ : ∃ A n c, v2 = .slice A n c := by
            rcases hT.own2.2 with ⟨hv, -⟩ | ⟨g, cap, cur, hv, -⟩
            · exact ⟨_, _, _, hv⟩
            · exact ⟨_, _, _, hv⟩
          subst hv2
          clear hcc hxx hg
          go_upto_region 11 with fail
          obtain ⟨y0, y1⟩ := hT.cell 5 _ rfl
          have hown := hT.own2
          have hlE := (hT.size).2.1
          have hrowE : ¬ (Value.slice Av nv cv).ownBlock = some E := fun e => (hT.row2 E e).2.2.1 rfl
          obtain ⟨A8, cp8, w8, hr8, ho8, hg8, hat8⟩ := app_facts (P := Try.prog) wr 38 51 ie _ 9 88 Try.underlying38 hie hze0 hze1 hze2 rfl (by omega) (.slice Av nv cv) _ _ hown #[.int .i64 od.spool, .int .i64 od.id, .int .i64 od.tx, .string od.owner, .int .i64 od.tries, .int .i64 od.table, .int .u8 od.kind, .int .i64 od.key, .string od.text] rfl (by simp [Value.oneCell']) (by omega) (by unfold maxLen; omega)
          have q8 := Chg.of_grown (S := fun k => (Value.slice Av nv cv).ownBlock = some k) hg8 (fun k h => h)
          have qa := Chg.alloc_ (fun _ => False) wr.drew (.cells #[.int .i64 od.spool, .int .i64 od.id, .int .i64 od.tx, .string od.owner, .int .i64 od.tries, .int .i64 od.table, .int .u8 od.kind, .int .i64 od.key, .string od.text] 51)
          have k8 := q8.cell' (qa.cell' y0 (fun h => h)) hrowE
          have f8 : w8.frozen? ⟨E, 5, none⟩ = false := (q8.frozen (p := ⟨E, 5, none⟩) (Nat.lt_of_lt_of_le hlE qa.size) hrowE).trans ((qa.frozen (p := ⟨E, 5, none⟩) hlE (fun h => h)).trans y1)
          have HM8 := Lib.hid ((hT.keep (Chg.refl _ wr).drew).more2 5 _ _ ho8 hg8 hat8)
          rw [hml] at hr8
          have hBs := (hT.size).1
          have hbs : bb < wr.heap.size := cell_lt a1
          clear ho8 hg8 hat8 q8 qa hT
          go_region
          go_wp2_with fail
          go_roundw
          case rel =>
            have hz := HM8.out
            rw [hml] at hz
            refine ⟨k + 1, .slice A8 (k + 1) cp8, by go_num, by omega, ?_⟩
            rw [HM.out]
            exact hz
          case measure => simp [intOf]; omega
        · have hke : k = e.evs.length := by omega
          subst hke
          rw [List.take_length] at hT
          obtain ⟨Av1, nv1, cv1, hv1⟩ : ∃ A n c, v1 = .slice A n c := by
            rcases hT.own1.2 with ⟨hv, -⟩ | ⟨g, cap, cur, hv, -⟩
            · exact ⟨_, _, _, hv⟩
            · exact ⟨_, _, _, hv⟩
          obtain ⟨Av2, nv2, cv2, hv2⟩ : ∃ A n c, v2 = .slice A n c := by
            rcases hT.own2.2 with ⟨hv, -⟩ | ⟨g, cap, cur, hv, -⟩
            · exact ⟨_, _, _, hv⟩
            · exact ⟨_, _, _, hv⟩
          subst hv1; subst hv2
          obtain ⟨p0, p1, p2, p3, p4, p5, p6, p7, p8, p9, p10, p11, p12⟩ := ent_cells hT.el
          obtain ⟨r0, r1, r2, r3, r4, r5, r6, r7, r8, r9, r10, r11, r12⟩ := ent_cells hT.res
          obtain ⟨f0, f1, f2, f3, f4, f5, f6, f7, f8, f9, f10, f11, f12⟩ := ent_free hT.res
          have hER : R ≠ E := by have := hT.old; omega
          have HF := Lib.hid (hT.fin (.int .u8 e.kind) (.int .i64 e.tx) (.int .i64 e.next) (.int .i64 e.nextID) (.slice Av1 nv1 cv1) (.slice Av2 nv2 cv2) (.int .i64 e.tickN) (.int .i64 e.max) (.slice Ap e.opn.length cp) (.int .i64 e.tickAt) (.string e.name) (.int .i64 e.n) (.int .i64 e.at_))
          clear hT
          go_wp2_with fail
          refine bodyPost_ret (v := entV e (.slice Av1 nv1 cv1) (.slice Av2 nv2 cv2) (.slice Ap e.opn.length cp)) (by simp [results, Try.results12, go_sem, entV, entCells, r0, r1, r2, r3, r4, r5, r6, r7, r8, r9, r10, r11, r12]) rfl ?_
          exact ⟨_, _, rfl, HF.out⟩

set_option maxHeartbeats 6400000 in
set_option maxRecDepth 100000 in
theorem back_any (e : EntD) (vo ve vp : Value) (F : Nat → Prop) (w : World) (h : EntS w F e vo ve vp) (hfo : e.ops.length ≤ 1000) (hfe : e.evs.length ≤ 1000) :
    Calls Try.prog 19 #[entV e vo ve vp] w fun en w' => ∃ vo' ve', en = .returned (entV e vo' ve' vp) ∧ TurnPost w 72 76 e vo' ve' w' := by
  obtain ⟨Ao, co, Ae, ce, Ap, cp, rfl, rfl, rfl⟩ := ent_forms h
  obtain ⟨io, hio, hzo0, hzo1, hzo2⟩ := info_parts info_rop
  obtain ⟨ie, hie, hze0, hze1, hze2⟩ := info_parts info_rpl
  have hb0 := heap_alloc_new w (.cells #[.int .u8 e.kind, .int .i64 e.tx, .int .i64 e.next, .int .i64 e.nextID, .slice Ao e.ops.length co, .slice Ae e.evs.length ce, .int .i64 e.tickN, .int .i64 e.max, .slice Ap e.opn.length cp, .int .i64 e.tickAt, .string e.name, .int .i64 e.n, .int .i64 e.at_] 40)
  obtain ⟨x0, x1, x2, x3, x4, x5, x6, x7, x8, x9, x10, x11, x12⟩ := ent_cells ((Chg.alloc_ (fun _ => False) (w.alloc (.cells #[.int .u8 e.kind, .int .i64 e.tx, .int .i64 e.next, .int .i64 e.nextID, .slice Ao e.ops.length co, .slice Ae e.evs.length ce, .int .i64 e.tickN, .int .i64 e.max, .slice Ap e.opn.length cp, .int .i64 e.tickAt, .string e.name, .int .i64 e.n, .int .i64 e.at_] 40)) (.cells (ent0 0) 35)).at_ hb0 (fun h => h))
  have HT0 : Hid (TG w (((w.alloc (.cells #[.int .u8 e.kind, .int .i64 e.tx, .int .i64 e.next, .int .i64 e.nextID, .slice Ao e.ops.length co, .slice Ae e.evs.length ce, .int .i64 e.tickN, .int .i64 e.max, .slice Ap e.opn.length cp, .int .i64 e.tickAt, .string e.name, .int .i64 e.n, .int .i64 e.at_] 40)).alloc (.cells (ent0 0) 35)).alloc (.cells #[.int .u8 e.kind, .int .i64 e.tx, .int .i64 e.next, .int .i64 e.nextID, .slice none 0 0, .slice none 0 0, .int .i64 e.tickN, .int .i64 e.max, .slice Ap e.opn.length cp, .int .i64 e.tickAt, .string e.name, .int .i64 e.n, .int .i64 e.at_] 35)) w.heap.size (w.heap.size + 1 + 1) (w.heap.size + 1) #[.int .u8 e.kind, .int .i64 e.tx, .int .i64 e.next, .int .i64 e.nextID, .slice Ao e.ops.length co, .slice Ae e.evs.length ce, .int .i64 e.tickN, .int .i64 e.max, .slice Ap e.opn.length cp, .int .i64 e.tickAt, .string e.name, .int .i64 e.n, .int .i64 e.at_] 40 #[.int .u8 e.kind, .int .i64 e.tx, .int .i64 e.next, .int .i64 e.nextID, .slice none 0 0, .slice none 0 0, .int .i64 e.tickN, .int .i64 e.max, .slice Ap e.opn.length cp, .int .i64 e.tickAt, .string e.name, .int .i64 e.n, .int .i64 e.at_] 35 72 (.slice none 0 0) [] 76 (.slice none 0 0) []) := by
    obtain ⟨b1, b2, b3, b4⟩ := two_new (Chg.refl (fun _ => False) ((w.alloc (.cells #[.int .u8 e.kind, .int .i64 e.tx, .int .i64 e.next, .int .i64 e.nextID, .slice Ao e.ops.length co, .slice Ae e.evs.length ce, .int .i64 e.tickN, .int .i64 e.max, .slice Ap e.opn.length cp, .int .i64 e.tickAt, .string e.name, .int .i64 e.n, .int .i64 e.at_] 40)).alloc (.cells (ent0 0) 35)))
    have hz : ((w.alloc (.cells #[.int .u8 e.kind, .int .i64 e.tx, .int .i64 e.next, .int .i64 e.nextID, .slice Ao e.ops.length co, .slice Ae e.evs.length ce, .int .i64 e.tickN, .int .i64 e.max, .slice Ap e.opn.length cp, .int .i64 e.tickAt, .string e.name, .int .i64 e.n, .int .i64 e.at_] 40)).alloc (.cells (ent0 0) 35)).heap.size = w.heap.size + 1 + 1 := by simp
    have b5 := heap_alloc_new ((w.alloc (.cells #[.int .u8 e.kind, .int .i64 e.tx, .int .i64 e.next, .int .i64 e.nextID, .slice Ao e.ops.length co, .slice Ae e.evs.length ce, .int .i64 e.tickN, .int .i64 e.max, .slice Ap e.opn.length cp, .int .i64 e.tickAt, .string e.name, .int .i64 e.n, .int .i64 e.at_] 40)).alloc (.cells (ent0 0) 35)) (.cells #[.int .u8 e.kind, .int .i64 e.tx, .int .i64 e.next, .int .i64 e.nextID, .slice none 0 0, .slice none 0 0, .int .i64 e.tickN, .int .i64 e.max, .slice Ap e.opn.length cp, .int .i64 e.tickAt, .string e.name, .int .i64 e.n, .int .i64 e.at_] 35)
    rw [hz] at b5
    have hc := Chg.alloc_ (fun _ => False) ((w.alloc (.cells #[.int .u8 e.kind, .int .i64 e.tx, .int .i64 e.next, .int .i64 e.nextID, .slice Ao e.ops.length co, .slice Ae e.evs.length ce, .int .i64 e.tickN, .int .i64 e.max, .slice Ap e.opn.length cp, .int .i64 e.tickAt, .string e.name, .int .i64 e.n, .int .i64 e.at_] 40)).alloc (.cells (ent0 0) 35)) (.cells #[.int .u8 e.kind, .int .i64 e.tx, .int .i64 e.next, .int .i64 e.nextID, .slice none 0 0, .slice none 0 0, .int .i64 e.tickN, .int .i64 e.max, .slice Ap e.opn.length cp, .int .i64 e.tickAt, .string e.name, .int .i64 e.n, .int .i64 e.at_] 35)
    exact ⟨hc.at_ b1 (fun h => h), b5, hc.at_ b2 (fun h => h), World.ownsRow_nil _ _ _ _, World.ownsRow_nil _ _ _ _, fun g hg => by simp [Value.ownBlock] at hg, fun g hg => by simp [Value.ownBlock] at hg, fun g hg => by simp [Value.ownBlock] at hg, b4.trans hc, by omega⟩
  unfold entV
  unfold entCells
  go_enter Try.func19, Try.ntmps19
  go_upto_region 2 with fail
  have hT0 := HT0.out
  clear HT0 hb0 x0 x1 x2 x3 x4 x5 x6 x7 x8 x9 x10 x11 x12
  generalize ((w.alloc (.cells #[.int .u8 e.kind, .int .i64 e.tx, .int .i64 e.next, .int .i64 e.nextID, .slice Ao e.ops.length co, .slice Ae e.evs.length ce, .int .i64 e.tickN, .int .i64 e.max, .slice Ap e.opn.length cp, .int .i64 e.tickAt, .string e.name, .int .i64 e.n, .int .i64 e.at_] 40)).alloc (.cells (ent0 0) 35)).alloc (.cells #[.int .u8 e.kind, .int .i64 e.tx, .int .i64 e.next, .int .i64 e.nextID, .slice none 0 0, .slice none 0 0, .int .i64 e.tickN, .int .i64 e.max, .slice Ap e.opn.length cp, .int .i64 e.tickAt, .string e.name, .int .i64 e.n, .int .i64 e.at_] 35) = W0 at *
  obtain ⟨B, hB⟩ : ∃ n, w.heap.size = n := ⟨_, rfl⟩
  obtain ⟨R, hR⟩ : ∃ n, w.heap.size + 1 = n := ⟨_, rfl⟩
  obtain ⟨E, hE⟩ : ∃ n, w.heap.size + 1 + 1 = n := ⟨_, rfl⟩
  rw [hE, hR, hB] at hT0
  rw [hE, hR, hB]
  clear hB hR hE
  have HT0 := Lib.hid hT0
  clear hT0
  go_wp2_with fail
  go_loopw [4] (fun i wr => ∃ (k : Nat) (v1 : Value), i = .int .i64 k ∧ k ≤ e.ops.length ∧ TG w wr B E R #[.int .u8 e.kind, .int .i64 e.tx, .int .i64 e.next, .int .i64 e.nextID, .slice Ao e.ops.length co, .slice Ae e.evs.length ce, .int .i64 e.tickN, .int .i64 e.max, .slice Ap e.opn.length cp, .int .i64 e.tickAt, .string e.name, .int .i64 e.n, .int .i64 e.at_] 40 #[.int .u8 e.kind, .int .i64 e.tx, .int .i64 e.next, .int .i64 e.nextID, v1, .slice none 0 0, .int .i64 e.tickN, .int .i64 e.max, .slice Ap e.opn.length cp, .int .i64 e.tickAt, .string e.name, .int .i64 e.n, .int .i64 e.at_] 35 72 v1 ((e.ops.take k).map opCells) 76 (.slice none 0 0) []) (fun i _ => e.ops.length - (intOf i).toNat)
  case atStart => exact ⟨0, _, rfl, Nat.zero_le _, HT0.out⟩
  case round =>
    clear HT0
    obtain ⟨k, v1, rfl, hk, hT⟩ := hrel
    obtain ⟨x0, x1, x2, x3, x4, x5, x6, x7, x8, x9, x10, x11, x12⟩ := ent_cells hT.box
    by_cases hkl : k < e.ops.length
    · obtain ⟨bb, oo, xx, hA, -, hxx, hcc⟩ := (h.ops.same hT.same).at_ (i := k) (by rw [List.length_map]; exact hkl)
      subst hA
      have hg : e.ops[k]? = some e.ops[k] := List.getElem?_eq_getElem hkl
      generalize e.ops[k] = od at hg
      have hxn : xx = opCells od := by rw [List.getElem?_map, hg] at hxx; simpa using hxx.symm
      subst hxn
      obtain ⟨tb, gn, ky, tt⟩ := od
      have a0 := hcc 0 (.int .i64 tb) rfl
      have a1 := hcc 1 (.bool gn) rfl
      have a2 := hcc 2 (.int .i64 ky) rfl
      have a3 := hcc 3 (.string tt) rfl
      rw [Nat.add_zero] at a0
      have hbl := cell_lt a0
      have hkl' : (k : Int) < (e.ops.length : Int) := by omega
      have HM := Lib.hid (map_take_more (f := opCells) hg)
      have hml : ((e.ops.take k).map opCells).length = k := by simp; omega
      obtain ⟨Av, nv, cv, hv1⟩ : ∃ A n c, v1 = .slice A n c := by
        rcases hT.own1.2 with ⟨hv, -⟩ | ⟨g, cap, cur, hv, -⟩
        · exact ⟨_, _, _, hv⟩
        · exact ⟨_, _, _, hv⟩
      subst hv1
      have hsz := hT.size
      have hbne : bb ≠ wr.heap.size := by have : bb < wr.heap.size := hbl; omega
      clear hcc hxx hg
      go_upto_region 5 with fail
      obtain ⟨y0, y1⟩ := hT.cell 4 _ rfl
      have hown := hT.own1
      have hlE := (hT.size).2.1
      have hrowE : ¬ (Value.slice Av nv cv).ownBlock = some E := fun e => (hT.row1 E e).2.2.1 rfl
      obtain ⟨A8, cp8, w8, hr8, ho8, hg8, hat8⟩ := app_facts (P := Try.prog) wr 28 72 io _ 4 40 Try.underlying28 hio hzo0 hzo1 hzo2 rfl (by omega) (.slice Av nv cv) _ _ hown #[.int .i64 tb, .bool gn, .int .i64 ky, .string tt] rfl (by simp [Value.oneCell']) (by omega) (by unfold maxLen; omega)
      have q8 := Chg.of_grown (S := fun k => (Value.slice Av nv cv).ownBlock = some k) hg8 (fun k h => h)
      have qa := Chg.alloc_ (fun _ => False) wr.drew (.cells #[.int .i64 tb, .bool gn, .int .i64 ky, .string tt] 72)
      have k8 := q8.cell' (qa.cell' y0 (fun h => h)) hrowE
      have f8 : w8.frozen? ⟨E, 4, none⟩ = false := (q8.frozen (p := ⟨E, 4, none⟩) (Nat.lt_of_lt_of_le hlE qa.size) hrowE).trans ((qa.frozen (p := ⟨E, 4, none⟩) hlE (fun h => h)).trans y1)
      have HM8 := Lib.hid ((hT.keep (Chg.refl _ wr).drew).more1 4 _ _ ho8 hg8 hat8)
      rw [hml] at hr8
      have hBs := (hT.size).1
      have hbs : bb < wr.heap.size := cell_lt a1
      clear ho8 hg8 hat8 q8 qa hT
      go_region
      go_wp2_with fail
      go_roundw
      case rel =>
        have hz := HM8.out
        rw [hml] at hz
        refine ⟨k + 1, .slice A8 (k + 1) cp8, by go_num, by omega, ?_⟩
        rw [HM.out]
        exact hz
      case measure => simp [intOf]; omega
    · have hke : k = e.ops.length := by omega
      subst hke
      rw [List.take_length] at hT
      have HT1 := Lib.hid hT
      clear hT
      go_wp2_with fail
      go_loopw [5] (fun i wr => ∃ (k : Nat) (v2 : Value), i = .int .i64 k ∧ k ≤ e.evs.length ∧ TG w wr B E R #[.int .u8 e.kind, .int .i64 e.tx, .int .i64 e.next, .int .i64 e.nextID, .slice Ao e.ops.length co, .slice Ae e.evs.length ce, .int .i64 e.tickN, .int .i64 e.max, .slice Ap e.opn.length cp, .int .i64 e.tickAt, .string e.name, .int .i64 e.n, .int .i64 e.at_] 40 #[.int .u8 e.kind, .int .i64 e.tx, .int .i64 e.next, .int .i64 e.nextID, v1, v2, .int .i64 e.tickN, .int .i64 e.max, .slice Ap e.opn.length cp, .int .i64 e.tickAt, .string e.name, .int .i64 e.n, .int .i64 e.at_] 35 72 v1 (e.ops.map opCells) 76 v2 ((e.evs.take k).map plCells)) (fun i _ => e.evs.length - (intOf i).toNat)
      case atStart => exact ⟨0, _, rfl, Nat.zero_le _, HT1.out⟩
      case round =>
        clear HT1
        obtain ⟨k, v2, rfl, hk, hT⟩ := hrel
        obtain ⟨x0, x1, x2, x3, x4, x5, x6, x7, x8, x9, x10, x11, x12⟩ := ent_cells hT.box
        by_cases hkl : k < e.evs.length
        · obtain ⟨bb, oo, xx, hA, -, hxx, hcc⟩ := (h.evs.same hT.same).at_ (i := k) (by rw [List.length_map]; exact hkl)
          subst hA
          have hg : e.evs[k]? = some e.evs[k] := List.getElem?_eq_getElem hkl
          generalize e.evs[k] = od at hg
          have hxn : xx = plCells od := by rw [List.getElem?_map, hg] at hxx; simpa using hxx.symm
          subst hxn
          have a0 := hcc 0 (.int .i64 od.spool) rfl
          have a1 := hcc 1 (.int .i64 od.id) rfl
          have a2 := hcc 2 (.int .i64 od.tx) rfl
          have a3 := hcc 3 (.string od.owner) rfl
          have a4 := hcc 4 (.int .i64 od.tries) rfl
          have a5 := hcc 5 (.int .i64 od.table) rfl
          have a6 := hcc 6 (.int .u8 od.kind) rfl
          have a7 := hcc 7 (.int .i64 od.key) rfl
          have a8 := hcc 8 (.string od.text) rfl
          rw [Nat.add_zero] at a0
          have hkl' : (k : Int) < (e.evs.length : Int) := by omega
          have HM := Lib.hid (map_take_more (f := plCells) hg)
          have hml : ((e.evs.take k).map plCells).length = k := by simp; omega
          obtain ⟨Av, nv, cv, hv2⟩ : ∃ A n c, v2 = .slice A n c := by
            rcases hT.own2.2 with ⟨hv, -⟩ | ⟨g, cap, cur, hv, -⟩
            · exact ⟨_, _, _, hv⟩
            · exact ⟨_, _, _, hv⟩
          subst hv2
          clear hcc hxx hg
          go_upto_region 9 with fail
          obtain ⟨y0, y1⟩ := hT.cell 5 _ rfl
          have hown := hT.own2
          have hlE := (hT.size).2.1
          have hrowE : ¬ (Value.slice Av nv cv).ownBlock = some E := fun e => (hT.row2 E e).2.2.1 rfl
          obtain ⟨A8, cp8, w8, hr8, ho8, hg8, hat8⟩ := app_facts (P := Try.prog) wr 29 76 ie _ 9 88 Try.underlying29 hie hze0 hze1 hze2 rfl (by omega) (.slice Av nv cv) _ _ hown #[.int .i64 od.spool, .int .i64 od.id, .int .i64 od.tx, .string od.owner, .int .i64 od.tries, .int .i64 od.table, .int .u8 od.kind, .int .i64 od.key, .string od.text] rfl (by simp [Value.oneCell']) (by omega) (by unfold maxLen; omega)
          have q8 := Chg.of_grown (S := fun k => (Value.slice Av nv cv).ownBlock = some k) hg8 (fun k h => h)
          have qa := Chg.alloc_ (fun _ => False) wr.drew (.cells #[.int .i64 od.spool, .int .i64 od.id, .int .i64 od.tx, .string od.owner, .int .i64 od.tries, .int .i64 od.table, .int .u8 od.kind, .int .i64 od.key, .string od.text] 76)
          have k8 := q8.cell' (qa.cell' y0 (fun h => h)) hrowE
          have f8 : w8.frozen? ⟨E, 5, none⟩ = false := (q8.frozen (p := ⟨E, 5, none⟩) (Nat.lt_of_lt_of_le hlE qa.size) hrowE).trans ((qa.frozen (p := ⟨E, 5, none⟩) hlE (fun h => h)).trans y1)
          have HM8 := Lib.hid ((hT.keep (Chg.refl _ wr).drew).more2 5 _ _ ho8 hg8 hat8)
          rw [hml] at hr8
          have hBs := (hT.size).1
          have hbs : bb < wr.heap.size := cell_lt a1
          clear ho8 hg8 hat8 q8 qa hT
          go_region
          go_wp2_with fail
          go_roundw
          case rel =>
            have hz := HM8.out
            rw [hml] at hz
            refine ⟨k + 1, .slice A8 (k + 1) cp8, by go_num, by omega, ?_⟩
            rw [HM.out]
            exact hz
          case measure => simp [intOf]; omega
        · have hke : k = e.evs.length := by omega
          subst hke
          rw [List.take_length] at hT
          obtain ⟨Av1, nv1, cv1, hv1⟩ : ∃ A n c, v1 = .slice A n c := by
            rcases hT.own1.2 with ⟨hv, -⟩ | ⟨g, cap, cur, hv, -⟩
            · exact ⟨_, _, _, hv⟩
            · exact ⟨_, _, _, hv⟩
          obtain ⟨Av2, nv2, cv2, hv2⟩ : ∃ A n c, v2 = .slice A n c := by
            rcases hT.own2.2 with ⟨hv, -⟩ | ⟨g, cap, cur, hv, -⟩
            · exact ⟨_, _, _, hv⟩
            · exact ⟨_, _, _, hv⟩
          subst hv1; subst hv2
          obtain ⟨p0, p1, p2, p3, p4, p5, p6, p7, p8, p9, p10, p11, p12⟩ := ent_cells hT.el
          obtain ⟨r0, r1, r2, r3, r4, r5, r6, r7, r8, r9, r10, r11, r12⟩ := ent_cells hT.res
          obtain ⟨f0, f1, f2, f3, f4, f5, f6, f7, f8, f9, f10, f11, f12⟩ := ent_free hT.res
          have hER : R ≠ E := by have := hT.old; omega
          have HF := Lib.hid (hT.fin (.int .u8 e.kind) (.int .i64 e.tx) (.int .i64 e.next) (.int .i64 e.nextID) (.slice Av1 nv1 cv1) (.slice Av2 nv2 cv2) (.int .i64 e.tickN) (.int .i64 e.max) (.slice Ap e.opn.length cp) (.int .i64 e.tickAt) (.string e.name) (.int .i64 e.n) (.int .i64 e.at_))
          clear hT
          go_wp2_with fail
          refine bodyPost_ret (v := entV e (.slice Av1 nv1 cv1) (.slice Av2 nv2 cv2) (.slice Ap e.opn.length cp)) (by simp [results, Try.results19, go_sem, entV, entCells, r0, r1, r2, r3, r4, r5, r6, r7, r8, r9, r10, r11, r12]) rfl ?_
          exact ⟨_, _, rfl, HF.out⟩

end Go.Proofs.Ytdkankiohoocaaa
