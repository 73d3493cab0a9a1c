/- The walks of block.Device: Write where it may not be, Read. -/
import Derived.Test.YtnfmjbmcboiacaaDevW
import Derived.Deep.WholeRow
namespace Go.Proofs.Ytnfmjbmcboiacaa
open Go Go.RowKit Go.Proofs

theorem size_u8 : (Try.prog.info? 5).map (·.size) = some 1 := by kernel_rfl
theorem size_cell : (Try.prog.info? 66).map (·.size) = some 32 := by kernel_rfl

/-- copy of bytes into a row of bytes, as a step of a region that draws. -/
theorem step_copyB {ops : Array Oper} {o : Oper} {a : Act} {w : World} {K : Act → World → Prop} {Q : Exit → Act → World → Prop} {E : Prop} (hgd : o.guard = none) (d s : Operand) (dT sT : TypeId)
    (ho : o.op = .call { callee := .builtin .copy, args := #[d, s], argTypes := #[dT, sT] }) (hu : Try.prog.underlying dT = some (.slice 5))
    (g off dLen dCap : Nat) (hd : a.eval d = .slice (some ⟨g, off, none⟩) dLen dCap) (A : Option Addr) (m c : Nat) (hs : a.eval s = .slice A m c) (G : Nat → Prop) (lx : List UInt8) (hsrc : Bs w G (.slice A m c) lx) (hle : lx.length ≤ dLen)
    (cur : List UInt8) (t : TypeId) (hg : w.heap[g]? = some (.cells (bvs cur).toArray t (0, 0))) (hfit : off + lx.length ≤ cur.length)
    (h : ∀ w', Hid (w'.heap[g]? = some (.cells (bvs (lay cur off lx)).toArray t (0, 0))) → Hid (Chg (fun k => k = g) w w') → K (a.put o.dst (goInt lx.length)) w') :
    if Region.wanted o (yielded ops a.tmps) = true then Oper.wp Try.prog o a w K Q else E := by
  have hw : Region.wanted o (yielded ops a.tmps) = true := by simp [Region.wanted, hgd]
  rw [if_pos hw]
  obtain ⟨A1, c1, hv, h1, h2, h3⟩ := hsrc
  injection hv with e1 e2 e3
  subst e1; subst e2; subst e3
  by_cases h0 : lx.length = 0
  · obtain rfl : lx = [] := List.eq_nil_of_length_eq_zero h0
    have hrun := run_copy_none (P := Try.prog) w dT sT o.type 5 (some ⟨g, off, none⟩) A dLen dCap ([] : List UInt8).length c hu size_u8 (Nat.zero_min _)
    unfold Oper.wp
    simp [execOp, ho, resolve, invoke, builtin, hd, hs] at hrun ⊢
    rw [hrun]
    simp only [Result.andThen]
    exact h w (show _ = _ by rw [lay_nil]; exact hg) (Lib.hid (Chg.refl _ _))
  · obtain ⟨b, ob, hA, _, hx⟩ := h3 (by omega)
    subst hA
    have hcs : ∀ (j : Nat) (v : Value), (bvs lx)[j]? = some v → w.cell? ((⟨b, ob, none⟩ : Addr).add j) = some v := fun j v hj => by
      rw [addr_add]
      rw [bvs_get] at hj
      cases hl : lx[j]? with
      | none => rw [hl] at hj; cases hj
      | some x => rw [hl] at hj; simp at hj; subst hj; exact hx j x hl
    have hmin : (bvs lx).length = Nat.min lx.length dLen := by rw [bvs_length]; exact (Nat.min_eq_left hle).symm
    have hrun := run_copy_row (P := Try.prog) w dT sT o.type 5 g off dLen dCap ⟨b, ob, none⟩ lx.length c (bvs cur).toArray t (bvs lx) hu size_u8 hg hmin hcs (by simpa using hfit) (bvs_oneCell lx)
    unfold Oper.wp
    simp only [execOp, ho, resolve, invoke, builtin, Sem.run_bind, Sem.run_pure, Result.andThen_ok, List.map_toArray, List.map_cons, List.map_nil, hd, hs, hrun, bvs_length]
    refine h _ ?_ (Lib.hid ?_)
    · show _ = _
      rw [bvs_lay]
      have := setRow_heap w g (bvs cur).toArray ((bvs cur).toArray.toList.take off ++ (bvs lx ++ (bvs cur).toArray.toList.drop (off + (bvs lx).length))).toArray t _ hg
      simpa [splice] using this
    · exact ⟨rfl, rfl, rfl, by simp [World.setRow], fun k _ hk => setRow_other w g k _ hk⟩

/-- A write that may not be. -/
theorem dwrite_no (d n : Nat) (i : Int) (F G : Nat → Prop) (s p : List UInt8) (ts : List Wt) (v : Value) (w : World) (h : Dv w F d n s ts) (hb : Bs w G v p) (hbad : i < 0 ∨ (n : Int) ≤ i ∨ 32 < p.length) :
    Calls Try.prog 12 #[.pointer (some ⟨d, 0, none⟩), .int .i64 i, v] w fun e w' => e = .returned (.int .i64 1) ∧ w = w' := by
  obtain ⟨gs, vw, vs, hD⟩ := h
  obtain ⟨c0, c1, f0, f1⟩ := two_cells hD.blk
  obtain ⟨A, cap, hv, -, -⟩ := hD.lens
  subst hv
  obtain ⟨A2, cap2, hv2, -, -, -⟩ := id hb
  subst hv2
  by_cases h0 : i < 0
  · clear hbad
    go_enter Try.func12, Try.ntmps12
    go_wp2_with fail
    go_ret
    exact ⟨rfl, rfl⟩
  · have h0' : 0 ≤ i := by omega
    by_cases h1 : (n : Int) ≤ i
    · clear hbad h0
      go_enter Try.func12, Try.ntmps12
      go_wp2_with fail
      go_ret
      exact ⟨rfl, rfl⟩
    · have h1' : i < (n : Int) := by omega
      have h2 : (32 : Int) < (p.length : Int) := by omega
      clear hbad h0 h1
      go_enter Try.func12, Try.ntmps12
      go_wp2_with fail
      go_ret
      exact ⟨rfl, rfl⟩
/-- A read that may not be. -/
theorem dread_no (d n : Nat) (i : Int) (F : Nat → Prop) (s : List UInt8) (ts : List Wt) (w : World) (h : Dv w F d n s ts) (hbad : i < 0 ∨ (n : Int) ≤ i) :
    Calls Try.prog 14 #[.pointer (some ⟨d, 0, none⟩), .int .i64 i] w fun e w' => e = .returned (.tuple #[.slice none 0 0, .int .i64 1]) ∧ w = w' := by
  obtain ⟨gs, vw, vs, hD⟩ := h
  obtain ⟨c0, c1, f0, f1⟩ := two_cells hD.blk
  by_cases h0 : i < 0
  · clear hbad
    go_enter Try.func14, Try.ntmps14
    go_wp2_with fail
    go_ret2
    exact ⟨rfl, rfl⟩
  · have h0' : 0 ≤ i := by omega
    have h1 : (n : Int) ≤ i := by omega
    clear hbad h0
    go_enter Try.func14, Try.ntmps14
    go_wp2_with fail
    go_ret2
    exact ⟨rfl, rfl⟩

/-! ### no device -/
theorem dwrite_nil (i : Int) (v : Value) (w : World) :
    Calls Try.prog 12 #[.pointer none, .int .i64 i, v] w fun e w' => e = .returned (.int .i64 4) ∧ w = w' := by
  go_enter Try.func12, Try.ntmps12
  go_wp2_with fail
  go_ret
  exact ⟨rfl, rfl⟩
theorem dread_nil (i : Int) (w : World) :
    Calls Try.prog 14 #[.pointer none, .int .i64 i] w fun e w' => e = .returned (.tuple #[.slice none 0 0, .int .i64 4]) ∧ w = w' := by
  go_enter Try.func14, Try.ntmps14
  go_wp2_with fail
  go_ret2
  exact ⟨rfl, rfl⟩
theorem dsize_nil (w : World) : Calls Try.prog 20 #[.pointer none] w fun e w' => e = .returned (.int .i64 0) ∧ w = w' := by
  go_enter Try.func20, Try.ntmps20
  go_wp2_with fail
  go_ret
  exact ⟨rfl, rfl⟩
theorem dwaiting_nil (w : World) : Calls Try.prog 23 #[.pointer none] w fun e w' => e = .returned (.int .i64 0) ∧ w = w' := by
  go_enter Try.func23, Try.ntmps23
  go_wp2_with fail
  go_ret
  exact ⟨rfl, rfl⟩
theorem dcrash_nil (v : Value) (i : Int) (w : World) : Calls Try.prog 13 #[.pointer none, v, .int .i64 i] w fun e w' => e = .returned (.tuple #[]) ∧ w = w' := by
  go_enter Try.func13, Try.ntmps13
  go_wp2_with fail
  refine bodyPost_ret (results_none rfl _ _ _) rfl ?_
  exact ⟨rfl, rfl⟩
theorem dsync_nil (w : World) : Calls Try.prog 16 #[.pointer none] w fun e w' => e = .returned (.tuple #[]) ∧ w = w' := by
  go_enter Try.func16, Try.ntmps16
  go_wp2_with fail
  refine (dcrash_nil _ _ _).mono ?_
  rintro _ _ ⟨rfl, rfl⟩
  go_wp2_with fail
  go_end0
  exact ⟨rfl, rfl⟩

/-! ### Read -/
/-- The row of the writes that wait: two cells a write. -/
theorem DvV.write_at {w : World} {F : Nat → Prop} {d gs n : Nat} {vw : Value} {s : List UInt8} {ts : List Wt} {vs : List Value} (h : DvV w F d gs vw n s ts vs) {k : Nat} {t : Wt} (hk : ts[k]? = some t) :
    ∃ g cap v, vw = .slice (some ⟨g, 0, none⟩) ts.length cap ∧ F g ∧ vs[k]? = some v ∧ w.cell? ⟨g, k * 2, none⟩ = some (.int .i64 (t.i : Int)) ∧ w.cell? ⟨g, k * 2 + 1, none⟩ = some v ∧ Bs w (fun b => F b ∧ b ≠ d ∧ b ≠ gs ∧ b ≠ g) v t.p := by
  have hlt : k < ts.length := (List.getElem?_eq_some_iff.1 hk).1
  have hv : vs[k]? = some (vs[k]'(by rw [h.vlen]; exact hlt)) := List.getElem?_eq_getElem _
  obtain ⟨g1, g2⟩ := tcells_get ts vs k t _ hk hv
  rcases h.own.2 with ⟨h1, h2⟩ | ⟨g, cap, cur, h1, hb, hg, hnc, hc, hs, ht⟩
  · omega
  · have he : ∀ j x, (tcells ts vs)[j]? = some x → w.cell? ⟨g, j, none⟩ = some x := fun j x hj => by
      rw [cell_of_row w g j cur _ (0, 0) hg]
      rw [← ht, List.getElem?_take] at hj
      split at hj
      · simpa using hj
      · cases hj
    refine ⟨g, cap, _, h1, (h.row g (by rw [h1]; rfl)).1, hv, by rw [show k * 2 = 2 * k by omega]; exact he _ _ g1, by rw [show k * 2 = 2 * k by omega]; exact he _ _ g2, (h.each k t _ hk hv).mono (fun b _ hb => ⟨hb.1, hb.2.1, hb.2.2.1, fun e => hb.2.2.2 (by rw [h1, e]; rfl)⟩)⟩

/-- What Read answers: a new row of 32 bytes. -/
def Got (w w' : World) (v : Value) (l : List UInt8) : Prop := ∃ g, v = .slice (some ⟨g, 0, none⟩) 32 32 ∧ w.heap.size ≤ g ∧ w'.heap[g]? = some (.cells (bvs l).toArray 66 (0, 0)) ∧ l.length = 32 ∧ Same w w'
def ReadPost (w : World) (l : List UInt8) (e : Ending) (w' : World) : Prop := ∃ v, e = .returned (.tuple #[v, .int .i64 0]) ∧ Got w w' v l
theorem now_cons (i : Nat) (c : List UInt8) (t : Wt) (ts : List Wt) : now i c (t :: ts) = now i (if t.i = i then lay c 0 t.p else c) ts := rfl
theorem getElem_of {α : Type} {l : List α} {k : Nat} {x : α} (h : l[k]? = some x) {hk : k < l.length} : l[k] = x := (List.getElem?_eq_some_iff.1 h).2
/-- Where the loop stands. -/
def ReadAt (w wr : World) (g i : Nat) (res : List UInt8) (rest : List Wt) : Prop := ∃ c : List UInt8, wr.heap[g]? = some (.cells (bvs c).toArray 66 (0, 0)) ∧ c.length = 32 ∧ Same w wr ∧ now i c rest = res

theorem blk_range {w : World} {gs : Nat} {s : List UInt8} {t : TypeId} (h : w.heap[gs]? = some (.cells (bvs s).toArray t (0, 0))) (k : Nat) : w.rangeAt gs (k * 32) (bvs (blk s k)) := fun j v hv => by
  rw [cell_of_row w gs _ _ _ _ h]
  have hj : j < 32 := by
    have := (List.getElem?_eq_some_iff.1 hv).1
    rw [bvs_length] at this
    unfold blk at this
    rw [List.length_take] at this
    omega
  unfold blk at hv
  rw [bvs_get, List.getElem?_take, if_pos hj, List.getElem?_drop] at hv
  rw [List.getElem?_toArray, bvs_get, show k * 32 + j = 32 * k + j by omega]
  exact hv

def zero32 : Array Value := #[.int .u8 0, .int .u8 0, .int .u8 0, .int .u8 0, .int .u8 0, .int .u8 0, .int .u8 0, .int .u8 0, .int .u8 0, .int .u8 0, .int .u8 0, .int .u8 0, .int .u8 0, .int .u8 0, .int .u8 0, .int .u8 0, .int .u8 0, .int .u8 0, .int .u8 0, .int .u8 0, .int .u8 0, .int .u8 0, .int .u8 0, .int .u8 0, .int .u8 0, .int .u8 0, .int .u8 0, .int .u8 0, .int .u8 0, .int .u8 0, .int .u8 0, .int .u8 0]
theorem store_new32 (w : World) (C : List UInt8) (hC : C.length = 32) :
    (storeCells ⟨w.heap.size, 0, none⟩ (bvs C) 0).run Try.prog (w.alloc (.cells #[.int .u8 0, .int .u8 0, .int .u8 0, .int .u8 0, .int .u8 0, .int .u8 0, .int .u8 0, .int .u8 0, .int .u8 0, .int .u8 0, .int .u8 0, .int .u8 0, .int .u8 0, .int .u8 0, .int .u8 0, .int .u8 0, .int .u8 0, .int .u8 0, .int .u8 0, .int .u8 0, .int .u8 0, .int .u8 0, .int .u8 0, .int .u8 0, .int .u8 0, .int .u8 0, .int .u8 0, .int .u8 0, .int .u8 0, .int .u8 0, .int .u8 0, .int .u8 0] 66)) = .ok () (w.alloc (.cells (bvs C).toArray 66)) :=
  run_storeCells_new (P := Try.prog) w 66 zero32 (bvs C).toArray (by simp only [List.size_toArray, bvs_length, hC]; exact size_cell) (by simp only [List.size_toArray, bvs_length, hC]; rfl) (all_oneCell_toArray (bvs_oneCell C))

set_option maxHeartbeats 1600000 in
set_option maxRecDepth 100000 in
theorem dread_ok (d n k : Nat) (F : Nat → Prop) (s : List UInt8) (ts : List Wt) (w : World) (h : Dv w F d n s ts) (hk : k < n) :
    Calls Try.prog 14 #[.pointer (some ⟨d, 0, none⟩), .int .i64 (k : Int)] w (ReadPost w (now k (blk s k) ts)) := by
  obtain ⟨gs, vw, vs, hD⟩ := h
  obtain ⟨c0, c1, f0, f1⟩ := two_cells hD.blk
  obtain ⟨A, cap, hv, hcap, hlen⟩ := hD.lens
  subst hv
  have hk1 : (k : Int) < (n : Int) := by omega
  have hdl := lt_of_block hD.blk
  have hn := hD.few
  have hr := blk_range hD.safe k
  have hbl := blk_len hD.fine.1 hk
  obtain ⟨C, hC⟩ : ∃ C, blk s k = C := ⟨_, rfl⟩
  obtain ⟨res, hres⟩ : ∃ res, now k (blk s k) ts = res := ⟨_, rfl⟩
  rw [hres]
  rw [hC] at hr hbl hres
  have HR := Lib.hid hr
  have HC := Lib.hid hC
  have HS := Lib.hid hres
  have hst := fun w => store_new32 w C hbl
  clear hr hC hres
  go_enter Try.func14, Try.ntmps14
  go_wp2_with (refine wpList_load_mid rfl 66 _ rfl gs (k * 32) rfl (bvs C) _ HR.out Try.underlying66 rfl (by rw [bvs_length, hbl]; exact size_cell) ?_)
  go_loopw [36] (fun i wr => ∃ j : Nat, i = .int .i64 j ∧ j ≤ ts.length ∧ ReadAt w wr w.heap.size k res (ts.drop j)) (fun i _ => ts.length - (intOf i).toNat)
  case atStart =>
    refine ⟨0, rfl, Nat.zero_le _, C, heap_alloc_new w _, hbl, Chg.alloc_ _ _ _, ?_⟩
    rw [List.drop_zero]; exact HS.out
  case round =>
    obtain ⟨j, rfl, hj, hR⟩ := hrel
    by_cases hlt : j < ts.length
    · obtain ⟨t, ht⟩ : ∃ t, ts[j]? = some t := ⟨_, List.getElem?_eq_getElem hlt⟩
      obtain ⟨g, cap', v, hv, hgF, hvs, hc2, hc3, hbs⟩ := hD.write_at ht
      injection hv with hv1 hv2 hv3
      subst hv1; subst hv3
      obtain ⟨c, hg, hcl, hsm, hnow⟩ := hR
      have k2 := hsm.cell' hc2 (fun h => h)
      have k3 := hsm.cell' hc3 (fun h => h)
      obtain ⟨A3, cap3, hv3, -, -, -⟩ := id hbs
      subst hv3
      have HT := Lib.hid ht
      have HG := Lib.hid hg
      have HN := Lib.hid hnow
      have HH := Lib.hid hvs
      have hpl := (hD.fine.2 t (List.mem_of_getElem? ht)).2
      have hb4 := Lib.hid ((hbs.same hsm).alloc (.cells #[.int .i64 (t.i : Int), .slice A3 t.p.length cap3] 64))
      have hg4 := Lib.hid ((Chg.alloc_ (fun _ => False) wr (.cells #[.int .i64 (t.i : Int), .slice A3 t.p.length cap3] 64)).at_ hg (fun h => h))
      clear ht hg hnow hvs hv2 hc2 hc3 c0 c1 f0 f1
      by_cases hti : t.i = k
      · have hti' : ((t.i : Int) == (k : Int)) = true := by simp [hti]
        have HTI := Lib.hid hti
        clear hti
        go_wp2_with fail
        go_region_law ((refine step_copyB rfl _ _ _ _ rfl Try.underlying25 w.heap.size 0 32 32 rfl A3 t.p.length cap3 rfl _ t.p hb4.out.drew hpl c 66 hg4.out (by omega) ?_; intro w2 hg2 hc2))
        all_goals
          go_wp2_with fail
          go_roundw
          case rel =>
            refine ⟨j + 1, by go_num, by omega, lay c 0 t.p, hg2.out, ?_, ?_, ?_⟩
            · rw [lay_len (by omega)]; exact hcl
            · exact ((hsm.alloc _).drew).since hc2.out (fun k hk => by omega)
            · rw [← HN.out, List.drop_eq_getElem_cons hlt, now_cons, if_pos (by rw [getElem_of HT.out]; exact HTI.out), getElem_of HT.out]
          case measure => simp [intOf]; omega
      · have hti' : ((t.i : Int) == (k : Int)) = false := by simp; omega
        have HTI := Lib.hid hti
        clear hti
        go_wp2_with fail
        go_roundw
        case rel =>
          refine ⟨j + 1, by go_num, by omega, c, hg4.out, hcl, hsm.alloc _, ?_⟩
          rw [← HN.out, List.drop_eq_getElem_cons hlt, now_cons, if_neg (by rw [getElem_of HT.out]; exact HTI.out)]
        case measure => simp [intOf]; omega
    · obtain ⟨c, hg, hcl, hsm, hnow⟩ := hR
      have hjl : ts.length ≤ j := by omega
      rw [List.drop_of_length_le hjl] at hnow
      have hg0 := Lib.hid hg
      have HN := Lib.hid hnow
      clear hg hnow
      go_wp2_with fail
      go_ret2
      exact ⟨_, rfl, w.heap.size, rfl, Nat.le_refl _, by rw [← HN.out]; exact hg0.out, by rw [← HN.out]; exact hcl, hsm⟩
end Go.Proofs.Ytnfmjbmcboiacaa
