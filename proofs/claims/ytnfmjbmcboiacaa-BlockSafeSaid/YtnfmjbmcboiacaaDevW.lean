/- The walks of block.Device: Size, Waiting, Write. -/
import Derived.Test.YtnfmjbmcboiacaaDev
import Derived.Deep.RegionLaw
namespace Go.Proofs.Ytnfmjbmcboiacaa
open Go Go.RowKit Go.Proofs

theorem Bs.drew {w : World} {F : Nat → Prop} {v : Value} {l : List UInt8} (h : Bs w F v l) : Bs w.drew F v l := h
theorem DvV.lens {w : World} {F : Nat → Prop} {d gs n : Nat} {vw : Value} {s : List UInt8} {ts : List Wt} {vs : List Value} (h : DvV w F d gs vw n s ts vs) : ∃ A cap, vw = .slice A ts.length cap ∧ cap ≤ 9223372036854775807 ∧ ts.length ≤ cap := by
  have hm : maxLen = 9223372036854775807 := by decide +kernel
  rcases h.own.2 with ⟨h1, h2⟩ | ⟨g, cap, cur, h1, _, _, h3, h4, _⟩
  · exact ⟨none, 0, by rw [h1, h2], by omega, by omega⟩
  · exact ⟨_, _, h1, by omega, h3⟩

theorem dsize_any (d n : Nat) (F : Nat → Prop) (s : List UInt8) (ts : List Wt) (w : World) (h : Dv w F d n s ts) :
    Calls Try.prog 20 #[.pointer (some ⟨d, 0, none⟩)] w fun e w' => e = .returned (.int .i64 n) ∧ w = w' := by
  obtain ⟨gs, vw, vs, hD⟩ := h
  obtain ⟨c0, c1, f0, f1⟩ := two_cells hD.blk
  go_enter Try.func20, Try.ntmps20
  go_wp2_with fail
  go_ret
  exact ⟨rfl, rfl⟩

theorem dwaiting_any (d n : Nat) (F : Nat → Prop) (s : List UInt8) (ts : List Wt) (w : World) (h : Dv w F d n s ts) :
    Calls Try.prog 23 #[.pointer (some ⟨d, 0, none⟩)] w fun e w' => e = .returned (.int .i64 ts.length) ∧ w = w' := by
  obtain ⟨gs, vw, vs, hD⟩ := h
  obtain ⟨c0, c1, f0, f1⟩ := two_cells hD.blk
  obtain ⟨A, cap, hv, -, -⟩ := hD.lens
  subst hv
  go_enter Try.func23, Try.ntmps23
  go_wp2_with fail
  go_ret
  exact ⟨rfl, rfl⟩

/-- append at a step of a region that draws. -/
theorem step_app {P : Program} {w : World} {ops : Array Oper} {o : Oper} {a : Act} {K : Act → World → Prop} {Q : Exit → Act → World → Prop} {E : Prop} (hgd : o.guard = none) (s x : Operand) (t : TypeId)
    (ho : o.op = .call { callee := .builtin .append, args := #[s, x], argTypes := #[t, t] })
    (e : TypeId) (i : TypeInfo) (z : Value) (size bytes : Nat) (ht : P.underlying t = some (.slice e)) (hi : P.info? e = some i) (hz : i.zero = some z)
    (hsize : i.size = size) (hby : i.bytes = bytes) (hzs : z.cells.size = size) (hsz : 0 < size)
    (v : Value) (n : Nat) (xs : List Value) (hs : a.eval s = v) (hown : w.ownsRow 0 e size v n xs)
    (A : Option Addr) (m c : Nat) (news : List Value) (hx : a.eval x = .slice A m c) (hl : news.length = m * size) (hnews : 0 < m → ∃ ad, A = some ad ∧ ∀ j u, news[j]? = some u → w.cell? (ad.add j) = some u) (h1 : ∀ u ∈ news, u.oneCell' = true)
    (hbytes : (n + m) * bytes ≤ 140737488355328) (h63 : n + m ≤ maxLen)
    (h : ∀ A' cap' w', w'.ownsRow 0 e size (.slice A' (n + m) cap') (n + m) (xs ++ news) → w.grownBy w' v.ownBlock → ((Value.slice A' (n + m) cap').ownBlock = v.ownBlock ∨ (Value.slice A' (n + m) cap').ownBlock = some w.heap.size) → K (a.put o.dst (.slice A' (n + m) cap')) w') :
    if Region.wanted o (yielded ops a.tmps) = true then Oper.wp P o a w K Q else E := by
  have hw : Region.wanted o (yielded ops a.tmps) = true := by simp [Region.wanted, hgd]
  rw [if_pos hw]
  obtain ⟨A', cap', w', hr, h2, h3, h4⟩ := run_app (P := P) w t o.type e i z size bytes ht hi hz hsize hby hzs hsz v n xs hown A m c news hl hnews h1 hbytes h63
  unfold Oper.wp execOp
  simp only [ho, resolve, invoke, builtin, Sem.run_bind, Sem.run_pure, Result.andThen_ok, List.map_toArray, List.map_cons, List.map_nil, hs, hx, hr]
  exact h A' cap' w' h2 h3 h4

theorem two_new_cells (w : World) (x y : Value) (t : TypeId) : 0 < 1 → ∃ ad, some (⟨w.heap.size, 0, none⟩ : Addr) = some ad ∧ ∀ j u, [x, y][j]? = some u → (w.alloc (.cells #[x, y] t)).cell? (ad.add j) = some u := by
  refine fun _ => ⟨_, rfl, fun j u hj => ?_⟩
  rw [show (⟨w.heap.size, 0, none⟩ : Addr).add j = ⟨w.heap.size, j, none⟩ by rw [addr_add, Nat.zero_add], World.cell?_alloc_at _ _ _ _ rfl]
  match j, hj with
  | 0, hj => simpa using hj
  | 1, hj => simpa using hj

/-- What the append of a write leaves. -/
theorem DvV.written {w w1 wx w2 : World} {F : Nat → Prop} {d gs n : Nat} {vw v' : Value} {s : List UInt8} {ts : List Wt} {vs : List Value} {t : Wt} {v : Value} (h : DvV w F d gs vw n s ts vs) (hs1 : Same w w1) (hsx : Same w1 wx)
    (hv : Bs w1 (fun k => w.heap.size ≤ k ∧ k < w1.heap.size) v t.p) (ht : t.i < n ∧ t.p.length ≤ 32)
    (ho : w2.ownsRow 0 64 2 v' (ts.length + 1) (tcells ts vs ++ [.int .i64 (t.i : Int), v])) (hg : wx.grownBy w2 vw.ownBlock) (hat : v'.ownBlock = vw.ownBlock ∨ v'.ownBlock = some wx.heap.size) :
    DvPost w (w2.setCell ⟨d, 1, none⟩ v') F d n s (ts ++ [t]) := by
  have hsw : Same w wx := hs1.trans hsx
  have hc2 : Chg (fun k => vw.ownBlock = some k) wx w2 := Chg.of_grown hg (fun k h => h)
  have hF2 : Chg F w w2 := (hsw.any F).trans (hc2.mono (fun k hk => (h.row k hk).1))
  have hF3 : Chg F w (w2.setCell ⟨d, 1, none⟩ v') := hF2.setCell (fun _ => h.mine.1) _
  have hdx := lt_of_block (hsw.at_ h.blk (fun h => h))
  have hgx := lt_of_block (hsw.at_ h.safe (fun h => h))
  have hrow : ∀ g, v'.ownBlock = some g → (F g ∨ (w.heap.size ≤ g ∧ g < w2.heap.size)) ∧ g ≠ d ∧ g ≠ gs ∧ (g < w.heap.size → vw.ownBlock = some g) ∧ (w.heap.size ≤ g → wx.heap.size ≤ g) := by
    intro g hg'
    have hlt : g < w2.heap.size := (World.ownsRow.lt ho g hg').2
    rcases hat with e | e
    · rw [e] at hg'
      obtain ⟨r1, r2, r3⟩ := h.row g hg'
      have := h.lt g r1
      exact ⟨.inl r1, r2, r3, fun _ => hg', fun h => by omega⟩
    · rw [e] at hg'
      injection hg' with hg'
      subst hg'
      have := hsw.size
      exact ⟨.inr ⟨by omega, hlt⟩, by omega, by omega, fun h => by omega, fun _ => Nat.le_refl _⟩
  have hsz := hF2.size
  refine ⟨fun k => F k ∨ (w.heap.size ≤ k ∧ k < w2.heap.size), ⟨gs, v', vs ++ [v], ?_, ?_, ⟨h.fine.1, ?_⟩, h.few, ?_, by simp [h.vlen], ?_, ⟨.inl h.mine.1, .inl h.mine.2⟩, fun g hg' => ⟨(hrow g hg').1, (hrow g hg').2.1, (hrow g hg').2.2.1⟩, h.ne, ?_⟩, hF3, ?_⟩
  · exact two_set1 (hc2.at_ (hsw.at_ h.blk (fun h => h)) (fun e => (h.row d e).2.1 rfl))
  · have h1 := hc2.at_ (hsw.at_ h.safe (fun h => h)) (fun e => (h.row gs e).2.2 rfl)
    rw [Below.heap_setCell _ _ _ _ h.ne.symm]; exact h1
  · intro x hx
    rcases List.mem_append.1 hx with hx | hx
    · exact h.fine.2 x hx
    · rw [List.mem_singleton.1 hx]; exact ht
  · rw [tcells_append _ _ _ _ h.vlen, List.length_append]
    exact ownsRow_setCell_other ho (fun e => (hrow d e).2.1 rfl) _
  · intro k t1 v1 h1 h2
    by_cases hk : k < ts.length
    · rw [List.getElem?_append_left hk] at h1
      rw [List.getElem?_append_left (by rw [h.vlen]; exact hk)] at h2
      have hb := (h.each k t1 v1 h1 h2).old
      have hb2 := ((hb.same hsw).keep hc2 (fun b hb e => hb.1.2.2.2 e)).keep (S := fun k => k = d) (Chg.setCell (S := fun k => k = d) (Chg.refl _ w2) (p := ⟨d, 1, none⟩) (fun _ => rfl) v') (fun b hb e => hb.1.2.1 e)
      refine hb2.mono (fun b _ hb => ⟨.inl hb.1.1, hb.1.2.1, hb.1.2.2.1, fun e => ?_⟩)
      exact hb.1.2.2.2 ((hrow b e).2.2.2.1 hb.2)
    · have hkl : k = ts.length := by
        have h3 := (List.getElem?_eq_some_iff.1 h1).1
        simp at h3; omega
      subst hkl
      have e1 : t1 = t := by simpa using h1.symm
      have e2 : v1 = v := by rw [← h.vlen] at h2; simpa using h2.symm
      subst e1; subst e2
      have hvl := h.lt
      have hb2 := ((hv.same hsx).keep hc2 (fun b hb e => by have := h.lt b (h.row b e).1; omega)).keep (S := fun k => k = d) (Chg.setCell (S := fun k => k = d) (Chg.refl _ w2) (p := ⟨d, 1, none⟩) (fun _ => rfl) v') (fun b hb e => by subst e; have := h.lt b h.mine.1; omega)
      refine hb2.mono (fun b hbl hb => ⟨.inr ⟨hb.1, by simpa using hbl⟩, fun e => ?_, fun e => ?_, fun e => ?_⟩)
      · subst e; have := h.lt b h.mine.1; omega
      · subst e; have := h.lt b h.mine.2; omega
      · have h5 := (hrow b e).2.2.2.2 hb.1
        have := hsx.size
        omega
  · intro k hk
    rcases hk with hk | hk
    · have := h.lt k hk; simp; omega
    · simp; omega
  · intro k hk
    rcases hk with hk | hk
    · exact .inl hk
    · exact .inr ⟨hk.1, by simpa using hk.2⟩

/-- A write that may be: it waits. -/
def WritePost (w : World) (F : Nat → Prop) (d n : Nat) (s : List UInt8) (ts : List Wt) (e : Ending) (w' : World) : Prop := e = .returned (.int .i64 0) ∧ DvPost w w' F d n s ts

set_option maxHeartbeats 1600000 in
set_option maxRecDepth 100000 in
theorem dwrite_ok (d n k : Nat) (F G : Nat → Prop) (s p : List UInt8) (ts : List Wt) (v : Value) (w : World) (h : Dv w F d n s ts) (hk : k < n) (hp : p.length ≤ 32) (hb : Bs w G v p) (hm : ts.length ≤ 1000000) :
    Calls Try.prog 12 #[.pointer (some ⟨d, 0, none⟩), .int .i64 (k : Int), v] w (WritePost w F d n s (ts ++ [⟨k, p⟩])) := by
  obtain ⟨gs, vw, vs, hD⟩ := h
  obtain ⟨c0, c1, f0, f1⟩ := two_cells hD.blk
  obtain ⟨A, cap, hv, -, -⟩ := hD.lens
  subst hv
  obtain ⟨A2, cap2, hv2, -, -, -⟩ := id hb
  subst hv2
  obtain ⟨i0, hi, hz0, hz1, hz2⟩ := info_parts info_write
  have hk1 : (k : Int) < (n : Int) := by omega
  have hp1 : (p.length : Int) ≤ 32 := by omega
  have hdl := lt_of_block hD.blk
  have hp2 : p.length ≤ 140737488355328 := by omega
  go_enter Try.func12, Try.ntmps12
  go_wp2_with fail
  go_region_law (first | (refine step_app rfl _ _ 59 rfl 64 i0 _ 2 32 Try.underlying59 hi hz0 hz1 hz2 rfl (by omega) _ ts.length (tcells ts vs) (by rfl) (hown1.alloc _) _ 1 1 [.int .i64 (k : Int), .slice A1 p.length cp1] (by rfl) (by rfl) (two_new_cells _ _ _ _) (by simp [Value.oneCell']) (by omega) (by unfold maxLen; omega) ?_; intro A3 cp3 w2 hown2 hgr2 hat2; have q2 := (Chg.refl (fun _ => False) w1).alloc (.cells #[.int .i64 (k : Int), .slice A1 p.length cp1] 64); have q3 := Chg.of_grown (S := fun k => (Value.slice A ts.length cap).ownBlock = some k) hgr2 (fun k h => h); have k2 := q3.cell' (q2.cell' k1 (fun h => h)) (fun e => (hD.row d e).2.1 rfl); have f2 : w2.frozen? ⟨d, 1, none⟩ = false := (q3.frozen (p := ⟨d, 1, none⟩) (Nat.lt_of_lt_of_le hdl1 q2.size) (fun e => (hD.row d e).2.1 rfl)).trans ((q2.frozen (p := ⟨d, 1, none⟩) hdl1 (fun h => h)).trans f1')) | (go_simp; go_at_call 27; refine (clone_any _ p G _ hb.drew hp2).mono ?_; rintro _ w1 ⟨v1, rfl, R1⟩; obtain ⟨A1, cp1, hv1⟩ := R1.form; subst hv1; have q1 : Same w w1 := (Chg.refl _ w).drew.trans R1.2; have k1 := q1.cell' c1 (fun h => h); have f1' : w1.frozen? ⟨d, 1, none⟩ = false := (q1.frozen (p := ⟨d, 1, none⟩) hdl (fun h => h)).trans f1; have hdl1 : d < w1.heap.size := Nat.lt_of_lt_of_le hdl q1.size; have hown1 := ownsRow_keep hD.own q1 (fun _ _ h => h)))
  all_goals
    have hbs1 : Bs w1 (fun b => w.heap.size ≤ b ∧ b < w1.heap.size) (.slice A1 p.length cp1) p := Own.bs R1.1 (fun g hg => R1.1.lt hg)
    have R := hD.written (t := ⟨k, p⟩) q1 q2 hbs1 ⟨hk, hp⟩ hown2 hgr2 hat2
    clear hgr2 hown2 hat2 q1 q2 q3 R1
    go_wp2_with fail
    go_ret
    exact ⟨rfl, R⟩
end Go.Proofs.Ytnfmjbmcboiacaa
