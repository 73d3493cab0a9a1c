/- The walks of carrierref03.Device: New, Put. -/
import Derived.Test.YtnfmjbmcboiacaaDevK
import Derived.Test.YtnfmjbmcboiacaaDevP
namespace Go.Proofs.Ytnfmjbmcboiacaa
open Go Go.RowKit Go.Proofs

/-- A carrierref03.Device behind a pointer to block d: the safe bytes s (the field vf); the writes ts that wait (the field vw, their bytes' slices vs). F: the blocks that are its own. -/
structure RvV (w : World) (F : Nat → Prop) (d : Nat) (vf vw : Value) (n : Nat) (s : List UInt8) (ts : List Wt) (vs : List Value) : Prop where
  blk : w.heap[d]? = some (.cells #[vf, vw] 54 (0, 0))
  safe : Bs w (fun b => F b ∧ b ≠ d ∧ vw.ownBlock ≠ some b) vf s
  fine : Fine n s ts
  few : n ≤ 4096
  own : w.ownsRow 0 68 2 vw ts.length (tcells ts vs)
  vlen : vs.length = ts.length
  each : ∀ (k : Nat) (t : Wt) (v : Value), ts[k]? = some t → vs[k]? = some v → Bs w (fun b => F b ∧ b ≠ d ∧ vw.ownBlock ≠ some b) v t.p
  mine : F d
  row : ∀ g, vw.ownBlock = some g → F g ∧ g ≠ d
  lt : Lt F w
def Rv (w : World) (F : Nat → Prop) (d n : Nat) (s : List UInt8) (ts : List Wt) : Prop := ∃ vf vw vs, RvV w F d vf vw n s ts vs
def RvPost (w w' : World) (F : Nat → Prop) (d n : Nat) (s : List UInt8) (ts : List Wt) : Prop := ∃ F', Rv w' F' d n s ts ∧ Chg F w w' ∧ New F F' w w'

theorem Rv.keep {w w' : World} {F S : Nat → Prop} {d n : Nat} {s : List UInt8} {ts : List Wt} (h : Rv w F d n s ts) (hc : Chg S w w') (hd : ∀ k, F k → ¬ S k) : Rv w' F d n s ts := by
  obtain ⟨vf, vw, vs, h⟩ := h
  exact ⟨vf, vw, vs, hc.at_ h.blk (hd d h.mine), h.safe.keep hc (fun b hb => hd b hb.1), h.fine, h.few, ownsRow_keep h.own hc (fun g hg => hd g (h.row g hg).1), h.vlen,
    fun k t v h1 h2 => (h.each k t v h1 h2).keep hc (fun b hb => hd b hb.1), h.mine, h.row, h.lt.mono hc.size⟩
theorem RvV.lens {w : World} {F : Nat → Prop} {d n : Nat} {vf vw : Value} {s : List UInt8} {ts : List Wt} {vs : List Value} (h : RvV w F d vf vw n s ts vs) : ∃ A cap, vw = .slice A ts.length cap ∧ cap ≤ 9223372036854775807 ∧ ts.length ≤ cap := by
  have hm : maxLen = 9223372036854775807 := by decide +kernel
  rcases h.own.2 with ⟨h1, h2⟩ | ⟨g, cap, cur, h1, _, _, h3, h4, _⟩
  · exact ⟨none, 0, by rw [h1, h2], by omega, by omega⟩
  · exact ⟨_, _, h1, by omega, h3⟩
theorem info_rwrite : (Try.prog.info? 68).map (fun i => (i.zero, i.size, i.bytes)) = some (some (.agg #[.int .i64 0, .slice none 0 0]), 2, 32) := by kernel_rfl
theorem made_noughts1 (n : Nat) : madeCells (Value.int .u8 0).cells n = (bvs (List.replicate n 0)).toArray := by
  apply Array.ext
  · simp [size_madeCells]
  · intro i h1 h2
    simp only [madeCells, bvs, Value.cells]
    simp [Nat.mod_one]
theorem run_mkB (k : Nat) (w : World) (hk : k ≤ 281474976710656) :
    (Instr.makeSlice 25 (.int .i64 (k : Int)) (.int .i64 (k : Int))).run Try.prog w = .ok (.slice (some ⟨w.heap.size, 0, none⟩) k k) (w.alloc (.cells (bvs (List.replicate k 0)).toArray 5)) := by
  obtain ⟨i0, hi, hz0, hz1, hz2⟩ := info_parts info_u8
  have hr := run_make (P := Try.prog) w 25 5 i0 (.int .u8 0) Try.underlying25 hi hz0 .i64 .i64 k k (by omega) (Int.le_refl _) (by rw [hz2]; omega) (by omega)
  simp only [Int.toNat_natCast] at hr
  rw [hz1, Nat.mul_one, made_noughts1] at hr
  exact hr

/-- What New leaves. -/
def RNewPost (n : Int) (w : World) (e : Ending) (w' : World) : Prop :=
  ∃ d F, e = .returned (.pointer (some ⟨d, 0, none⟩)) ∧ Rv w' F d (min (max n 0) 4096).toNat (List.replicate (32 * (min (max n 0) 4096).toNat) 0) [] ∧ Same w w' ∧ ∀ k, F k → w.heap.size ≤ k
theorem rnew_key (w : World) (m N : Nat) (hm : m ≤ 4096) (hN : N = 32 * m) :
    Rv ((w.alloc (.cells (bvs (List.replicate N 0)).toArray 5)).alloc (.cells #[.slice (some ⟨w.heap.size, 0, none⟩) N N, .slice none 0 0] 54)) (fun k => w.heap.size ≤ k ∧ k < w.heap.size + 2) (w.heap.size + 1) m (List.replicate (32 * m) 0) [] := by
  subst hN
  have h1 := heap_alloc_new (w.alloc (.cells (bvs (List.replicate (32 * m) 0)).toArray 5)) (.cells #[.slice (some ⟨w.heap.size, 0, none⟩) (32 * m) (32 * m), .slice none 0 0] 54)
  have hb := (bs_lit w 5 (bvs (List.replicate (32 * m) 0)).toArray (List.replicate (32 * m) 0) (32 * m) (by simp) (by unfold maxLen; omega) (by simp)).alloc (.cells #[.slice (some ⟨w.heap.size, 0, none⟩) (32 * m) (32 * m), .slice none 0 0] 54)
  exact ⟨_, _, [], by simpa using h1, hb.mono (fun k _ hk => ⟨⟨by omega, by omega⟩, by omega, by simp [Value.ownBlock]⟩), ⟨by simp, by simp⟩, hm, World.ownsRow_nil _ _ _ _, rfl, by simp, ⟨by omega, by omega⟩, by simp [Value.ownBlock], fun k hk => by simpa using hk.2⟩

set_option maxHeartbeats 400000 in
theorem rnew_any (n : Int) (h0 : -9223372036854775808 ≤ n) (h1 : n ≤ 9223372036854775807) (w : World) :
    Calls Try.prog 18 #[.int .i64 n] w (RNewPost n w) := by
  have hs : ∀ (o1 o2 : Obj), Same w ((w.alloc o1).alloc o2) := fun o1 o2 => (Chg.alloc_ _ _ _).alloc _
  have HS := Lib.hid hs
  clear hs
  by_cases hn : n < 0
  · have hm := fun w => run_mkB 0 w (by omega)
    obtain ⟨C, hC⟩ : ∃ C, C = (bvs (List.replicate 0 0)).toArray := ⟨_, rfl⟩
    rw [← hC] at hm
    have hK := rnew_key w 0 0 (by omega) (by omega)
    rw [← hC] at hK
    have HK := Lib.hid hK
    have HE : Hid ((min (max n 0) 4096).toNat = 0) := Lib.hid (by omega)
    clear hC hK
    have hm' : ∀ w, (Instr.makeSlice 25 (.int .i64 0) (.int .i64 0)).run Try.prog w = .ok (.slice (some ⟨w.heap.size, 0, none⟩) 0 0) (w.alloc (.cells C 5)) := hm
    clear hm
    go_enter Try.func18, Try.ntmps18
    go_wp2_with fail
    go_ret
    refine ⟨w.heap.size + 1, fun k => w.heap.size ≤ k ∧ k < w.heap.size + 2, rfl, ?_, HS.out _ _, fun k hk => hk.1⟩
    rw [HE.out]; exact HK.out
  · by_cases hn2 : n ≤ 4096
    · obtain ⟨m, rfl⟩ := Int.eq_ofNat_of_zero_le (show 0 ≤ n by omega)
      have hm4 : m ≤ 4096 := by omega
      obtain ⟨N, hN⟩ : ∃ N, N = 32 * m := ⟨_, rfl⟩
      have hm := fun w => run_mkB N w (by omega)
      obtain ⟨C, hC⟩ : ∃ C, C = (bvs (List.replicate N 0)).toArray := ⟨_, rfl⟩
      have hK := rnew_key w m N hm4 hN
      rw [← hC] at hm hK
      have HK := Lib.hid hK
      have HE : Hid ((min (max (m : Int) 0) 4096).toNat = m) := Lib.hid (by omega)
      have e32 : (32 : Int) * (m : Int) = (N : Int) := by omega
      have hm' : ∀ w, (Instr.makeSlice 25 (.int .i64 (32 * (m : Int))) (.int .i64 (32 * (m : Int)))).run Try.prog w = .ok (.slice (some ⟨w.heap.size, 0, none⟩) N N) (w.alloc (.cells C 5)) := fun w => by rw [e32]; exact hm w
      clear hC hK hm hN e32
      go_enter Try.func18, Try.ntmps18
      go_wp2_with fail
      go_ret
      refine ⟨w.heap.size + 1, fun k => w.heap.size ≤ k ∧ k < w.heap.size + 2, rfl, ?_, HS.out _ _, fun k hk => hk.1⟩
      rw [HE.out]; exact HK.out
    · obtain ⟨m, hm4⟩ : ∃ m : Nat, m = 4096 := ⟨_, rfl⟩
      obtain ⟨N, hN⟩ : ∃ N, N = 32 * m := ⟨_, rfl⟩
      have hm := fun w => run_mkB N w (by omega)
      obtain ⟨C, hC⟩ : ∃ C, C = (bvs (List.replicate N 0)).toArray := ⟨_, rfl⟩
      have hK := rnew_key w m N (by omega) hN
      rw [← hC] at hm hK
      have HK := Lib.hid hK
      have HE : Hid ((min (max n 0) 4096).toNat = m) := Lib.hid (by omega)
      have e32 : (32 : Int) * (m : Int) = (N : Int) := by omega
      have e40 := Lib.hid (show (4096 : Int) = (m : Int) by omega)
      have hm5 : (m : Int) ≤ 4096 := by omega
      have hm' : ∀ w, (Instr.makeSlice 25 (.int .i64 (32 * (m : Int))) (.int .i64 (32 * (m : Int)))).run Try.prog w = .ok (.slice (some ⟨w.heap.size, 0, none⟩) N N) (w.alloc (.cells C 5)) := fun w => by rw [e32]; exact hm w
      clear hC hK hm hN e32 hm4
      go_enter Try.func18, Try.ntmps18
      go_upto_region 5 with fail
      rw [e40.out]
      go_wp2_with fail
      go_ret
      refine ⟨w.heap.size + 1, fun k => w.heap.size ≤ k ∧ k < w.heap.size + 2, rfl, ?_, HS.out _ _, fun k hk => hk.1⟩
      rw [HE.out]; exact HK.out

/-- What the append of a write leaves. -/
theorem RvV.written {w w1 wx w2 : World} {F : Nat → Prop} {d n : Nat} {vf vw v' : Value} {s : List UInt8} {ts : List Wt} {vs : List Value} {t : Wt} {v : Value} (h : RvV w F d vf vw n s ts vs) (hs1 : Same w w1) (hsx : Same w1 wx)
    (hv : Bs w1 (fun k => w.heap.size ≤ k ∧ k < w1.heap.size) v t.p) (ht : t.i < n ∧ t.p.length ≤ 32)
    (ho : w2.ownsRow 0 68 2 v' (ts.length + 1) (tcells ts vs ++ [.int .i64 (t.i : Int), v])) (hg : wx.grownBy w2 vw.ownBlock) (hat : v'.ownBlock = vw.ownBlock ∨ v'.ownBlock = some wx.heap.size) :
    RvPost w (w2.setCell ⟨d, 1, none⟩ v') F d n s (ts ++ [t]) := by
  have hsw : Same w wx := hs1.trans hsx
  have hc2 : Chg (fun k => vw.ownBlock = some k) wx w2 := Chg.of_grown hg (fun k h => h)
  have hF2 : Chg F w w2 := (hsw.any F).trans (hc2.mono (fun k hk => (h.row k hk).1))
  have hF3 : Chg F w (w2.setCell ⟨d, 1, none⟩ v') := hF2.setCell (fun _ => h.mine) _
  have hdx := lt_of_block (hsw.at_ h.blk (fun h => h))
  have hrow : ∀ g, v'.ownBlock = some g → (F g ∨ (w.heap.size ≤ g ∧ g < w2.heap.size)) ∧ g ≠ d ∧ (g < w.heap.size → vw.ownBlock = some g) ∧ (w.heap.size ≤ g → wx.heap.size ≤ g) := by
    intro g hg'
    have hlt : g < w2.heap.size := (World.ownsRow.lt ho g hg').2
    rcases hat with e | e
    · rw [e] at hg'
      obtain ⟨r1, r2⟩ := h.row g hg'
      have := h.lt g r1
      exact ⟨.inl r1, r2, fun _ => hg', fun h => by omega⟩
    · rw [e] at hg'
      injection hg' with hg'
      subst hg'
      have := hsw.size
      exact ⟨.inr ⟨by omega, hlt⟩, by omega, fun h => by omega, fun _ => Nat.le_refl _⟩
  have hsz := hF2.size
  refine ⟨fun k => F k ∨ (w.heap.size ≤ k ∧ k < w2.heap.size), ⟨vf, v', vs ++ [v], ?_, ?_, ⟨h.fine.1, ?_⟩, h.few, ?_, by simp [h.vlen], ?_, .inl h.mine, fun g hg' => ⟨(hrow g hg').1, (hrow g hg').2.1⟩, ?_⟩, hF3, ?_⟩
  · exact two_set1 (hc2.at_ (hsw.at_ h.blk (fun h => h)) (fun e => (h.row d e).2 rfl))
  · have hb := h.safe.old
    have hb2 := ((hb.same hsw).keep hc2 (fun b hb e => hb.1.2.2 e)).keep (S := fun k => k = d) (Chg.setCell (S := fun k => k = d) (Chg.refl _ w2) (p := ⟨d, 1, none⟩) (fun _ => rfl) v') (fun b hb e => hb.1.2.1 e)
    refine hb2.mono (fun b _ hb => ⟨.inl hb.1.1, hb.1.2.1, fun e => ?_⟩)
    exact hb.1.2.2 ((hrow b e).2.2.1 hb.2)
  · intro x hx
    rcases List.mem_append.1 hx with hx | hx
    · exact h.fine.2 x hx
    · rw [List.mem_singleton.1 hx]; exact ht
  · rw [tcells_append _ _ _ _ h.vlen, List.length_append]
    exact ownsRow_setCell_other ho (fun e => (hrow d e).2.1 rfl) _
  · intro k t1 v1 h1 h2
    by_cases hk : k < ts.length
    · rw [List.getElem?_append_left hk] at h1
      rw [List.getElem?_append_left (by rw [h.vlen]; exact hk)] at h2
      have hb := (h.each k t1 v1 h1 h2).old
      have hb2 := ((hb.same hsw).keep hc2 (fun b hb e => hb.1.2.2 e)).keep (S := fun k => k = d) (Chg.setCell (S := fun k => k = d) (Chg.refl _ w2) (p := ⟨d, 1, none⟩) (fun _ => rfl) v') (fun b hb e => hb.1.2.1 e)
      refine hb2.mono (fun b _ hb => ⟨.inl hb.1.1, hb.1.2.1, fun e => ?_⟩)
      exact hb.1.2.2 ((hrow b e).2.2.1 hb.2)
    · have hkl : k = ts.length := by
        have h3 := (List.getElem?_eq_some_iff.1 h1).1
        simp at h3; omega
      subst hkl
      have e1 : t1 = t := by simpa using h1.symm
      have e2 : v1 = v := by rw [← h.vlen] at h2; simpa using h2.symm
      subst e1; subst e2
      have hvl := h.lt
      have hb2 := ((hv.same hsx).keep hc2 (fun b hb e => by have := h.lt b (h.row b e).1; omega)).keep (S := fun k => k = d) (Chg.setCell (S := fun k => k = d) (Chg.refl _ w2) (p := ⟨d, 1, none⟩) (fun _ => rfl) v') (fun b hb e => by subst e; have := h.lt b h.mine; omega)
      refine hb2.mono (fun b hbl hb => ⟨.inr ⟨hb.1, by simpa using hbl⟩, fun e => ?_, fun e => ?_⟩)
      · subst e; have := h.lt b h.mine; omega
      · have h5 := (hrow b e).2.2.2 hb.1
        have := hsx.size
        omega
  · intro k hk
    rcases hk with hk | hk
    · have := h.lt k hk; simp; omega
    · simp; omega
  · intro k hk
    rcases hk with hk | hk
    · exact .inl hk
    · exact .inr ⟨hk.1, by simpa using hk.2⟩

/-- A write that may be: it waits. -/
def RPutPost (w : World) (F : Nat → Prop) (d n : Nat) (s : List UInt8) (ts : List Wt) (e : Ending) (w' : World) : Prop := e = .returned (.int .i64 0) ∧ RvPost w w' F d n s ts

set_option maxHeartbeats 1600000 in
set_option maxRecDepth 100000 in
theorem rput_ok (d n k : Nat) (F G : Nat → Prop) (s p : List UInt8) (ts : List Wt) (v : Value) (w : World) (h : Rv w F d n s ts) (hk : k < n) (hp : p.length ≤ 32) (hb : Bs w G v p) (hm : ts.length ≤ 1000000) :
    Calls Try.prog 21 #[.pointer (some ⟨d, 0, none⟩), .int .i64 (k : Int), v] w (RPutPost w F d n s (ts ++ [⟨k, p⟩])) := by
  obtain ⟨vf, vw, vs, hD⟩ := h
  obtain ⟨c0, c1, f0, f1⟩ := two_cells hD.blk
  obtain ⟨A, cap, hv, -, -⟩ := hD.lens
  subst hv
  obtain ⟨A2, cap2, hv2, -, -, -⟩ := id hb
  subst hv2
  obtain ⟨AF, capF, hvF, hF1, hF2, -⟩ := id hD.safe
  subst hvF
  have hmx : maxLen = 9223372036854775807 := by decide +kernel
  have hsl : s.length = 32 * n := hD.fine.1
  have hn4 := hD.few
  have hn5 : (n : Int) ≤ 4096 := by omega
  have hq : ((s.length : Int)).tdiv 32 = (n : Int) := by rw [Int.tdiv_eq_ediv_of_nonneg (by omega)]; omega
  clear hF1 hF2 hmx hsl
  obtain ⟨i0, hi, hz0, hz1, hz2⟩ := info_parts info_rwrite
  have hk1 : (k : Int) < (n : Int) := by omega
  have hp1 : (p.length : Int) ≤ 32 := by omega
  have hdl := lt_of_block hD.blk
  have hp2 : p.length ≤ 140737488355328 := by omega
  go_enter Try.func21, Try.ntmps21
  go_wp2_with fail
  go_region_law (first | (refine step_app rfl _ _ 52 rfl 68 i0 _ 2 32 Try.underlying52 hi hz0 hz1 hz2 rfl (by omega) _ ts.length (tcells ts vs) (by rfl) (hown1.alloc _) _ 1 1 [.int .i64 (k : Int), .slice A1 p.length cp1] (by rfl) (by rfl) (two_new_cells _ _ _ _) (by simp [Value.oneCell']) (by omega) (by unfold maxLen; omega) ?_; intro A3 cp3 w2 hown2 hgr2 hat2; have q2 := (Chg.refl (fun _ => False) w1).alloc (.cells #[.int .i64 (k : Int), .slice A1 p.length cp1] 68); have q3 := Chg.of_grown (S := fun k => (Value.slice A ts.length cap).ownBlock = some k) hgr2 (fun k h => h); have k2 := q3.cell' (q2.cell' k1 (fun h => h)) (fun e => (hD.row d e).2 rfl); have f2 : w2.frozen? ⟨d, 1, none⟩ = false := (q3.frozen (p := ⟨d, 1, none⟩) (Nat.lt_of_lt_of_le hdl1 q2.size) (fun e => (hD.row d e).2 rfl)).trans ((q2.frozen (p := ⟨d, 1, none⟩) hdl1 (fun h => h)).trans f1')) | (go_simp; go_at_call 15; refine (join_nil _ p G _ hb.drew hp2).mono ?_; rintro _ w1 ⟨v1, rfl, R1⟩; obtain ⟨A1, cp1, hv1⟩ := R1.form; subst hv1; have q1 : Same w w1 := (Chg.refl _ w).drew.trans R1.2; have k1 := q1.cell' c1 (fun h => h); have f1' : w1.frozen? ⟨d, 1, none⟩ = false := (q1.frozen (p := ⟨d, 1, none⟩) hdl (fun h => h)).trans f1; have hdl1 : d < w1.heap.size := Nat.lt_of_lt_of_le hdl q1.size; have hown1 := ownsRow_keep hD.own q1 (fun _ _ h => h)))
  all_goals
    have hbs1 : Bs w1 (fun b => w.heap.size ≤ b ∧ b < w1.heap.size) (.slice A1 p.length cp1) p := Own.bs R1.1 (fun g hg => R1.1.lt hg)
    have R := hD.written (t := ⟨k, p⟩) q1 q2 hbs1 ⟨hk, hp⟩ hown2 hgr2 hat2
    clear hgr2 hown2 hat2 q1 q2 q3 R1
    go_wp2_with fail
    go_ret
    exact ⟨rfl, R⟩
end Go.Proofs.Ytnfmjbmcboiacaa
