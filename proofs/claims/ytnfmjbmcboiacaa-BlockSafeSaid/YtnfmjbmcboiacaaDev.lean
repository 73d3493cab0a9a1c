/- The walks of block.Device: New, Size, Waiting, Write. -/
import Derived.Test.YtnfmjbmcboiacaaBytes
import Derived.Test.YtnfmjbmcboiacaaDevSpec
import Derived.Deep.RegionHeld3
import Derived.Deep.MidRow
namespace Go.Proofs.Ytnfmjbmcboiacaa
open Go Go.RowKit Go.Proofs

/-- The cells of the writes that wait, whose bytes are the slices vs. -/
def tcells : List Wt → List Value → List Value
  | t :: ts, v :: vs => .int .i64 (t.i : Int) :: v :: tcells ts vs
  | _, _ => []
theorem tcells_len : ∀ (ts : List Wt) (vs : List Value), vs.length = ts.length → (tcells ts vs).length = ts.length * 2
  | [], _, _ => by simp [tcells]
  | t :: ts, [], h => by simp at h
  | t :: ts, v :: vs, h => by simp [tcells, tcells_len ts vs (by simpa using h)]; omega
theorem tcells_append : ∀ (ts : List Wt) (vs : List Value) (t : Wt) (v : Value), vs.length = ts.length → tcells (ts ++ [t]) (vs ++ [v]) = tcells ts vs ++ [.int .i64 (t.i : Int), v]
  | [], [], t, v, _ => rfl
  | [], _ :: _, t, v, h => by simp at h
  | _ :: _, [], t, v, h => by simp at h
  | a :: ts, b :: vs, t, v, h => by simp [tcells, tcells_append ts vs t v (by simpa using h)]
theorem tcells_get : ∀ (ts : List Wt) (vs : List Value) (k : Nat) (t : Wt) (v : Value), ts[k]? = some t → vs[k]? = some v → (tcells ts vs)[2 * k]? = some (.int .i64 (t.i : Int)) ∧ (tcells ts vs)[2 * k + 1]? = some v
  | [], _, k, t, v, h, _ => by simp at h
  | a :: ts, [], k, t, v, _, h => by simp at h
  | a :: ts, b :: vs, 0, t, v, h, h' => by simp at h h'; subst h; subst h'; simp [tcells]
  | a :: ts, b :: vs, k + 1, t, v, h, h' => by
    have := tcells_get ts vs k t v (by simpa using h) (by simpa using h')
    have e1 : 2 * (k + 1) = (2 * k + 1) + 1 := by omega
    have e2 : 2 * (k + 1) + 1 = (2 * k + 1 + 1) + 1 := by omega
    rw [e2, e1]
    simp only [tcells, List.getElem?_cons_succ]
    exact this
theorem tcells_one : ∀ (ts : List Wt) (vs : List Value), (∀ v ∈ vs, v.oneCell' = true) → ∀ u ∈ tcells ts vs, u.oneCell' = true
  | [], _, _, u, hu => by simp [tcells] at hu
  | _ :: _, [], _, u, hu => by simp [tcells] at hu
  | t :: ts, v :: vs, h, u, hu => by
    simp only [tcells, List.mem_cons] at hu
    rcases hu with rfl | rfl | hu
    · rfl
    · exact h _ (by simp)
    · exact tcells_one ts vs (fun x hx => h x (by simp [hx])) u hu

/-- A block.Device behind a pointer to block d: n blocks; the safe bytes s (in block gs); the writes ts that wait (the field vw, their bytes' slices vs). F: the blocks that are its own. -/
structure DvV (w : World) (F : Nat → Prop) (d gs : Nat) (vw : Value) (n : Nat) (s : List UInt8) (ts : List Wt) (vs : List Value) : Prop where
  blk : w.heap[d]? = some (.cells #[.slice (some ⟨gs, 0, none⟩) n n, vw] 61 (0, 0))
  safe : w.heap[gs]? = some (.cells (bvs s).toArray 66 (0, 0))
  fine : Fine n s ts
  few : n ≤ 4096
  own : w.ownsRow 0 64 2 vw ts.length (tcells ts vs)
  vlen : vs.length = ts.length
  each : ∀ (k : Nat) (t : Wt) (v : Value), ts[k]? = some t → vs[k]? = some v → Bs w (fun b => F b ∧ b ≠ d ∧ b ≠ gs ∧ vw.ownBlock ≠ some b) v t.p
  mine : F d ∧ F gs
  row : ∀ g, vw.ownBlock = some g → F g ∧ g ≠ d ∧ g ≠ gs
  ne : d ≠ gs
  lt : Lt F w
def Dv (w : World) (F : Nat → Prop) (d n : Nat) (s : List UInt8) (ts : List Wt) : Prop := ∃ gs vw vs, DvV w F d gs vw n s ts vs
def DvPost (w w' : World) (F : Nat → Prop) (d n : Nat) (s : List UInt8) (ts : List Wt) : Prop := ∃ F', Dv w' F' d n s ts ∧ Chg F w w' ∧ New F F' w w'

theorem ownsRow_keep {w w' : World} {S : Nat → Prop} {base : Nat} {e : TypeId} {size n : Nat} {v : Value} {xs : List Value} (h : w.ownsRow base e size v n xs) (hc : Chg S w w') (hS : ∀ g, v.ownBlock = some g → ¬ S g) : w'.ownsRow base e size v n xs := by
  obtain ⟨h1, h2⟩ := h
  refine ⟨h1, ?_⟩
  rcases h2 with h0 | ⟨g, cap, cur, rfl, hb, hg, r⟩
  · exact .inl h0
  · exact .inr ⟨g, cap, cur, rfl, hb, hc.at_ hg (hS g rfl), r⟩

theorem Dv.keep {w w' : World} {F S : Nat → Prop} {d n : Nat} {s : List UInt8} {ts : List Wt} (h : Dv w F d n s ts) (hc : Chg S w w') (hd : ∀ k, F k → ¬ S k) : Dv w' F d n s ts := by
  obtain ⟨gs, vw, vs, h⟩ := h
  exact ⟨gs, vw, vs, hc.at_ h.blk (hd d h.mine.1), hc.at_ h.safe (hd gs h.mine.2), h.fine, h.few, ownsRow_keep h.own hc (fun g hg => hd g (h.row g hg).1), h.vlen,
    fun k t v h1 h2 => (h.each k t v h1 h2).keep hc (fun b hb => hd b hb.1), h.mine, h.row, h.ne, h.lt.mono hc.size⟩

theorem two_cells {w : World} {b : Nat} {v u : Value} {t : TypeId} (h : w.heap[b]? = some (.cells #[v, u] t (0, 0))) :
    w.cell? ⟨b, 0, none⟩ = some v ∧ w.cell? ⟨b, 1, none⟩ = some u ∧ w.frozen? ⟨b, 0, none⟩ = false ∧ w.frozen? ⟨b, 1, none⟩ = false := by
  simp [World.cell?, World.frozen?, h]
theorem two_set0 {w : World} {b : Nat} {v u x : Value} {t : TypeId} (h : w.heap[b]? = some (.cells #[v, u] t (0, 0))) : (w.setCell ⟨b, 0, none⟩ x).heap[b]? = some (.cells #[x, u] t (0, 0)) := by
  simp [World.setCell, Array.getElem?_modify, h]
theorem two_set1 {w : World} {b : Nat} {v u x : Value} {t : TypeId} (h : w.heap[b]? = some (.cells #[v, u] t (0, 0))) : (w.setCell ⟨b, 1, none⟩ x).heap[b]? = some (.cells #[v, x] t (0, 0)) := by
  simp [World.setCell, Array.getElem?_modify, h]

theorem info_cell : (Try.prog.info? 66).map (fun i => (i.zero, i.size, i.bytes)) = some (some (.agg (Array.replicate 32 (.int .u8 0))), 32, 32) := by kernel_rfl
theorem info_write : (Try.prog.info? 64).map (fun i => (i.zero, i.size, i.bytes)) = some (some (.agg #[.int .i64 0, .slice none 0 0]), 2, 32) := by kernel_rfl

theorem made_noughts (n : Nat) : madeCells (Array.replicate 32 (Value.int .u8 0)) (n * 32) = (bvs (List.replicate (32 * n) 0)).toArray := by
  apply Array.ext
  · simp [size_madeCells]; omega
  · intro i h1 h2
    simp only [madeCells, bvs]
    simp
    have : i % 32 < 32 := Nat.mod_lt _ (by omega)
    simp [this]

/-- What New leaves. -/
def NewPost (n : Int) (w : World) (e : Ending) (w' : World) : Prop :=
  ∃ d F, e = .returned (.pointer (some ⟨d, 0, none⟩)) ∧ Dv w' F d (min (max n 0) 4096).toNat (List.replicate (32 * (min (max n 0) 4096).toNat) 0) [] ∧ Same w w' ∧ ∀ k, F k → w.heap.size ≤ k

set_option maxHeartbeats 400000 in
theorem dnew_any (n : Int) (h0 : -9223372036854775808 ≤ n) (h1 : n ≤ 9223372036854775807) (w : World) :
    Calls Try.prog 11 #[.int .i64 n] w (NewPost n w) := by
  obtain ⟨i0, hi, hz0, hz1, hz2⟩ := info_parts info_cell
  have hmk : ∀ (k : Nat) (w : World), k ≤ 4096 → (Instr.makeSlice 58 (.int .i64 (k : Int)) (.int .i64 (k : Int))).run Try.prog w = .ok (.slice (some ⟨w.heap.size, 0, none⟩) k k) (w.alloc (.cells (bvs (List.replicate (32 * k) 0)).toArray 66)) := by
    intro k w hk
    have hr := run_make (P := Try.prog) w 58 66 i0 (.agg (Array.replicate 32 (.int .u8 0))) Try.underlying58 hi hz0 .i64 .i64 k k (by omega) (Int.le_refl _) (by rw [hz2]; omega) (by omega)
    simp only [Int.toNat_natCast] at hr
    rw [hz1] at hr
    rw [hr, ← made_noughts]
    rfl
  have key : ∀ m : Nat, m ≤ 4096 → (min (max n 0) 4096).toNat = m →
      Dv ((w.alloc (.cells (bvs (List.replicate (32 * m) 0)).toArray 66)).alloc (.cells #[.slice (some ⟨w.heap.size, 0, none⟩) m m, .slice none 0 0] 61)) (fun k => w.heap.size ≤ k ∧ k < w.heap.size + 2) (w.heap.size + 1) (min (max n 0) 4096).toNat (List.replicate (32 * (min (max n 0) 4096).toNat) 0) [] := by
    intro m hm hmn
    rw [hmn]
    have h1 := heap_alloc_new (w.alloc (.cells (bvs (List.replicate (32 * m) 0)).toArray 66)) (.cells #[.slice (some ⟨w.heap.size, 0, none⟩) m m, .slice none 0 0] 61)
    have h2 : ((w.alloc (.cells (bvs (List.replicate (32 * m) 0)).toArray 66)).alloc (.cells #[.slice (some ⟨w.heap.size, 0, none⟩) m m, .slice none 0 0] 61)).heap[w.heap.size]? = some (.cells (bvs (List.replicate (32 * m) 0)).toArray 66 (0, 0)) := by
      rw [Below.heap_alloc _ _ _ (by simp)]; exact heap_alloc_new w _
    exact ⟨w.heap.size, .slice none 0 0, [], by simpa using h1, h2, ⟨by simp, by simp⟩, hm, World.ownsRow_nil _ _ _ _, rfl, by simp, ⟨by omega, by omega⟩, by simp [Value.ownBlock], by omega, fun k hk => by simpa using hk.2⟩
  have HK := Lib.hid key
  have hs : ∀ m : Nat, Same w ((w.alloc (.cells (bvs (List.replicate (32 * m) 0)).toArray 66)).alloc (.cells #[.slice (some ⟨w.heap.size, 0, none⟩) m m, .slice none 0 0] 61)) := fun m => (Chg.alloc_ _ _ _).alloc _
  have HS := Lib.hid hs
  clear key hs hi hz0 hz1 hz2
  by_cases hn : n < 0
  · skip
    obtain ⟨C, hC⟩ : ∃ C, C = (bvs (List.replicate (32 * 0) 0)).toArray := ⟨_, rfl⟩
    have hm : ∀ w, (Instr.makeSlice 58 (.int .i64 0) (.int .i64 0)).run Try.prog w = .ok (.slice (some ⟨w.heap.size, 0, none⟩) 0 0) (w.alloc (.cells C 66)) := fun w => by rw [hC]; exact hmk 0 w (by omega)
    have HC := Lib.hid hC
    clear hmk hC
    go_enter Try.func11, Try.ntmps11
    go_wp2_with fail
    go_ret
    rw [HC.out]
    exact ⟨w.heap.size + 1, _, rfl, HK.out 0 (by omega) (by omega), HS.out 0, fun k hk => hk.1⟩
  · by_cases hn2 : n ≤ 4096
    · obtain ⟨m, rfl⟩ := Int.eq_ofNat_of_zero_le (show 0 ≤ n by omega)
      have hm4 : m ≤ 4096 := by omega
      obtain ⟨C, hC⟩ : ∃ C, C = (bvs (List.replicate (32 * m) 0)).toArray := ⟨_, rfl⟩
      have hm : ∀ w, (Instr.makeSlice 58 (.int .i64 (m : Int)) (.int .i64 (m : Int))).run Try.prog w = .ok (.slice (some ⟨w.heap.size, 0, none⟩) m m) (w.alloc (.cells C 66)) := fun w => by rw [hC]; exact hmk m w (by omega)
      have HC := Lib.hid hC
      clear hmk hC
      go_enter Try.func11, Try.ntmps11
      go_wp2_with fail
      go_ret
      rw [HC.out]
      exact ⟨w.heap.size + 1, _, rfl, HK.out m (by omega) (by omega), HS.out m, fun k hk => hk.1⟩
    · skip
      obtain ⟨C, hC⟩ : ∃ C, C = (bvs (List.replicate (32 * 4096) 0)).toArray := ⟨_, rfl⟩
      have hm : ∀ w, (Instr.makeSlice 58 (.int .i64 4096) (.int .i64 4096)).run Try.prog w = .ok (.slice (some ⟨w.heap.size, 0, none⟩) 4096 4096) (w.alloc (.cells C 66)) := fun w => by rw [hC]; exact hmk 4096 w (by omega)
      have HC := Lib.hid hC
      clear hmk hC
      go_enter Try.func11, Try.ntmps11
      go_wp2_with fail
      go_ret
      rw [HC.out]
      exact ⟨w.heap.size + 1, _, rfl, HK.out 4096 (by omega) (by omega), HS.out 4096, fun k hk => hk.1⟩
end Go.Proofs.Ytnfmjbmcboiacaa
