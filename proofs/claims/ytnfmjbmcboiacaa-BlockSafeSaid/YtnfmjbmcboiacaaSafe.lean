/- The walk of carrierlaw03.BlockSafe: what was synced stays, but where something is written over it. -/
import Derived.Test.YtnfmjbmcboiacaaActs
import Derived.Deep.CutBlock
namespace Go.Proofs.Ytnfmjbmcboiacaa
open Go Go.RowKit Go.Proofs

theorem blk_crash {lost : List Bool} {torn : Int} {m n i : Nat} (hi : i < n) : ∀ (ts : List Wt) (k : Nat) (s : List UInt8), Fine n s ts → (∀ t ∈ ts, t.i ≠ i) → blk (crash lost torn m k s ts) i = blk s i := by
  intro ts
  induction ts with
  | nil => intro k s _ _; rfl
  | cons t ts ih =>
    intro k s h hne
    have h1 := h.2 t (by simp)
    have hk := kept_le lost torn m k t.p
    show blk (crash lost torn m (k + 1) (lay s (32 * t.i) (kept lost torn m k t.p)) ts) i = blk s i
    rw [ih _ _ ⟨by rw [lay_len (by rw [h.1]; omega)]; exact h.1, fun x hx => h.2 x (by simp [hx])⟩ (fun x hx => hne x (by simp [hx])), blk_lay h.1 hi h1.1 (by omega), if_neg (hne t (by simp))]

theorem Dv.mine_ {w : World} {F : Nat → Prop} {d n : Nat} {s : List UInt8} {ts : List Wt} (h : Dv w F d n s ts) : F d := by obtain ⟨_, _, _, h⟩ := h; exact h.mine.1
/-- Where the first loop stands. -/
def WritesAt (w0 wr : World) (d : Nat) (s0 : List UInt8) (j : Nat) : Prop := ∃ F ts, Made w0 wr F d 4 s0 ts ∧ ts.length ≤ j
/-- Where the second one stands: so many blocks were read, their bytes lie in the slices us; all this lies from block C on. -/
structure WasAt (w0 wr : World) (F : Nat → Prop) (d : Nat) (s1 : List UInt8) (C k : Nat) (vW : Value) (us : List Value) : Prop where
  dv : Made w0 wr F d 4 s1 []
  own : wr.ownsRow 0 25 1 vW us.length us
  len : us.length = k
  each : ∀ (i : Nat) (u : Value), us[i]? = some u → ∃ g, u = .slice (some ⟨g, 0, none⟩) 32 32 ∧ vW.ownBlock ≠ some g ∧ Bs wr (fun b => C ≤ b ∧ b = g) u (blk s1 i)
  new : ∀ g, vW.ownBlock = some g → C ≤ g
  low : ∀ g, F g → g < C
theorem WasAt.lens {w0 wr : World} {F : Nat → Prop} {d : Nat} {s1 : List UInt8} {C k : Nat} {vW : Value} {us : List Value} (h : WasAt w0 wr F d s1 C k vW us) : ∃ A cap, vW = .slice A us.length cap := by
  rcases h.own.2 with ⟨h1, h2⟩ | ⟨g, cap, cur, h1, _⟩
  · exact ⟨none, 0, by rw [h1, h2]⟩
  · exact ⟨_, _, h1⟩
theorem slice_one (g n c : Nat) : (Value.slice (some ⟨g, 0, none⟩) n c).oneCell' = true := rfl
theorem WasAt.add {w0 wr w1 w2 : World} {F : Nat → Prop} {d : Nat} {s1 : List UInt8} {C k : Nat} {vW vW' : Value} {us : List Value} {g : Nat} {o : Obj} (h : WasAt w0 wr F d s1 C k vW us) (hG : Got wr w1 (.slice (some ⟨g, 0, none⟩) 32 32) (blk s1 k)) (hC : C ≤ wr.heap.size)
    (ho : w2.ownsRow 0 25 1 vW' (us.length + 1) (us ++ [.slice (some ⟨g, 0, none⟩) 32 32])) (hg : (w1.alloc o).grownBy w2 vW.ownBlock) (hat : vW'.ownBlock = vW.ownBlock ∨ vW'.ownBlock = some (w1.alloc o).heap.size) :
    WasAt w0 w2 F d s1 C (k + 1) vW' (us ++ [.slice (some ⟨g, 0, none⟩) 32 32]) := by
  have hs1 := hG.sm
  have hsx : Same wr (w1.alloc o) := hs1.trans (Chg.alloc_ _ _ _)
  have hc2 : Chg (fun k => vW.ownBlock = some k) (w1.alloc o) w2 := Chg.of_grown hg (fun k h => h)
  have hlt := (h.dv.dv.lt)
  have hgw : wr.heap.size ≤ g ∧ g < w1.heap.size := by
    obtain ⟨g', hv, h1, h2, -, -⟩ := hG
    injection hv with hv; injection hv with hv; injection hv with hv _
    subst hv
    exact ⟨h1, lt_of_block h2⟩
  have hown : ∀ b, vW.ownBlock = some b → b < wr.heap.size := fun b hb => (World.ownsRow.lt h.own b hb).2
  have hz : (w1.alloc o).heap.size = w1.heap.size + 1 := by simp
  refine ⟨?_, ?_, ?_, ?_, ?_, h.low⟩
  · have hM := h.dv.keep hsx
    exact ⟨hM.dv.keep hc2 (fun b hb e => by have := h.new b e; have := h.low b hb; omega), hM.old, hM.same.since hc2 (fun b e => by have := h.new b e; have := h.low d h.dv.dv.mine_; have := h.dv.old d h.dv.dv.mine_; omega)⟩
  · rw [List.length_append]; exact ho
  · rw [List.length_append, h.len]; rfl
  · intro i u hi
    by_cases hlt : i < us.length
    · rw [List.getElem?_append_left hlt] at hi
      obtain ⟨g1, rfl, hne, hb⟩ := h.each i u hi
      have hg1 : g1 < wr.heap.size := by
        obtain ⟨A', c', hv', -, -, hx⟩ := hb
        injection hv' with e1 e2 _
        obtain ⟨b, o', hA, hbF, hc⟩ := hx (by omega)
        have e3 : b = g1 := hbF.2
        subst e3
        have hn : 0 < (blk s1 i).length := by omega
        exact cell_lt (hc 0 _ (List.getElem?_eq_getElem hn))
      refine ⟨g1, rfl, ?_, (hb.same hsx).keep hc2 (fun b hb e => hne (by rw [← hb.2]; exact e))⟩
      rcases hat with e | e
      · rw [e]; exact hne
      · rw [e, hz]; have := hs1.size; intro e; injection e with e; omega
    · have hil : i = us.length := by
        have := (List.getElem?_eq_some_iff.1 hi).1
        simp at this; omega
      subst hil
      have e1 : u = .slice (some ⟨g, 0, none⟩) 32 32 := by simpa using hi.symm
      subst e1
      have hb := hG.bs
      refine ⟨g, rfl, ?_, ?_⟩
      · rcases hat with e | e
        · rw [e]; intro e; have := hown g e; omega
        · rw [e, hz]; intro e; injection e with e; omega
      · rw [h.len]
        have hb1 : Bs w1 (fun b => C ≤ b ∧ b = g) (.slice (some ⟨g, 0, none⟩) 32 32) (blk s1 k) := by
          obtain ⟨A', c', hv', h1, h2, hx⟩ := hb
          refine ⟨A', c', hv', h1, h2, fun hp => ?_⟩
          obtain ⟨b, o', hA, hbF, hc⟩ := hx hp
          refine ⟨b, o', hA, ⟨Nat.le_trans hC hbF, ?_⟩, hc⟩
          injection hv' with e1 _ _
          rw [hA] at e1
          injection e1 with e1
          injection e1 with e1 _
          exact e1.symm
        exact (hb1.alloc o).keep hc2 (fun b hb e => by have := hown b e; have := hb.2; omega)
  · intro b hb
    rcases hat with e | e
    · rw [e] at hb; exact h.new b hb
    · rw [e, hz] at hb; injection hb with hb; have := hs1.size; omega
end Go.Proofs.Ytnfmjbmcboiacaa
