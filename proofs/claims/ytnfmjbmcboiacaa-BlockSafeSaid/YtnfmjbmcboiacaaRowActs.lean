/- From the frame of a row to the words of the walks: a slice of bytes, of bools, of acts that came in. -/
import Derived.Test.YtnfmjbmcboiacaaRowWords
import Derived.Test.YtnfmjbmcboiacaaActs
import Derived.ChangeArms
import Derived.Deep.Slices
import Derived.Deep.Strs
import Derived.OpenShut
import Derived.WalkKit
import Derived.ProofKit
import Derived.ShutString
import Derived.ChangeOld
namespace Go.Proofs.Ytnfmjbmcboiacaa
open Go Go.RowKit Go.ChangeShapes Go.WideShapes Go.ChangeAt

theorem bs_of_trod {H : Type} {enc : TypeId × Value → H} {W : World} {v : Value} {d : DataW H} {ps : List MemPlace} {fuel : Nat} (hf : DataW.trod enc Try.prog W 0 (fun _ => true) true fuel 25 [v] = some (d, ps)) :
    ∃ l : List UInt8, Bs W (fun k => k < W.heap.size) v l := by
  rcases open_ints Try.underlying25 Try.underlying5 (by kernel_rfl) hf with ⟨hcs, _⟩ | ⟨x, l, c, zs, hcs, _, hl, hm, hz, _, hcell, hwz⟩
  · simp at hcs
    subst hcs
    exact bs_of_row (zs := []) (.inl ⟨rfl, rfl, rfl, rfl⟩)
  · simp at hcs
    subst hcs
    exact bs_of_row (zs := zs) (.inr ⟨_, rfl, hl, hm, by simpa using hz, hcell, hwz⟩)

theorem bl_of_trod {H : Type} {enc : TypeId × Value → H} {W : World} {v : Value} {d : DataW H} {ps : List MemPlace} {fuel : Nat} (hf : DataW.trod enc Try.prog W 0 (fun _ => true) true fuel 29 [v] = some (d, ps)) :
    ∃ l : List Bool, Bl W (fun k => k < W.heap.size) v l := by
  rcases Go.Deep.open_slice1 Try.underlying29 (by kernel_rfl) hf with ⟨hcs, _⟩ | ⟨a, len, cap, m, n, V, D, Pl, hcs, _, hl, hm, hmm, _, hx⟩
  · simp at hcs
    subst hcs
    exact ⟨[], Bl.nil_ _ _⟩
  · simp at hcs
    subst hcs
    simp only [if_true] at hmm
    subst hmm
    have hit : ∀ i, i < m → ∃ b : Bool, W.cell? (a.add i) = some (.bool b) := fun i hi => by
      obtain ⟨h1, h2⟩ := hx i hi
      obtain ⟨b, hb, -⟩ := DataW.trod_bool Try.underlying4 h2
      simp at hb
      exact ⟨b, by rw [h1, hb]⟩
    rcases Nat.eq_zero_or_pos len with rfl | hpos
    · exact ⟨[], some a, m, rfl, Nat.zero_le _, hm, fun h => absurd h (by simp)⟩
    obtain ⟨x0, hx0⟩ := hit 0 (by omega)
    obtain ⟨b, o, spot⟩ := a
    have hspot : spot = none := by simpa [Addr.add] using World.cell?_spot hx0
    subst hspot
    have hch : ∃ f : Nat → Bool, ∀ i, i < m → W.cell? ((⟨b, o, none⟩ : Addr).add i) = some (.bool (f i)) := by
      classical
      refine ⟨fun i => if h : i < m then Classical.choose (hit i h) else false, fun i hi => ?_⟩
      simp only [hi, dif_pos]
      exact Classical.choose_spec (hit i hi)
    obtain ⟨f, hfi⟩ := hch
    refine ⟨(List.range len).map f, some ⟨b, o, none⟩, m, by simp, by simpa using hl, hm, fun _ => ⟨b, o, rfl, by simpa [Addr.add] using cell_lt hx0, fun i x hi => ?_⟩⟩
    have hil : i < len := by have := (List.getElem?_eq_some_iff.1 hi).1; simpa using this
    have e : x = f i := by
      rw [List.getElem?_map, List.getElem?_range hil] at hi
      simpa using hi.symm
    subst e
    have := hfi i (by omega)
    rwa [addr_add] at this

theorem acts_of_trod {H : Type} {enc : TypeId × Value → H} {W : World} {v : Value} {d : DataW H} {ps : List MemPlace} {fuel : Nat} (hf : DataW.trod enc Try.prog W 0 (fun _ => true) true fuel 44 [v] = some (d, ps)) :
    ∃ l : List ActD, Acts W (fun k => k < W.heap.size) v l := by
  have hmx : maxLen = 9223372036854775807 := by decide +kernel
  rcases Go.Deep.open_slice Try.underlying44 hf with ⟨hcs, _⟩ | ⟨a, len, cap, m, n, D, Pl, hcs, _, hl, hm, hmm, _, hx⟩
  · simp at hcs
    subst hcs
    exact ⟨[], none, 0, rfl, Nat.le_refl _, by omega, fun x hx => by (cases hx), fun h => absurd h (by simp)⟩
  · simp at hcs
    subst hcs
    simp only [if_true] at hmm
    subst hmm
    have c5 : Try.prog.cellsOf 47 = 5 := by kernel_rfl
    have ku : Try.prog.cellsOf 5 = 1 := by kernel_rfl
    have ki : Try.prog.cellsOf 3 = 1 := by kernel_rfl
    have kb : Try.prog.cellsOf 25 = 1 := by kernel_rfl
    have kl : Try.prog.cellsOf 29 = 1 := by kernel_rfl
    have hit : ∀ i, i < m → ∃ x : ActD, x.ok ∧ ∃ vp vl, W.cell? (a.add (i * 5)) = some (.int .u8 x.what) ∧ W.cell? ((a.add (i * 5)).add 1) = some (.int .i64 x.i) ∧ W.cell? ((a.add (i * 5)).add 2) = some vp ∧ W.cell? ((a.add (i * 5)).add 3) = some vl ∧ W.cell? ((a.add (i * 5)).add 4) = some (.int .i64 x.torn) ∧ Bs W (fun k => k < W.heap.size) vp x.p ∧ Bl W (fun k => k < W.heap.size) vl x.lost := by
      intro i hi
      obtain ⟨cs', h1, h2⟩ := hx i hi
      rw [c5] at h1
      obtain ⟨_, h4, h5⟩ := World.cells?_some h1
      obtain ⟨xs, n', _, hxe, _, hlen, hfl⟩ := DataW.trod_struct Try.underlying47 h2
      match cs', h4 with
      | [v0, v1, v2, v3, v4], _ =>
        have hlen5 : xs.length = 5 := by simpa using hlen
        match xs, hlen5 with
        | [y0, y1, y2, y3, y4], _ =>
          have g0 := hfl 0 _ rfl
          have g1 := hfl 1 _ rfl
          have g2 := hfl 2 _ rfl
          have g3 := hfl 3 _ rfl
          have g4 := hfl 4 _ rfl
          simp [ku, ki, kb, kl] at g0 g1 g2 g3 g4
          obtain ⟨k0, e0, -, w0⟩ := DataW.trod_int Try.underlying5 g0
          obtain ⟨k1, e1, -, w1⟩ := DataW.trod_int Try.underlying3 g1
          obtain ⟨p, hp⟩ := bs_of_trod (d := y2.1) (ps := y2.2) g2
          obtain ⟨lo, hlo⟩ := bl_of_trod (d := y3.1) (ps := y3.2) g3
          obtain ⟨k4, e4, -, w4⟩ := DataW.trod_int Try.underlying3 g4
          simp at e0 e1 e4
          subst e0; subst e1; subst e4
          have q0 := h5 0 (by omega)
          have q1 := h5 1 (by omega)
          have q2 := h5 2 (by omega)
          have q3 := h5 3 (by omega)
          have q4 := h5 4 (by omega)
          obtain ⟨b0, b0'⟩ := bounds_u8 w0
          obtain ⟨b1, b1'⟩ := bounds_i64 w1
          obtain ⟨b4, b4'⟩ := bounds_i64 w4
          exact ⟨⟨k0, k1, p, lo, k4⟩, ⟨b0, b0', b1, b1', b4, b4'⟩, v2, v3, by simpa [Addr.add] using q0, q1, q2, q3, q4, hp, hlo⟩
    rcases Nat.eq_zero_or_pos len with rfl | hpos
    · exact ⟨[], some a, m, rfl, Nat.zero_le _, by omega, fun x hx => by (cases hx), fun h => absurd h (by simp)⟩
    obtain ⟨x0, -, _, _, hx0, -⟩ := hit 0 (by omega)
    obtain ⟨b, o, spot⟩ := a
    have hspot : spot = none := by simpa [Addr.add] using World.cell?_spot hx0
    subst hspot
    have hit2 : ∀ i, i < m → ∃ x : ActD, x.ok ∧ ActAt W (fun k => k < W.heap.size) b (o + i * 5) x := fun i hi => by
      obtain ⟨x, z1, vp, vl, z2, z3, z4, z5, z6, z7, z8⟩ := hit i hi
      simp only [addr_add] at z2 z3 z4 z5 z6
      exact ⟨x, z1, vp, vl, z2, z3, z4, z5, z6, z7, z8⟩
    have hch : ∃ f : Nat → ActD, ∀ i, i < m → (f i).ok ∧ ActAt W (fun k => k < W.heap.size) b (o + i * 5) (f i) := by
      classical
      refine ⟨fun i => if h : i < m then Classical.choose (hit2 i h) else ⟨0, 0, [], [], 0⟩, fun i hi => ?_⟩
      simp only [hi, dif_pos]
      exact Classical.choose_spec (hit2 i hi)
    obtain ⟨f, hfi⟩ := hch
    refine ⟨(List.range len).map f, some ⟨b, o, none⟩, m, by simp, by simpa using hl, by omega, fun x hx => ?_, fun _ => ⟨b, o, rfl, by simpa [Addr.add] using cell_lt hx0, fun i x hi => ?_⟩⟩
    · obtain ⟨i, hi, rfl⟩ := List.mem_map.1 hx
      exact (hfi i (by have := List.mem_range.1 hi; omega)).1
    · have hil : i < len := by have := (List.getElem?_eq_some_iff.1 hi).1; simpa using this
      have e : x = f i := by
        rw [List.getElem?_map, List.getElem?_range hil] at hi
        simpa using hi.symm
      subst e
      exact (hfi i (by omega)).2
end Go.Proofs.Ytnfmjbmcboiacaa
