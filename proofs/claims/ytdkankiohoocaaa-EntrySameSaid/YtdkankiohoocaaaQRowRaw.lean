/- From the frame of a row to the words of the walks: a Raw that came in. -/
import Derived.Test.YtdkankiohoocaaaQRowWords
import Derived.Test.YtdkankiohoocaaaQLeA
import Derived.ChangeArms
import Derived.ChangeSame
import Derived.Deep.Slices
import Derived.Deep.Strs
import Derived.OpenShut
import Derived.WalkKit
import Derived.ProofKit
import Derived.ShutString
import Derived.ChangeOld
namespace Go.Proofs.Ytdkankiohoocaaa
set_option linter.unusedSimpArgs false
set_option linter.unusedVariables false
open Go Go.RowKit Go.ChangeShapes Go.WideShapes Go.ChangeAt

theorem bs_of_trod {H : Type} {enc : TypeId × Value → H} {W : World} {v : Value} {d : DataW H} {ps : List MemPlace} {fuel : Nat} (hf : DataW.trod enc Try.prog W 0 (fun _ => true) true fuel 22 [v] = some (d, ps)) :
    ∃ l : List UInt8, Bs W (fun k => k < W.heap.size) v l := by
  rcases open_ints Try.underlying22 Try.underlying5 (by kernel_rfl) hf with ⟨hcs, _⟩ | ⟨x, l, c, zs, hcs, _, hl, hm, hz, _, hcell, hwz⟩
  · simp at hcs
    subst hcs
    exact bs_of_row (zs := []) (.inl ⟨rfl, rfl, rfl, rfl⟩)
  · simp at hcs
    subst hcs
    exact bs_of_row (zs := zs) (.inr ⟨_, rfl, hl, hm, by simpa using hz, hcell, hwz⟩)

theorem ks_of_trod {H : Type} {enc : TypeId × Value → H} {W : World} {v : Value} {d : DataW H} {ps : List MemPlace} {fuel : Nat} (hf : DataW.trod enc Try.prog W 0 (fun _ => true) true fuel 23 [v] = some (d, ps)) :
    ∃ l : List Int, Sl W (fun k => k < W.heap.size) 1 v (l.map numCells) ∧ ∀ n ∈ l, i64I n := by
  rcases open_ints Try.underlying23 Try.underlying2 (by kernel_rfl) hf with ⟨hcs, _⟩ | ⟨x, l, c, zs, hcs, _, hl, hm, hz, _, hcell, hwz⟩
  · simp at hcs
    subst hcs
    exact ⟨[], Sl.nil_ _ _ _, by simp⟩
  · simp at hcs
    subst hcs
    have hz' : zs.length = c := by simpa using hz
    have hlen : ((zs.take l).map numCells).length = l := by rw [List.length_map, List.length_take]; omega
    refine ⟨zs.take l, ⟨some x, c, by rw [hlen], by omega, hm, fun h0 => ?_⟩, fun n hn => bounds_i64 (hwz n (List.mem_of_mem_take hn))⟩
    have hc0 := hcell 0 (by omega)
    obtain ⟨b, o, spot⟩ := x
    have hspot : spot = none := by simpa [Addr.add] using World.cell?_spot hc0
    subst hspot
    refine ⟨b, o, rfl, by simpa [Addr.add] using cell_lt hc0, fun i y j u hi hj => ?_⟩
    have hil : i < l := by have := (List.getElem?_eq_some_iff.1 hi).1; rwa [hlen] at this
    rw [List.getElem?_map, List.getElem?_take_of_lt hil, List.getElem?_eq_getElem (by omega)] at hi
    simp only [Option.map_some, Option.some.injEq] at hi
    subst hi
    have h1 := hcell i (by omega)
    rw [addr_add] at h1
    have e : zs.getD i 0 = zs[i] := by simp [List.getD, List.getElem?_eq_getElem (show i < zs.length by omega)]
    rw [e] at h1
    match j, hj with
    | 0, hj =>
      simp [numCells] at hj
      subst hj
      simpa using h1
    | j + 1, hj => simp [numCells] at hj

set_option maxRecDepth 100000 in
theorem raw_of_trod {H : Type} {enc : TypeId × Value → H} {W : World} {cs : Array Value} {d : DataW H} {ps : List MemPlace} (h : DataW.Trod enc Try.prog W 0 (fun _ => true) true 25 (.agg cs) d ps) :
    ∃ (r : RawD) (vo vk vg vs : Value), cs = rawCells r vo vk vg vs ∧ RawS W (fun k => k < W.heap.size) r vo vk vg vs := by
  obtain ⟨fuel, hf⟩ := h
  have c11 : Try.prog.cellsOf 25 = 11 := by kernel_rfl
  have ku : Try.prog.cellsOf 5 = 1 := by kernel_rfl
  have ki : Try.prog.cellsOf 2 = 1 := by kernel_rfl
  have ks : Try.prog.cellsOf 9 = 1 := by kernel_rfl
  have kb : Try.prog.cellsOf 22 = 1 := by kernel_rfl
  have kl : Try.prog.cellsOf 23 = 1 := by kernel_rfl
  obtain ⟨xs, n', _, hxe, hcl, hlen, hfl⟩ := DataW.trod_struct Try.underlying25 hf
  rw [c11] at hcl
  obtain ⟨l⟩ := cs
  simp only [Value.cells] at hcl hfl
  match l, hcl with
  | [v0, v1, v2, v3, v4, v5, v6, v7, v8, v9, v10], _ =>
    have hlen11 : xs.length = 11 := by simpa using hlen
    match xs, hlen11 with
    | [y0, y1, y2, y3, y4, y5, y6, y7, y8, y9, y10], _ =>
      have g0 := hfl 0 _ rfl
      have g1 := hfl 1 _ rfl
      have g2 := hfl 2 _ rfl
      have g3 := hfl 3 _ rfl
      have g4 := hfl 4 _ rfl
      have g5 := hfl 5 _ rfl
      have g6 := hfl 6 _ rfl
      have g7 := hfl 7 _ rfl
      have g8 := hfl 8 _ rfl
      have g9 := hfl 9 _ rfl
      have g10 := hfl 10 _ rfl
      simp [ku, ki, ks, kb, kl] at g0 g1 g2 g3 g4 g5 g6 g7 g8 g9 g10
      obtain ⟨k0, e0, -, w0⟩ := DataW.trod_int Try.underlying5 g0
      obtain ⟨k1, e1, -, w1⟩ := DataW.trod_int Try.underlying2 g1
      obtain ⟨k2, e2, -, w2⟩ := DataW.trod_int Try.underlying2 g2
      obtain ⟨k3, e3, -, w3⟩ := DataW.trod_int Try.underlying2 g3
      obtain ⟨k4, e4, -, -⟩ := DataW.trod_string Try.underlying9 g4
      obtain ⟨k5, e5, -, w5⟩ := DataW.trod_int Try.underlying5 g5
      obtain ⟨l6, h6⟩ := bs_of_trod (d := y6.1) (ps := y6.2) g6
      obtain ⟨l7, h7, i7⟩ := ks_of_trod (d := y7.1) (ps := y7.2) g7
      obtain ⟨k8, e8, -, -⟩ := DataW.trod_string Try.underlying9 g8
      obtain ⟨l9, h9⟩ := bs_of_trod (d := y9.1) (ps := y9.2) g9
      obtain ⟨l10, h10⟩ := bs_of_trod (d := y10.1) (ps := y10.2) g10
      simp at e0 e1 e2 e3 e4 e5 e8
      subst e0; subst e1; subst e2; subst e3; subst e4; subst e5; subst e8
      exact ⟨⟨k0, k1, k2, k3, k4, k5, l6, l7, k8, l9, l10⟩, v6, v7, v9, v10, rfl, ⟨h6, h7, h9, h10, bounds_u8 w0, bounds_u8 w5, bounds_i64 w1, bounds_i64 w2, bounds_i64 w3, i7⟩⟩
end Go.Proofs.Ytdkankiohoocaaa
