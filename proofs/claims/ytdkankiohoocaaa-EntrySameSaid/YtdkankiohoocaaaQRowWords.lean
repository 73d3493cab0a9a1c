/- From the frame of a row to the words of the walks: a slice of bytes that came in; a byte. -/
import Derived.Test.YtdkankiohoocaaaQBase
import Derived.OpenShut
namespace Go.Proofs.Ytdkankiohoocaaa
set_option linter.unusedSimpArgs false
set_option linter.unusedVariables false
open Go Go.RowKit

theorem byte_of {n : Int} (h : (Lit.int .u8 n).wf = true) : ∃ b : UInt8, n = (b.toNat : Int) := by
  obtain ⟨h0, h1⟩ := bounds_u8 h
  refine ⟨UInt8.ofNat n.toNat, ?_⟩
  rw [UInt8.toNat_ofNat']; omega

/-- The bytes of a list of numbers. -/
def u8s (zs : List Int) : List UInt8 := zs.map fun z => UInt8.ofNat z.toNat

theorem bs_of_row {w : World} {a : Option Addr} {len cap : Nat} {zs : List Int}
    (h : (a = none ∧ len = 0 ∧ cap = 0 ∧ zs = []) ∨ ∃ x, a = some x ∧ len ≤ cap ∧ cap ≤ maxLen ∧ zs.length = cap ∧ (∀ i, i < zs.length → w.cell? (x.add i) = some (.int .u8 (zs.getD i 0))) ∧ ∀ n ∈ zs, (Lit.int .u8 n).wf = true) :
    ∃ l : List UInt8, Bs w (fun k => k < w.heap.size) (.slice a len cap) l := by
  rcases h with ⟨rfl, rfl, rfl, rfl⟩ | ⟨x, rfl, hl, hm, hz, hc, hw⟩
  · exact ⟨[], Bs.nil_ _ _⟩
  · have hlen : (u8s (zs.take len)).length = len := by rw [u8s, List.length_map, List.length_take]; omega
    refine ⟨u8s (zs.take len), _, cap, by rw [hlen], by omega, hm, fun h0 => ?_⟩
    have h0' : 0 < zs.length := by omega
    have hc0 := hc 0 h0'
    obtain ⟨b, o, spot⟩ := x
    have hspot : spot = none := by simpa [Addr.add] using World.cell?_spot hc0
    subst hspot
    have hadd : ∀ i, (⟨b, o, none⟩ : Addr).add i = ⟨b, o + i, none⟩ := fun i => by unfold Addr.add; split <;> simp_all
    refine ⟨b, o, rfl, by simpa [Addr.add] using cell_lt hc0, fun i y hi => ?_⟩
    have hil : i < (u8s (zs.take len)).length := (List.getElem?_eq_some_iff.1 hi).1
    rw [hlen] at hil
    have hiz : i < zs.length := by omega
    have := hc i hiz
    rw [hadd] at this
    rw [this]
    obtain ⟨h1, h2⟩ := bounds_u8 (hw zs[i] (List.getElem_mem hiz))
    have e : zs.getD i 0 = zs[i] := by simp [List.getD, List.getElem?_eq_getElem hiz]
    rw [e]
    have e2 : y = UInt8.ofNat zs[i].toNat := by
      simp only [u8s, List.getElem?_map, List.getElem?_take, if_pos hil, List.getElem?_eq_getElem hiz, Option.map_some, Option.some.injEq] at hi
      exact hi.symm
    rw [e2, UInt8.toNat_ofNat']
    congr 2
    omega
end Go.Proofs.Ytdkankiohoocaaa
