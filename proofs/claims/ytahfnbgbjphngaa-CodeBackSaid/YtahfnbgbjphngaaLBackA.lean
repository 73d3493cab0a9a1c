/- Items that came in; carrierlaw02.small. -/
import Derived.Test.YtahfnbgbjphngaaLReads
import Derived.Test.YtahfnbgbjphngaaBack
namespace Go.Proofs.Ytahfnbgbjphngaa
open Go Go.RowKit Go.Proofs

/-- A number, or a text. -/
structure It where
  kind : Int
  n : Int
  s : ByteArray
/-- The slice value v reads as these items. -/
def Its (w : World) (v : Value) (l : List It) : Prop :=
  ∃ A c, v = .slice A l.length c ∧ l.length ≤ c ∧ c ≤ 9223372036854775807 ∧ (∀ x ∈ l, 0 ≤ x.kind ∧ x.kind ≤ 255 ∧ 0 ≤ x.n ∧ x.n ≤ 18446744073709551615) ∧
    (0 < l.length → ∃ b o, A = some ⟨b, o, none⟩ ∧ ∀ i x, l[i]? = some x → w.cell? ⟨b, o + i * 3, none⟩ = some (.int .u8 x.kind) ∧ w.cell? ⟨b, o + i * 3 + 1, none⟩ = some (.int .u64 x.n) ∧ w.cell? ⟨b, o + i * 3 + 2, none⟩ = some (.string x.s))
theorem Its.same {w w' : World} {v : Value} {l : List It} (h : Its w v l) (hs : Same w w') : Its w' v l := by
  obtain ⟨A, c, rfl, h1, h2, h3, h4⟩ := h
  refine ⟨A, c, rfl, h1, h2, h3, fun h0 => ?_⟩
  obtain ⟨b, o, hA, hx⟩ := h4 h0
  exact ⟨b, o, hA, fun i x hi => ⟨hs.cell' (hx i x hi).1 (fun h => h), hs.cell' (hx i x hi).2.1 (fun h => h), hs.cell' (hx i x hi).2.2 (fun h => h)⟩⟩
/-- The k-th item's cells. -/
theorem Its.item {w : World} {v : Value} {l : List It} (h : Its w v l) {k : Nat} (hk : k < l.length) :
    ∃ b o c, v = .slice (some ⟨b, o, none⟩) l.length c ∧ l.length ≤ c ∧ c ≤ 9223372036854775807 ∧ w.cell? ⟨b, o + k * 3, none⟩ = some (.int .u8 l[k].kind) ∧ w.cell? ⟨b, o + k * 3 + 1, none⟩ = some (.int .u64 l[k].n) ∧ w.cell? ⟨b, o + k * 3 + 2, none⟩ = some (.string l[k].s) ∧
      0 ≤ l[k].kind ∧ l[k].kind ≤ 255 ∧ 0 ≤ l[k].n ∧ l[k].n ≤ 18446744073709551615 := by
  obtain ⟨A, c, rfl, h1, h2, h3, h4⟩ := h
  obtain ⟨b, o, rfl, hx⟩ := h4 (by omega)
  obtain ⟨x1, x2, x3⟩ := hx k l[k] (List.getElem?_eq_getElem hk)
  obtain ⟨y1, y2, y3, y4⟩ := h3 l[k] (List.getElem_mem hk)
  exact ⟨b, o, c, rfl, h1, h2, x1, x2, x3, y1, y2, y3, y4⟩

def SmallL (l : List It) : Prop := (∀ k (h : k < l.length), l[k].s.size ≤ 60) ∧ l.length ≤ 30
/-- What small answers. -/
def SmallPost (l : List It) (w : World) (en : Ending) (w' : World) : Prop := ∃ a : Bool, en = .returned (.bool a) ∧ (a = true ↔ SmallL l) ∧ w = w'

set_option maxHeartbeats 1600000 in
theorem small_any (v : Value) (l : List It) (w : World) (h : Its w v l) :
    Calls Try.prog 27 #[v] w (SmallPost l w) := by
  obtain ⟨A, c, hv, hlc, hcm, -, -⟩ := id h
  subst hv
  go_enter Try.func27, Try.ntmps27
  go_wp2_with fail
  go_loopg [3] l.length (fun gk i wr => ∃ k : Nat, i = .int .i64 k ∧ k + gk = l.length ∧ (∀ j (hj : j < l.length), j < k → l[j].s.size ≤ 60) ∧ w = wr)
  case atStart => exact ⟨0, rfl, by omega, fun j _ hj => absurd hj (by omega), rfl⟩
  case round =>
    obtain ⟨k, rfl, hk, hall, rfl⟩ := hrel
    by_cases hg : 0 < gk
    · have hkl : k < l.length := by omega
      have hk1 : (k : Int) < (l.length : Int) := by omega
      obtain ⟨b, o, c', hv, -, -, x1, x2, x3, y1, y2, y3, y4⟩ := h.item hkl
      injection hv with e1 e2 e3
      subst e1; subst e3
      have HALL := Lib.hid hall
      clear hall x1 x2 y1 y2 y3 y4 e2
      obtain ⟨sk, hsk⟩ : ∃ s, Hid (l[k].s = s) := ⟨_, Lib.hid rfl⟩
      rw [hsk.out] at x3
      by_cases hz : sk.size ≤ 60
      · have hz' : (sk.size : Int) ≤ 60 := by omega
        go_wp2_with fail
        go_roundg (gk - 1)
        case measure => omega
        case rel =>
          refine ⟨k + 1, by go_num, by omega, fun j hj hjk => ?_, rfl⟩
          by_cases hje : j = k
          · subst hje
            have h1 := hsk.out
            rw [h1]; exact hz
          · exact HALL.out j hj (by omega)
      · have hz' : (60 : Int) < (sk.size : Int) := by omega
        go_wp2_with fail
        go_ret
        refine ⟨false, rfl, ⟨fun h => (by cases h), fun hs => ?_⟩, rfl⟩
        have h1 := hs.1 k hkl
        rw [hsk.out] at h1
        exact absurd h1 hz
    · have hk1 : (l.length : Int) ≤ (k : Int) := by omega
      have HALL := Lib.hid hall
      clear hall
      go_wp2_with fail
      go_ret
      refine ⟨_, rfl, ?_, rfl⟩
      rw [decide_eq_true_iff]
      exact ⟨fun h30 => ⟨fun j hj => HALL.out j hj (by omega), by omega⟩, fun hs => by have := hs.2; omega⟩
end Go.Proofs.Ytahfnbgbjphngaa
