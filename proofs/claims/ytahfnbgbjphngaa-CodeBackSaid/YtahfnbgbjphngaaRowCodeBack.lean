/- carrierlaw02.CodeBack, called with any values of its parameter types, returns true, and each argument reads behind the call as it read before; no condition. (The frame of this row was written by the kit's proof-skeleton.mjs; the walk is this seat's own.) -/
import Derived.Test.YtahfnbgbjphngaaRows
import Derived.Test.YtahfnbgbjphngaaRowWords
import Derived.Test.YtahfnbgbjphngaaLBackC
import Derived.Deep.Slices
import Derived.Deep.Strs
import Derived.WalkKit
import Derived.ProofKit
import Derived.OpenShut
import Derived.ShutString
import Derived.ChangeOld
import Derived.Below
namespace Go.Proofs.Ytahfnbgbjphngaa.codeBack
open Go.ChangeShapes Go.WideShapes Go.ChangeAt Go.RowKit
open Go.ChangeMaps (open_string shut_string)
set_option linter.unusedVariables false

theorem own : ownKnob Try.prog.godebug = none := by kernel_rfl
theorem laidOut : laidOutB Try.prog = true := by kernel_rfl

/-- A slice of items that came in. -/
theorem its_of_trod {H : Type} {enc : TypeId × Value → H} {W : World} {a0 : Option Addr} {len0 cap0 : Nat} {d : DataW H} {ps : List MemPlace} (h : DataW.Trod enc Try.prog W 0 (fun _ => true) true 57 (.slice a0 len0 cap0) d ps) :
    ∃ l : List It, Its W (.slice a0 len0 cap0) l := by
  have hmx : maxLen = 9223372036854775807 := by decide +kernel
  obtain ⟨fuel, hf⟩ := h
  rcases Go.Deep.open_slice Try.underlying57 hf with ⟨hcs, _⟩ | ⟨a, len, cap, m, n, D, Pl, hcs, _, hl, hm, hmm, _, hx⟩
  · simp [Value.cells] at hcs
    obtain ⟨rfl, rfl, rfl⟩ := hcs
    exact ⟨[], none, 0, rfl, Nat.le_refl _, by omega, fun x hx => by (cases hx), fun h => absurd h (by simp)⟩
  · simp [Value.cells] at hcs
    obtain ⟨rfl, rfl, rfl⟩ := hcs
    simp only [if_true] at hmm
    rw [hmm] at hx
    have hc : Try.prog.cellsOf 62 = 3 := by kernel_rfl
    have hit : ∀ i, i < cap0 → ∃ x : It, W.cell? (a.add (i * 3)) = some (.int .u8 x.kind) ∧ W.cell? ((a.add (i * 3)).add 1) = some (.int .u64 x.n) ∧ W.cell? ((a.add (i * 3)).add 2) = some (.string x.s) ∧ 0 ≤ x.kind ∧ x.kind ≤ 255 ∧ 0 ≤ x.n ∧ x.n ≤ 18446744073709551615 := by
      intro i hi
      obtain ⟨cs', h1, h2⟩ := hx i hi
      rw [hc] at h1
      obtain ⟨_, h4, h5⟩ := World.cells?_some h1
      obtain ⟨y0, y1, y2, n', _, _, g0, g1, g2⟩ := Go.Deep.trod_struct3 Try.underlying62 h2
      match cs', h4 with
      | [v0, v1, v2], _ =>
        have c5 : Try.prog.cellsOf 5 = 1 := by kernel_rfl
        have c22 : Try.prog.cellsOf 22 = 1 := by kernel_rfl
        have c9 : Try.prog.cellsOf 9 = 1 := by kernel_rfl
        simp only [c5, c22, c9] at g0 g1 g2
        obtain ⟨k, e0, -, w0⟩ := DataW.trod_int Try.underlying5 g0
        obtain ⟨q, e1, -, w1⟩ := DataW.trod_int Try.underlying22 g1
        obtain ⟨s, e2, -, -⟩ := DataW.trod_string Try.underlying9 g2
        simp at e0 e1 e2
        subst e0; subst e1; subst e2
        have k0 := h5 0 (by omega)
        have k1 := h5 1 (by omega)
        have k2 := h5 2 (by omega)
        refine ⟨⟨k, q, s⟩, by simpa [Addr.add] using k0, k1, k2, (bounds_u8 w0).1, (bounds_u8 w0).2, (bounds_u64 w1).1, (bounds_u64 w1).2⟩
    rcases Nat.eq_zero_or_pos len0 with rfl | hpos
    · exact ⟨[], some a, cap0, rfl, Nat.zero_le _, by omega, fun x hx => by (cases hx), fun h => absurd h (by simp)⟩
    obtain ⟨x0, hx0, -⟩ := hit 0 (by omega)
    obtain ⟨b, o, spot⟩ := a
    have hspot : spot = none := by simpa [Addr.add] using World.cell?_spot hx0
    subst hspot
    have hch : ∃ f : Nat → It, ∀ i, i < cap0 → W.cell? ((⟨b, o, none⟩ : Addr).add (i * 3)) = some (.int .u8 (f i).kind) ∧ W.cell? (((⟨b, o, none⟩ : Addr).add (i * 3)).add 1) = some (.int .u64 (f i).n) ∧ W.cell? (((⟨b, o, none⟩ : Addr).add (i * 3)).add 2) = some (.string (f i).s) ∧ 0 ≤ (f i).kind ∧ (f i).kind ≤ 255 ∧ 0 ≤ (f i).n ∧ (f i).n ≤ 18446744073709551615 := by
      classical
      refine ⟨fun i => if h : i < cap0 then Classical.choose (hit i h) else ⟨0, 0, ByteArray.empty⟩, fun i hi => ?_⟩
      simp only [hi, dif_pos]
      exact Classical.choose_spec (hit i hi)
    obtain ⟨f, hfi⟩ := hch
    refine ⟨(List.range len0).map f, some ⟨b, o, none⟩, cap0, by simp, by simpa using hl, by omega, fun x hx => ?_, fun _ => ⟨b, o, rfl, fun i x hi => ?_⟩⟩
    · obtain ⟨i, hi, rfl⟩ := List.mem_map.1 hx
      have := hfi i (by have := List.mem_range.1 hi; omega)
      exact ⟨this.2.2.2.1, this.2.2.2.2.1, this.2.2.2.2.2.1, this.2.2.2.2.2.2⟩
    · have hil : i < len0 := by have := (List.getElem?_eq_some_iff.1 hi).1; simpa using this
      have e : x = f i := by
        rw [List.getElem?_map, List.getElem?_range hil] at hi
        simpa using hi.symm
      subst e
      have h3 := hfi i (by omega)
      simp only [addr_add] at h3
      exact ⟨h3.1, h3.2.1, h3.2.2.1⟩

/-! ### STEP 1: THE WALK -/
theorem walk (a0 : Option Addr) (len0 cap0 : Nat) (l : List It) (w : World) (h : Its w (.slice a0 len0 cap0) l) :
    Calls Try.prog 7 #[.slice a0 len0 cap0] w fun e w' => e = .returned (.bool true) ∧ Below w.heap.size w w' := by
  exact (codeBack_walk _ l w h).mono fun e w' h => ⟨h.1, h.2.below⟩

/-! ### THE ROW's STEP: WRITTEN OUT: LEAVE IT -/
set_option maxRecDepth 100000 in
theorem lifted (os : Os) (started : os.Started) (H : Type) (enc : TypeId × Value → H) :
    ReturnsInHanded {} Try.checked os 7 .any (Rows.codeBackSpec.pre6 enc Try.prog Try.f7 Rows.codeBackRow.domain false) (Rows.codeBackSpec.post enc Try.prog Try.f7 false true false false) := by
  refine returnsInHanded_of_change (C := Try.checked) own started (by kernel_rfl) Try.func7
    (ChangeSpec.witness6 (enc := enc) (C := Try.checked) false ⟨#[], #[.slice none 0 0], []⟩ 8 (by kernel_rfl) (by kernel_rfl) (by kernel_rfl) (by kernel_rfl)) ?_
  intro W base args ds gs before hval0 hW hcnd _
  have hval : ∀ (j : Nat) t v, Try.f7.params[j]? = some t → args[j]? = some v → Value.okWide Try.prog W .any base t v := hval0
  have hW' := hW
  obtain ⟨p, q, hA0, hV, rfl, hfz, hnd⟩ := hW
  have hA : DataW.TrodAll enc Try.prog W 0 (fun _ => true) true Try.f7.params.toList args.toList ds p := hA0
  rw [Try.params7] at hA hval
  obtain ⟨v0, vs0, d0, ds0, p0, q0, hargs, rfl, rfl, h0, r0⟩ := trodAll_cons hA
  obtain ⟨rfl, rfl, rfl⟩ := trodAll_nil r0
  obtain rfl : args = #[v0] := by cases args; simp_all
  obtain ⟨rfl, rfl⟩ := trodVars_none hV
  obtain ⟨a0, len0, cap0, rfl⟩ := okWide_slice Try.underlying57 (hval 0 57 v0 rfl rfl)
  have k0 := h0
  have lt0 : ∀ x ∈ p0, x.block < W.heap.size := by obtain ⟨m, hm⟩ := k0; exact DataW.trod_lt m _ _ _ hm
  obtain ⟨l, w0⟩ := its_of_trod h0
  clear hA0 hval0
  refine (walk a0 len0 cap0 l W w0).mono fun e W' ⟨he, bel⟩ => ?_
  subst he
  exact ⟨_, rfl, _, _, _, [], _, [], hW', trodAll_mk1 (shut_bool Try.underlying4 _), (trodAll_cons_mk (Below.trod laidOut (by kernel_rfl) (of_decide_eq_true (by kernel_rfl)) k0 bel lt0) trodAll_mk0), rfl, bel.frame _, fun h => by cases h⟩

theorem over : Rows.codeBackRow.holds Try.pinned (OpenSpec.ofChange Rows.codeBackSpec) :=
  OpenClaim.holds_of_wide 7 Try.f7 rfl rfl rfl rfl rfl rfl rfl ⟨rfl, rfl, rfl, rfl, rfl⟩ rfl rfl rfl rfl rfl (by kernel_rfl) Try.func7 (by kernel_rfl)
    (of_decide_eq_true (by kernel_rfl)) (by unfold Func.isWrapper; first | (rw [if_pos (by decide +kernel)]; kernel_rfl) | (rw [if_neg (by decide +kernel)]; exact ⟨rfl, rfl⟩))
    (fun os started H enc _ => lifted os started H enc)

/-- ████ THE STATEMENT ████ -/
theorem proved : Rows.CodeBackSaid := over
#print axioms proved
end Go.Proofs.Ytahfnbgbjphngaa.codeBack
