/- carrierlaw16's Raw as data; small, whole. -/
import Derived.Test.YtdkankiohoocaaaQEnt
namespace Go.Proofs.Ytdkankiohoocaaa
set_option linter.unusedSimpArgs false
set_option linter.unusedVariables false
open Go Go.RowKit Go.Proofs

/-- An entry by numbers. -/
structure RawD where
  kind : Int
  tx : Int
  n : Int
  at_ : Int
  name : ByteArray
  max : Int
  opn : List UInt8
  keys : List Int
  text : ByteArray
  gone : List UInt8
  spools : List UInt8
def rawCells (r : RawD) (vo vk vg vs : Value) : Array Value := #[.int .u8 r.kind, .int .i64 r.tx, .int .i64 r.n, .int .i64 r.at_, .string r.name, .int .u8 r.max, vo, vk, .string r.text, vg, vs]
def rawV (r : RawD) (vo vk vg vs : Value) : Value := .agg (rawCells r vo vk vg vs)
/-- Its slices lie there; its numbers are as their types have them. -/
structure RawS (w : World) (F : Nat → Prop) (r : RawD) (vo vk vg vs : Value) : Prop where
  opn : Bs w F vo r.opn
  keys : Sl w F 1 vk (r.keys.map numCells)
  gone : Bs w F vg r.gone
  spools : Bs w F vs r.spools
  kind : 0 ≤ r.kind ∧ r.kind ≤ 255
  max : 0 ≤ r.max ∧ r.max ≤ 255
  tx : i64I r.tx
  n : i64I r.n
  at_ : i64I r.at_
  key : ∀ k ∈ r.keys, i64I k
theorem RawS.same {w w' : World} {F : Nat → Prop} {r : RawD} {vo vk vg vs : Value} (h : RawS w F r vo vk vg vs) (hs : Same w w') : RawS w' F r vo vk vg vs :=
  ⟨h.opn.same hs, h.keys.same hs, h.gone.same hs, h.spools.same hs, h.kind, h.max, h.tx, h.n, h.at_, h.key⟩
theorem RawS.forms {w : World} {F : Nat → Prop} {r : RawD} {vo vk vg vs : Value} (h : RawS w F r vo vk vg vs) : ∃ Ao co Ak ck Ag cg As cs, vo = .slice Ao r.opn.length co ∧ vk = .slice Ak r.keys.length ck ∧ vg = .slice Ag r.gone.length cg ∧ vs = .slice As r.spools.length cs := by
  obtain ⟨Ao, co, ho, -, -, -⟩ := h.opn
  obtain ⟨Ak, ck, hk, -, -⟩ := h.keys.form
  obtain ⟨Ag, cg, hg, -, -, -⟩ := h.gone
  obtain ⟨As, cs, hs, -, -, -⟩ := h.spools
  rw [List.length_map] at hk
  exact ⟨_, _, _, _, _, _, _, _, ho, hk, hg, hs⟩
structure SmallR (r : RawD) : Prop where
  name : r.name.size ≤ 60
  opn : r.opn.length ≤ 8
  keys : r.keys.length ≤ 12
  text : r.text.size ≤ 60
  gone : r.gone.length ≤ 12
  spools : r.spools.length ≤ 6

theorem raw_cells {w : World} {B : Nat} {a0 a1 a2 a3 a4 a5 a6 a7 a8 a9 a10 : Value} {t : TypeId} (h : w.heap[B]? = some (.cells #[a0, a1, a2, a3, a4, a5, a6, a7, a8, a9, a10] t (0, 0))) :
    w.cell? ⟨B, 0, none⟩ = some a0 ∧ w.cell? ⟨B, 1, none⟩ = some a1 ∧ w.cell? ⟨B, 2, none⟩ = some a2 ∧ w.cell? ⟨B, 3, none⟩ = some a3 ∧ w.cell? ⟨B, 4, none⟩ = some a4 ∧ w.cell? ⟨B, 5, none⟩ = some a5 ∧ w.cell? ⟨B, 6, none⟩ = some a6 ∧ w.cell? ⟨B, 7, none⟩ = some a7 ∧ w.cell? ⟨B, 8, none⟩ = some a8 ∧ w.cell? ⟨B, 9, none⟩ = some a9 ∧ w.cell? ⟨B, 10, none⟩ = some a10 := by
  simp [World.cell?, h]

set_option maxHeartbeats 1600000 in
set_option maxRecDepth 100000 in
theorem small_any (r : RawD) (vo vk vg vs : Value) (F : Nat → Prop) (w : World) (h : RawS w F r vo vk vg vs) (s : Bool) (hs : s = true ↔ SmallR r) :
    Calls Try.prog 10 #[rawV r vo vk vg vs] w fun en w' => en = .returned (.bool s) ∧ Same w w' := by
  obtain ⟨Ao, co, Ak, ck, Ag, cg, As, cs, rfl, rfl, rfl, rfl⟩ := h.forms
  have HS := Lib.hid hs
  have HC := Lib.hid (Chg.alloc_ (fun _ => False) w (.cells #[.int .u8 r.kind, .int .i64 r.tx, .int .i64 r.n, .int .i64 r.at_, .string r.name, .int .u8 r.max, .slice Ao r.opn.length co, .slice Ak r.keys.length ck, .string r.text, .slice Ag r.gone.length cg, .slice As r.spools.length cs] 25))
  clear hs h
  unfold rawV
  unfold rawCells
  by_cases h_name : (r.name.size : Int) ≤ 60
  · by_cases h_opn : (r.opn.length : Int) ≤ 8
    · by_cases h_keys : (r.keys.length : Int) ≤ 12
      · by_cases h_text : (r.text.size : Int) ≤ 60
        · by_cases h_gone : (r.gone.length : Int) ≤ 12
          · by_cases h_spools : (r.spools.length : Int) ≤ 6
            · have HF : Hid (s = true) := HS.out.2 ⟨by omega, by omega, by omega, by omega, by omega, by omega⟩
              go_enter Try.func10, Try.ntmps10
              go_wp2_with fail
              go_ret
              exact ⟨ret_bool HF.out.symm, HC.out⟩
            · have HF : Hid (s = false) := by
                show _ = _
                cases s
                · rfl
                · exact absurd (HS.out.1 rfl).spools (by omega)
              go_enter Try.func10, Try.ntmps10
              go_wp2_with fail
              go_ret
              exact ⟨ret_bool HF.out.symm, HC.out⟩
          · have HF : Hid (s = false) := by
              show _ = _
              cases s
              · rfl
              · exact absurd (HS.out.1 rfl).gone (by omega)
            go_enter Try.func10, Try.ntmps10
            go_wp2_with fail
            go_ret
            exact ⟨ret_bool HF.out.symm, HC.out⟩
        · have HF : Hid (s = false) := by
            show _ = _
            cases s
            · rfl
            · exact absurd (HS.out.1 rfl).text (by omega)
          go_enter Try.func10, Try.ntmps10
          go_wp2_with fail
          go_ret
          exact ⟨ret_bool HF.out.symm, HC.out⟩
      · have HF : Hid (s = false) := by
          show _ = _
          cases s
          · rfl
          · exact absurd (HS.out.1 rfl).keys (by omega)
        go_enter Try.func10, Try.ntmps10
        go_wp2_with fail
        go_ret
        exact ⟨ret_bool HF.out.symm, HC.out⟩
    · have HF : Hid (s = false) := by
        show _ = _
        cases s
        · rfl
        · exact absurd (HS.out.1 rfl).opn (by omega)
      go_enter Try.func10, Try.ntmps10
      go_wp2_with fail
      go_ret
      exact ⟨ret_bool HF.out.symm, HC.out⟩
  · have HF : Hid (s = false) := by
      show _ = _
      cases s
      · rfl
      · exact absurd (HS.out.1 rfl).name (by omega)
    go_enter Try.func10, Try.ntmps10
    go_wp2_with fail
    go_ret
    exact ⟨ret_bool HF.out.symm, HC.out⟩

/-- A number that isn't below 0. -/
def wholeZ (n : Int) : Int := if n < 0 then -(n + 1) else n
theorem wholeZ_ok {n : Int} (h : i64I n) : wholeI (wholeZ n) := by
  obtain ⟨h1, h2⟩ := h
  unfold wholeZ wholeI
  split <;> omega
theorem lwhole_any (n : Int) (h : i64I n) (w : World) :
    Calls Try.prog 25 #[.int .i64 n] w fun en w' => en = .returned (.int .i64 (wholeZ n)) ∧ w' = w := by
  obtain ⟨h1, h2⟩ := h
  by_cases hn : n < 0
  · have HW : Hid (wholeZ n = -(n + 1)) := by show _ = _; unfold wholeZ; rw [if_pos hn]
    have e1 : wrap64 (n + 1) = n + 1 := by unfold wrap64; omega
    have e2 : wrap64 (-(n + 1)) = -(n + 1) := by unfold wrap64; omega
    have e3 : wrap64 (-1 + -n) = -1 + -n := by unfold wrap64; omega
    go_enter Try.func25, Try.ntmps25
    go_wp2_with fail
    go_ret
    exact ⟨ret_int (by rw [HW.out]; try omega), rfl⟩
  · have HW : Hid (wholeZ n = n) := by show _ = _; unfold wholeZ; rw [if_neg hn]
    go_enter Try.func25, Try.ntmps25
    go_wp2_with fail
    go_ret
    exact ⟨ret_int HW.out.symm, rfl⟩
end Go.Proofs.Ytdkankiohoocaaa
