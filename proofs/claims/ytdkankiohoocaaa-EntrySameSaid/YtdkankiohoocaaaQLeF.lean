/- The walk of carrierlaw16.of. -/
import Derived.Test.YtdkankiohoocaaaQLeE
namespace Go.Proofs.Ytdkankiohoocaaa
set_option linter.unusedSimpArgs false
set_option linter.unusedVariables false
open Go Go.RowKit Go.Proofs

def LofPost (r : RawD) (w : World) (en : Ending) (w' : World) : Prop :=
  ∃ e vo ve vp, en = .returned (entV e vo ve vp) ∧ EntS w' (fun b => w.heap.size ≤ b) e vo ve vp ∧ Same w w' ∧ OfE r e
theorem raw_at {w0 w : World} {B E R : Nat} {x : Array Value} {T e1 e2 : TypeId} {v1 v2 : Value} {l1 l2 : List (List Value)} {a0 a1 a2 a3 a4 a5 a6 a7 a8 a9 a10 : Value} {TB : TypeId} (h : TG w0 w B E R #[a0, a1, a2, a3, a4, a5, a6, a7, a8, a9, a10] TB x T e1 v1 l1 e2 v2 l2) :
    w.cell? ⟨B, 0, none⟩ = some a0 ∧ w.cell? ⟨B, 1, none⟩ = some a1 ∧ w.cell? ⟨B, 2, none⟩ = some a2 ∧ w.cell? ⟨B, 3, none⟩ = some a3 ∧ w.cell? ⟨B, 4, none⟩ = some a4 ∧ w.cell? ⟨B, 5, none⟩ = some a5 ∧ w.cell? ⟨B, 6, none⟩ = some a6 ∧ w.cell? ⟨B, 7, none⟩ = some a7 ∧ w.cell? ⟨B, 8, none⟩ = some a8 ∧ w.cell? ⟨B, 9, none⟩ = some a9 ∧ w.cell? ⟨B, 10, none⟩ = some a10 := raw_cells h.box
/-- What is left at the end: the entry is stored in the result, and read. -/
theorem TG.ends {w0 w : World} {B E R : Nat} {bx x : Array Value} {TB e1 e2 : TypeId} {v1 v2 : Value} {l1 : List OpD} {l2 : List PlD} {r : RawD} {e : EntD} {vo ve vp : Value}
    (h : TG w0 w B E R bx TB x 35 e1 v1 (l1.map opCells) e2 v2 (l2.map plCells)) (hO : OfE r e) (ho : (vo = v1 ∧ e.ops = l1) ∨ (vo = .slice none 0 0 ∧ e.ops = [])) (he : (ve = v2 ∧ e.evs = l2) ∨ (ve = .slice none 0 0 ∧ e.evs = []))
    {G : Nat → Prop} (hp : Sl w G 1 vp (e.opn.map numCells)) (hG : ∀ b, G b → b ≠ R ∧ w0.heap.size ≤ b) (a0 a1 a2 a3 a4 a5 a6 a7 a8 a9 a10 a11 a12 : Value) :
    LofPost r w0 (.returned (entV e vo ve vp)) (putEnt w R a0 a1 a2 a3 a4 a5 a6 a7 a8 a9 a10 a11 a12) := by
  have hc := putEnt_chg w R a0 a1 a2 a3 a4 a5 a6 a7 a8 a9 a10 a11 a12
  refine ⟨e, vo, ve, vp, rfl, ⟨?_, ?_, (hp.keep hc (fun b hb => (hG b hb).1)).mono (numCells_pos _) (fun b _ hb => (hG b hb).2)⟩, h.same.since hc (fun k hk => by have := h.old; omega), hO⟩
  · rcases ho with ⟨rfl, ho⟩ | ⟨rfl, ho⟩
    · rw [ho]
      have h1 := ownsRow_keep' h.own1 hc (fun g hg => (h.row1 g hg).2.2.2)
      exact Sl.of_own (by omega) h1 rfl (by intro x hx; obtain ⟨o, -, rfl⟩ := List.mem_map.1 hx; rfl) (fun g hg => (h.row1 g hg).1)
    · rw [ho]; exact Sl.nil_ _ _ _
  · rcases he with ⟨rfl, he⟩ | ⟨rfl, he⟩
    · rw [he]
      have h1 := ownsRow_keep' h.own2 hc (fun g hg => (h.row2 g hg).2.2.2)
      exact Sl.of_own (by omega) h1 rfl (by intro x hx; obtain ⟨o, -, rfl⟩ := List.mem_map.1 hx; rfl) (fun g hg => (h.row2 g hg).1)
    · rw [he]; exact Sl.nil_ _ _ _
theorem TG.form1 {w0 w : World} {B E R : Nat} {bx x : Array Value} {TB T e1 e2 : TypeId} {v1 v2 : Value} {l1 l2 : List (List Value)} (h : TG w0 w B E R bx TB x T e1 v1 l1 e2 v2 l2) : ∃ A n c, v1 = .slice A n c := by
  rcases h.own1.2 with ⟨hv, -⟩ | ⟨g, cap, cur, hv, -⟩
  · exact ⟨_, _, _, hv⟩
  · exact ⟨_, _, _, hv⟩
theorem TG.form2 {w0 w : World} {B E R : Nat} {bx x : Array Value} {TB T e1 e2 : TypeId} {v1 v2 : Value} {l1 l2 : List (List Value)} (h : TG w0 w B E R bx TB x T e1 v1 l1 e2 v2 l2) : ∃ A n c, v2 = .slice A n c := by
  rcases h.own2.2 with ⟨hv, -⟩ | ⟨g, cap, cur, hv, -⟩
  · exact ⟨_, _, _, hv⟩
  · exact ⟨_, _, _, hv⟩
theorem lwhole_is (n : Int) (h : i64I n) (w : World) (z : Int) (hz : Hid (wholeZ n = z)) :
    Calls Try.prog 25 #[.int .i64 n] w fun en w' => en = .returned (.int .i64 z) ∧ w' = w :=
  (lwhole_any n h w).mono fun en w' hh => by rw [hz.out] at hh; exact hh

end Go.Proofs.Ytdkankiohoocaaa
