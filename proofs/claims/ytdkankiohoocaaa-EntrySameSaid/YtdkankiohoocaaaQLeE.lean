/- Words for the walk of carrierlaw16.of. -/
import Derived.Test.YtdkankiohoocaaaQLeC
import Derived.Test.YtdkankiohoocaaaQLeD
import Derived.Test.YtdkankiohoocaaaQPl
namespace Go.Proofs.Ytdkankiohoocaaa
set_option linter.unusedSimpArgs false
set_option linter.unusedVariables false
open Go Go.RowKit Go.Proofs

/-- What of answers. -/
structure OfE (r : RawD) (e : EntD) : Prop where
  rd : e.rd
  can : canE e = e
  kind : e.kind = 1 + r.kind % 11
  tx : e.tx = if e.kind = 1 ∨ e.kind = 8 then wholeZ r.tx else 0
  n : e.n = if 3 ≤ e.kind ∧ e.kind ≠ 8 then wholeZ r.n else 0
  name : e.name = if 3 ≤ e.kind ∧ e.kind ≤ 7 then cutB r.name 40 else ⟨#[]⟩
  at_ : e.at_ = if e.kind = 7 ∨ e.kind = 8 then r.at_ else 0
  max : e.max = if e.kind = 2 then 1 + r.max % 40 else 0
  no : e.ops.length = if e.kind = 1 ∨ e.kind = 11 then r.keys.length else 0
  ne : e.evs.length = if e.kind = 1 ∨ e.kind = 8 then r.spools.length else 0
/-- The Ops and the events that it makes. -/
def OpsOk (r : RawD) (l : List OpD) : Prop := l.length = r.keys.length ∧ ∀ o ∈ l, o.ok ∧ o.table ≤ 255 ∧ o.text.size ≤ 40
def PlsOk (r : RawD) (l : List PlD) : Prop := l.length = r.spools.length ∧ ∀ p ∈ l, p.ok ∧ p.spool ≤ 255
theorem no_ok : noEnt.ok := by
  have z : wholeI 0 := ⟨by omega, by omega⟩
  have y : i64I 0 := ⟨by omega, by omega⟩
  exact ⟨⟨by decide, by decide⟩, z, z, z, by simp [noEnt], by simp [noEnt], z, z, by simp [noEnt], y, z, y, by simp [noEnt], by simp [noEnt], by simp [noEnt], by decide⟩
section
variable {r : RawD} {l1 : List OpD} {l2 : List PlD} {op : List Int}
theorem ofE_1 (h : SmallR r) (hk : 1 + r.kind % 11 = 1) (ht : i64I r.tx) (hn : i64I r.n) (ha : i64I r.at_) (h1 : OpsOk r l1) (h2 : PlsOk r l2) :
    OfE r { noEnt with kind := 1, tx := wholeZ r.tx, next := wholeZ r.n, nextID := wholeZ r.at_, ops := l1, evs := l2 } := by
  have z := no_ok
  have a1 := h.keys; have a2 := h.spools
  have b1 := h1.1; have b2 := h2.1
  refine ⟨⟨⟨⟨by first | decide | (simp only; done) | (simp only; decide) | (show ByteArray.size noEnt.name ≤ _; decide), by first | decide | (simp only; done) | (simp only; decide) | (show ByteArray.size noEnt.name ≤ _; decide)⟩, wholeZ_ok ht, wholeZ_ok hn, wholeZ_ok ha, fun o ho => (h1.2 o ho).1, fun p hp => (h2.2 p hp).1, z.tickN, z.max, z.opn, z.tickAt, z.n, z.at_, by simp only; omega, by simp only; omega, z.fewN, z.name⟩, ⟨by first | decide | (simp only; done) | (simp only; decide) | (show ByteArray.size noEnt.name ≤ _; decide), by first | decide | (simp only; done) | (simp only; decide) | (show ByteArray.size noEnt.name ≤ _; decide)⟩, by simp only; omega, by simp only; omega, by simp [noEnt], fun o ho => (h1.2 o ho).2, fun p hp => (h2.2 p hp).2, by first | decide | (simp only; done) | (simp only; decide) | (show ByteArray.size noEnt.name ≤ _; decide)⟩, rfl, hk.symm, rfl, rfl, rfl, rfl, rfl, b1, b2⟩
theorem ofE_8 (h : SmallR r) (hk : 1 + r.kind % 11 = 8) (ht : i64I r.tx) (hn : i64I r.n) (ha : i64I r.at_) (h2 : PlsOk r l2) :
    OfE r { noEnt with kind := 8, tx := wholeZ r.tx, next := wholeZ r.n, nextID := wholeZ r.at_, evs := l2, at_ := r.at_ } := by
  have z := no_ok
  have a2 := h.spools
  have b2 := h2.1
  refine ⟨⟨⟨⟨by first | decide | (simp only; done) | (simp only; decide) | (show ByteArray.size noEnt.name ≤ _; decide), by first | decide | (simp only; done) | (simp only; decide) | (show ByteArray.size noEnt.name ≤ _; decide)⟩, wholeZ_ok ht, wholeZ_ok hn, wholeZ_ok ha, z.ops, fun p hp => (h2.2 p hp).1, z.tickN, z.max, z.opn, z.tickAt, z.n, ha, z.fewO, by simp only; omega, z.fewN, z.name⟩, ⟨by first | decide | (simp only; done) | (simp only; decide) | (show ByteArray.size noEnt.name ≤ _; decide), by first | decide | (simp only; done) | (simp only; decide) | (show ByteArray.size noEnt.name ≤ _; decide)⟩, by simp [noEnt], by simp only; omega, by simp [noEnt], by simp [noEnt], fun p hp => (h2.2 p hp).2, by first | decide | (simp only; done) | (simp only; decide) | (show ByteArray.size noEnt.name ≤ _; decide)⟩, rfl, hk.symm, rfl, rfl, rfl, rfl, rfl, rfl, b2⟩
theorem ofE_2 (hk : 1 + r.kind % 11 = 2) (hn : i64I r.n) (ha : i64I r.at_) (hm : 0 ≤ r.max) (hl : op.length ≤ 40) (ho : ∀ n ∈ op, wholeI n) :
    OfE r { noEnt with kind := 2, tickN := wholeZ r.n, max := 1 + r.max % 40, opn := op, tickAt := r.at_ } := by
  have z := no_ok
  refine ⟨⟨⟨⟨by first | decide | (simp only; done) | (simp only; decide) | (show ByteArray.size noEnt.name ≤ _; decide), by first | decide | (simp only; done) | (simp only; decide) | (show ByteArray.size noEnt.name ≤ _; decide)⟩, z.tx, z.next, z.nextID, z.ops, z.evs, wholeZ_ok hn, ⟨by simp only; omega, by simp only; omega⟩, ho, ha, z.n, z.at_, z.fewO, z.fewE, by simp only; omega, z.name⟩, ⟨by first | decide | (simp only; done) | (simp only; decide) | (show ByteArray.size noEnt.name ≤ _; decide), by first | decide | (simp only; done) | (simp only; decide) | (show ByteArray.size noEnt.name ≤ _; decide)⟩, by simp [noEnt], by simp [noEnt], by simp only; omega, by simp [noEnt], by simp [noEnt], by first | decide | (simp only; done) | (simp only; decide) | (show ByteArray.size noEnt.name ≤ _; decide)⟩, rfl, hk.symm, rfl, rfl, rfl, rfl, rfl, rfl, rfl⟩
theorem ofE_name (k : Int) (h3 : k = 3 ∨ k = 4 ∨ k = 5 ∨ k = 6) (hk : 1 + r.kind % 11 = k) (hn : i64I r.n) :
    OfE r { noEnt with kind := k, name := cutB r.name 40, n := wholeZ r.n } := by
  have z := no_ok
  have hc := cutB_size r.name 40
  refine ⟨⟨⟨⟨by simp only; omega, by simp only; omega⟩, z.tx, z.next, z.nextID, z.ops, z.evs, z.tickN, z.max, z.opn, z.tickAt, wholeZ_ok hn, z.at_, z.fewO, z.fewE, z.fewN, by simp only; omega⟩, ⟨by simp only; omega, by simp only; omega⟩, by simp [noEnt], by simp [noEnt], by simp [noEnt], by simp [noEnt], by simp [noEnt], hc⟩, ?_, hk.symm, ?_, ?_, ?_, ?_, ?_, ?_, ?_⟩
  all_goals (rcases h3 with rfl | rfl | rfl | rfl <;> rfl)
theorem ofE_7 (hk : 1 + r.kind % 11 = 7) (hn : i64I r.n) (ha : i64I r.at_) :
    OfE r { noEnt with kind := 7, name := cutB r.name 40, n := wholeZ r.n, at_ := r.at_ } := by
  have z := no_ok
  have hc := cutB_size r.name 40
  exact ⟨⟨⟨⟨by first | decide | (simp only; done) | (simp only; decide) | (show ByteArray.size noEnt.name ≤ _; decide), by first | decide | (simp only; done) | (simp only; decide) | (show ByteArray.size noEnt.name ≤ _; decide)⟩, z.tx, z.next, z.nextID, z.ops, z.evs, z.tickN, z.max, z.opn, z.tickAt, wholeZ_ok hn, ha, z.fewO, z.fewE, z.fewN, by simp only; omega⟩, ⟨by first | decide | (simp only; done) | (simp only; decide) | (show ByteArray.size noEnt.name ≤ _; decide), by first | decide | (simp only; done) | (simp only; decide) | (show ByteArray.size noEnt.name ≤ _; decide)⟩, by simp [noEnt], by simp [noEnt], by simp [noEnt], by simp [noEnt], by simp [noEnt], hc⟩, rfl, hk.symm, rfl, rfl, rfl, rfl, rfl, rfl, rfl⟩
theorem ofE_n (k : Int) (h3 : k = 9 ∨ k = 10) (hk : 1 + r.kind % 11 = k) (hn : i64I r.n) :
    OfE r { noEnt with kind := k, n := wholeZ r.n } := by
  have z := no_ok
  refine ⟨⟨⟨⟨by simp only; omega, by simp only; omega⟩, z.tx, z.next, z.nextID, z.ops, z.evs, z.tickN, z.max, z.opn, z.tickAt, wholeZ_ok hn, z.at_, z.fewO, z.fewE, z.fewN, z.name⟩, ⟨by simp only; omega, by simp only; omega⟩, by simp [noEnt], by simp [noEnt], by simp [noEnt], by simp [noEnt], by simp [noEnt], by first | decide | (simp only; done) | (simp only; decide) | (show ByteArray.size noEnt.name ≤ _; decide)⟩, ?_, hk.symm, ?_, ?_, ?_, ?_, ?_, ?_, ?_⟩
  all_goals (rcases h3 with rfl | rfl <;> rfl)
theorem ofE_11 (h : SmallR r) (hk : 1 + r.kind % 11 = 11) (hn : i64I r.n) (h1 : OpsOk r l1) :
    OfE r { noEnt with kind := 11, n := wholeZ r.n, ops := l1 } := by
  have z := no_ok
  have a1 := h.keys
  have b1 := h1.1
  exact ⟨⟨⟨⟨by first | decide | (simp only; done) | (simp only; decide) | (show ByteArray.size noEnt.name ≤ _; decide), by first | decide | (simp only; done) | (simp only; decide) | (show ByteArray.size noEnt.name ≤ _; decide)⟩, z.tx, z.next, z.nextID, fun o ho => (h1.2 o ho).1, z.evs, z.tickN, z.max, z.opn, z.tickAt, wholeZ_ok hn, z.at_, by simp only; omega, z.fewE, z.fewN, z.name⟩, ⟨by first | decide | (simp only; done) | (simp only; decide) | (show ByteArray.size noEnt.name ≤ _; decide), by first | decide | (simp only; done) | (simp only; decide) | (show ByteArray.size noEnt.name ≤ _; decide)⟩, by simp only; omega, by simp [noEnt], by simp [noEnt], fun o ho => (h1.2 o ho).2, by simp [noEnt], by first | decide | (simp only; done) | (simp only; decide) | (show ByteArray.size noEnt.name ≤ _; decide)⟩, rfl, hk.symm, rfl, rfl, rfl, rfl, rfl, b1, rfl⟩
end

/-! ### in the midst of of -/
section
variable {w0 w w' w2 : World} {B E R : Nat} {bx x : Array Value} {TB T e1 e2 : TypeId} {v1 v2 v' : Value} {l1 l2 : List (List Value)}
theorem TG.store (h : TG w0 w B E R bx TB x T e1 v1 l1 e2 v2 l2) (i : Nat) (u : Value) : TG w0 (w.setCell ⟨E, i, none⟩ u) B E R bx TB (x.setIfInBounds i u) T e1 v1 l1 e2 v2 l2 := by
  have hc : Chg (fun k => k = E) w (w.setCell ⟨E, i, none⟩ u) := Chg.setCell (S := fun k => k = E) (Chg.refl _ w) (p := ⟨E, i, none⟩) (fun _ => rfl) _
  have ho := h.old
  refine ⟨hc.at_ h.box (by omega), ?_, hc.at_ h.res (by omega), ownsRow_keep' h.own1 hc (fun g hg e => (h.row1 g hg).2.2.1 e), ownsRow_keep' h.own2 hc (fun g hg e => (h.row2 g hg).2.2.1 e), h.row1, h.row2, h.dj, h.same.since hc (fun k hk => by omega), h.old⟩
  simp [World.setCell, Array.getElem?_modify, h.el]
theorem TG.grow1 (h : TG w0 w B E R bx TB x T e1 v1 l1 e2 v2 l2) (o : Obj) (y : List Value) (ho : w2.ownsRow 0 e1 4 v' (l1.length + 1) (l1.flatten ++ y)) (hg : (w.alloc o).grownBy w2 v1.ownBlock) (hat : v'.ownBlock = v1.ownBlock ∨ v'.ownBlock = some (w.alloc o).heap.size) :
    TG w0 w2 B E R bx TB x T e1 v' (l1 ++ [y]) e2 v2 l2 := by
  have hc : Chg (fun k => v1.ownBlock = some k) (w.alloc o) w2 := Chg.of_grown hg (fun k h => h)
  have ha := h.keep (Chg.alloc_ _ w o)
  have hz := ha.size
  have hnB : ¬ v1.ownBlock = some B := fun e => (h.row1 B e).2.1 rfl
  have hnE : ¬ v1.ownBlock = some E := fun e => (h.row1 E e).2.2.1 rfl
  have hnR : ¬ v1.ownBlock = some R := fun e => (h.row1 R e).2.2.2 rfl
  have hws := ha.same.size
  have hrow : ∀ g, v'.ownBlock = some g → w0.heap.size ≤ g ∧ g ≠ B ∧ g ≠ E ∧ g ≠ R := by
    intro g hg'
    rcases hat with e | e
    · rw [e] at hg'; exact h.row1 g hg'
    · rw [e] at hg'; injection hg' with hg'; omega
  refine ⟨hc.at_ ha.box hnB, hc.at_ ha.el hnE, hc.at_ ha.res hnR, ?_, ownsRow_keep' ha.own2 hc (fun g hg e => h.dj g e hg), hrow, h.row2, ?_, ha.same.trans' hc (fun i hi e => by have := (h.row1 i e).1; omega), h.old⟩
  · have e1 : (l1 ++ [y]).length = l1.length + 1 := by simp
    have e2 : (l1 ++ [y]).flatten = l1.flatten ++ y := by simp
    rw [e1, e2]
    exact ho
  · intro g g1 g2
    rcases hat with e | e
    · rw [e] at g1; exact h.dj g g1 g2
    · rw [e] at g1; injection g1 with g1
      have := (World.ownsRow.lt ha.own2 g g2).2
      omega
theorem TG.grow2 (h : TG w0 w B E R bx TB x T e1 v1 l1 e2 v2 l2) (o : Obj) (y : List Value) (ho : w2.ownsRow 0 e2 9 v' (l2.length + 1) (l2.flatten ++ y)) (hg : (w.alloc o).grownBy w2 v2.ownBlock) (hat : v'.ownBlock = v2.ownBlock ∨ v'.ownBlock = some (w.alloc o).heap.size) :
    TG w0 w2 B E R bx TB x T e1 v1 l1 e2 v' (l2 ++ [y]) := by
  have hc : Chg (fun k => v2.ownBlock = some k) (w.alloc o) w2 := Chg.of_grown hg (fun k h => h)
  have ha := h.keep (Chg.alloc_ _ w o)
  have hz := ha.size
  have hnB : ¬ v2.ownBlock = some B := fun e => (h.row2 B e).2.1 rfl
  have hnE : ¬ v2.ownBlock = some E := fun e => (h.row2 E e).2.2.1 rfl
  have hnR : ¬ v2.ownBlock = some R := fun e => (h.row2 R e).2.2.2 rfl
  have hws := ha.same.size
  have hrow : ∀ g, v'.ownBlock = some g → w0.heap.size ≤ g ∧ g ≠ B ∧ g ≠ E ∧ g ≠ R := by
    intro g hg'
    rcases hat with e | e
    · rw [e] at hg'; exact h.row2 g hg'
    · rw [e] at hg'; injection hg' with hg'; omega
  refine ⟨hc.at_ ha.box hnB, hc.at_ ha.el hnE, hc.at_ ha.res hnR, ownsRow_keep' ha.own1 hc (fun g hg e => h.dj g hg e), ?_, h.row1, hrow, ?_, ha.same.trans' hc (fun i hi e => by have := (h.row2 i e).1; omega), h.old⟩
  · have e1 : (l2 ++ [y]).length = l2.length + 1 := by simp
    have e2 : (l2 ++ [y]).flatten = l2.flatten ++ y := by simp
    rw [e1, e2]
    exact ho
  · intro g g1 g2
    rcases hat with e | e
    · rw [e] at g2; exact h.dj g g1 g2
    · rw [e] at g2; injection g2 with g2
      have := (World.ownsRow.lt ha.own1 g g1).2
      omega
end
end Go.Proofs.Ytdkankiohoocaaa
