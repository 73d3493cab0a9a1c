/- carrierlaw16's turned and back. -/
import Derived.Test.YtdkankiohoocaaaQSmB
import Derived.Test.YtdkankiohoocaaaQRfI
import Derived.StillTailTactics
namespace Go.Proofs.Ytdkankiohoocaaa
set_option linter.unusedSimpArgs false
set_option linter.unusedVariables false
open Go Go.RowKit Go.Proofs

/-- In the midst of turned or back: the parameter's box B, the entry E that is made, the result R, and its two slices. -/
structure TG (w0 w : World) (B E R : Nat) (bx : Array Value) (TB : TypeId) (x : Array Value) (T e1 : TypeId) (v1 : Value) (l1 : List (List Value)) (e2 : TypeId) (v2 : Value) (l2 : List (List Value)) : Prop where
  box : w.heap[B]? = some (.cells bx TB (0, 0))
  el : w.heap[E]? = some (.cells x T (0, 0))
  res : w.heap[R]? = some (.cells (ent0 0) T (0, 0))
  own1 : w.ownsRow 0 e1 4 v1 l1.length l1.flatten
  own2 : w.ownsRow 0 e2 9 v2 l2.length l2.flatten
  row1 : ∀ g, v1.ownBlock = some g → w0.heap.size ≤ g ∧ g ≠ B ∧ g ≠ E ∧ g ≠ R
  row2 : ∀ g, v2.ownBlock = some g → w0.heap.size ≤ g ∧ g ≠ B ∧ g ≠ E ∧ g ≠ R
  dj : ∀ g, v1.ownBlock = some g → v2.ownBlock = some g → False
  same : Same w0 w
  old : w0.heap.size ≤ B ∧ w0.heap.size ≤ E ∧ w0.heap.size ≤ R ∧ B ≠ E ∧ B ≠ R ∧ E ≠ R
section
variable {w0 w w' w2 : World} {B E R : Nat} {bx x : Array Value} {TB T e1 e2 : TypeId} {v1 v2 v' : Value} {l1 l2 : List (List Value)}
theorem TG.keep (h : TG w0 w B E R bx TB x T e1 v1 l1 e2 v2 l2) (hs : Same w w') : TG w0 w' B E R bx TB x T e1 v1 l1 e2 v2 l2 :=
  ⟨hs.at_ h.box (fun h => h), hs.at_ h.el (fun h => h), hs.at_ h.res (fun h => h), ownsRow_keep' h.own1 hs (fun _ _ h => h), ownsRow_keep' h.own2 hs (fun _ _ h => h), h.row1, h.row2, h.dj, h.same.trans hs, h.old⟩
theorem TG.cell (h : TG w0 w B E R bx TB x T e1 v1 l1 e2 v2 l2) (i : Nat) (u : Value) (hi : x[i]? = some u) : w.cell? ⟨E, i, none⟩ = some u ∧ w.frozen? ⟨E, i, none⟩ = false := by
  constructor
  · simp [World.cell?, h.el, hi]
  · simp [World.frozen?, h.el]
theorem TG.size (h : TG w0 w B E R bx TB x T e1 v1 l1 e2 v2 l2) : B < w.heap.size ∧ E < w.heap.size ∧ R < w.heap.size := ⟨lt_of_block h.box, lt_of_block h.el, lt_of_block h.res⟩
/-- A row is appended to the first slice, and that is stored. -/
theorem TG.more1 (h : TG w0 w B E R bx TB x T e1 v1 l1 e2 v2 l2) (i : Nat) (o : Obj) (y : List Value) (ho : w2.ownsRow 0 e1 4 v' (l1.length + 1) (l1.flatten ++ y)) (hg : (w.alloc o).grownBy w2 v1.ownBlock) (hat : v'.ownBlock = v1.ownBlock ∨ v'.ownBlock = some (w.alloc o).heap.size) :
    TG w0 (w2.setCell ⟨E, i, none⟩ v') B E R bx TB (x.setIfInBounds i v') T e1 v' (l1 ++ [y]) e2 v2 l2 := by
  have hc : Chg (fun k => v1.ownBlock = some k) (w.alloc o) w2 := Chg.of_grown hg (fun k h => h)
  have ha := h.keep (Chg.alloc_ _ w o)
  have hz := ha.size
  have hnB : ¬ v1.ownBlock = some B := fun e => (h.row1 B e).2.1 rfl
  have hnE : ¬ v1.ownBlock = some E := fun e => (h.row1 E e).2.2.1 rfl
  have hnR : ¬ v1.ownBlock = some R := fun e => (h.row1 R e).2.2.2 rfl
  have hws := ha.same.size
  have hrow : ∀ g, v'.ownBlock = some g → w0.heap.size ≤ g ∧ g ≠ B ∧ g ≠ E ∧ g ≠ R := by
    intro g hg'
    rcases hat with e | e
    · rw [e] at hg'; exact h.row1 g hg'
    · rw [e] at hg'; injection hg' with hg'; omega
  have hcE : Chg (fun k => k = E) w2 (w2.setCell ⟨E, i, none⟩ v') := Chg.setCell (S := fun k => k = E) (Chg.refl _ w2) (p := ⟨E, i, none⟩) (fun _ => rfl) _
  have ho' := h.old
  refine ⟨hcE.at_ (hc.at_ ha.box hnB) (by omega), ?_, hcE.at_ (hc.at_ ha.res hnR) (by omega), ?_, ?_, hrow, h.row2, ?_, ?_, h.old⟩
  · have he := hc.at_ ha.el hnE
    simp [World.setCell, Array.getElem?_modify, he]
  · have e1 : (l1 ++ [y]).length = l1.length + 1 := by simp
    have e2 : (l1 ++ [y]).flatten = l1.flatten ++ y := by simp
    rw [e1, e2]
    exact ownsRow_setCell_other ho (fun e => (hrow E e).2.2.1 rfl) _
  · exact ownsRow_keep' (ownsRow_keep' ha.own2 hc (fun g hg e => h.dj g e hg)) hcE (fun g hg e => (h.row2 g hg).2.2.1 e)
  · intro g g1 g2
    rcases hat with e | e
    · rw [e] at g1; exact h.dj g g1 g2
    · rw [e] at g1; injection g1 with g1
      have := (World.ownsRow.lt ha.own2 g g2).2
      omega
  · exact (ha.same.trans' hc (fun i hi e => by have := (h.row1 i e).1; omega)).setCell (fun hi => by simp at hi; omega) _
/-- A row is appended to the second one. -/
theorem TG.more2 (h : TG w0 w B E R bx TB x T e1 v1 l1 e2 v2 l2) (i : Nat) (o : Obj) (y : List Value) (ho : w2.ownsRow 0 e2 9 v' (l2.length + 1) (l2.flatten ++ y)) (hg : (w.alloc o).grownBy w2 v2.ownBlock) (hat : v'.ownBlock = v2.ownBlock ∨ v'.ownBlock = some (w.alloc o).heap.size) :
    TG w0 (w2.setCell ⟨E, i, none⟩ v') B E R bx TB (x.setIfInBounds i v') T e1 v1 l1 e2 v' (l2 ++ [y]) := by
  have hc : Chg (fun k => v2.ownBlock = some k) (w.alloc o) w2 := Chg.of_grown hg (fun k h => h)
  have ha := h.keep (Chg.alloc_ _ w o)
  have hz := ha.size
  have hnB : ¬ v2.ownBlock = some B := fun e => (h.row2 B e).2.1 rfl
  have hnE : ¬ v2.ownBlock = some E := fun e => (h.row2 E e).2.2.1 rfl
  have hnR : ¬ v2.ownBlock = some R := fun e => (h.row2 R e).2.2.2 rfl
  have hws := ha.same.size
  have hrow : ∀ g, v'.ownBlock = some g → w0.heap.size ≤ g ∧ g ≠ B ∧ g ≠ E ∧ g ≠ R := by
    intro g hg'
    rcases hat with e | e
    · rw [e] at hg'; exact h.row2 g hg'
    · rw [e] at hg'; injection hg' with hg'; omega
  have hcE : Chg (fun k => k = E) w2 (w2.setCell ⟨E, i, none⟩ v') := Chg.setCell (S := fun k => k = E) (Chg.refl _ w2) (p := ⟨E, i, none⟩) (fun _ => rfl) _
  have ho' := h.old
  refine ⟨hcE.at_ (hc.at_ ha.box hnB) (by omega), ?_, hcE.at_ (hc.at_ ha.res hnR) (by omega), ?_, ?_, h.row1, hrow, ?_, ?_, h.old⟩
  · have he := hc.at_ ha.el hnE
    simp [World.setCell, Array.getElem?_modify, he]
  · exact ownsRow_keep' (ownsRow_keep' ha.own1 hc (fun g hg e => h.dj g hg e)) hcE (fun g hg e => (h.row1 g hg).2.2.1 e)
  · have e1 : (l2 ++ [y]).length = l2.length + 1 := by simp
    have e2 : (l2 ++ [y]).flatten = l2.flatten ++ y := by simp
    rw [e1, e2]
    exact ownsRow_setCell_other ho (fun e => (hrow E e).2.2.1 rfl) _
  · intro g g1 g2
    rcases hat with e | e
    · rw [e] at g2; exact h.dj g g1 g2
    · rw [e] at g2; injection g2 with g2
      have := (World.ownsRow.lt ha.own1 g g1).2
      omega
  · exact (ha.same.trans' hc (fun i hi e => by have := (h.row2 i e).1; omega)).setCell (fun hi => by simp at hi; omega) _
end

/-- What turned and back answer: the same entry, whose slices of Ops and events are the call's own. -/
structure TurnPost (w : World) (e1 e2 : TypeId) (e : EntD) (vo ve : Value) (w' : World) : Prop where
  own1 : w'.ownsRow 0 e1 4 vo e.ops.length (e.ops.map opCells).flatten
  own2 : w'.ownsRow 0 e2 9 ve e.evs.length (e.evs.map plCells).flatten
  row1 : ∀ g, vo.ownBlock = some g → w.heap.size ≤ g
  row2 : ∀ g, ve.ownBlock = some g → w.heap.size ≤ g
  dj : ∀ g, vo.ownBlock = some g → ve.ownBlock = some g → False
  same : Same w w'
theorem TurnPost.ents {w w' : World} {e1 e2 : TypeId} {F : Nat → Prop} {e : EntD} {vo ve vp : Value} (h : TurnPost w e1 e2 e vo ve w') (hp : Sl w F 1 vp (e.opn.map numCells)) : EntS w' (fun b => F b ∨ w.heap.size ≤ b) e vo ve vp :=
  ⟨Sl.of_own (by omega) h.own1 (by simp) (by intro x hx; obtain ⟨o, -, rfl⟩ := List.mem_map.1 hx; rfl) (fun g hg => .inr (h.row1 g hg)),
   Sl.of_own (by omega) h.own2 (by simp) (by intro x hx; obtain ⟨o, -, rfl⟩ := List.mem_map.1 hx; rfl) (fun g hg => .inr (h.row2 g hg)),
   (hp.same h.same).mono (numCells_pos _) (fun _ _ hb => .inl hb)⟩
theorem map_take_more {α : Type} {f : α → List Value} {l : List α} {k : Nat} {x : α} (h : l[k]? = some x) : (l.take (k + 1)).map f = (l.take k).map f ++ [f x] := by
  rw [List.take_add_one, h]
  simp

/-- append, which the walk doesn't lay open. -/
@[irreducible] def appH (tys : Array TypeId) (ty : TypeId) (args : Array Value) : Sem Value := Builtin.append_ tys ty args
theorem app_hide (tys : Array TypeId) (ty : TypeId) (args : Array Value) : Builtin.append_ tys ty args = appH tys ty args := by unfold appH; rfl
theorem app_facts {P : Program} (W : World) (t e : TypeId) (i : TypeInfo) (z : Value) (size bytes : Nat) (ht : P.underlying t = some (.slice e)) (hi : P.info? e = some i) (hz : i.zero = some z)
    (hsize : i.size = size) (hby : i.bytes = bytes) (hzs : z.cells.size = size) (hsz : 0 < size)
    (v : Value) (n : Nat) (xs : List Value) (hown : W.ownsRow 0 e size v n xs) (cs : Array Value) (hl : cs.toList.length = size) (h1 : ∀ u ∈ cs.toList, u.oneCell' = true)
    (hbytes : (n + 1) * bytes ≤ 140737488355328) (h63 : n + 1 ≤ maxLen) :
    ∃ A' cap' w', (appH #[t, t] t #[v, .slice (some ⟨W.heap.size, 0, none⟩) 1 1]).run P (W.alloc (.cells cs e)).drew = .ok (.slice A' (n + 1) cap') w' ∧ w'.ownsRow 0 e size (.slice A' (n + 1) cap') (n + 1) (xs ++ cs.toList) ∧ (W.drew.alloc (.cells cs e)).grownBy w' v.ownBlock ∧
      ((Value.slice A' (n + 1) cap').ownBlock = v.ownBlock ∨ (Value.slice A' (n + 1) cap').ownBlock = some (W.drew.alloc (.cells cs e)).heap.size) := by
  have hc : ∀ (j : Nat) (u : Value), cs.toList[j]? = some u → (W.drew.alloc (.cells cs e)).cell? ((⟨W.heap.size, 0, none⟩ : Addr).add j) = some u := fun j u hj => by
    rw [show (⟨W.heap.size, 0, none⟩ : Addr).add j = ⟨W.drew.heap.size, j, none⟩ by rw [addr_add, Nat.zero_add]; rfl, World.cell?_alloc_at _ _ _ _ rfl]
    rw [← Array.getElem?_toList]
    exact hj
  obtain ⟨A', cap', w', hr, h2, h3, h4⟩ := run_app (P := P) (W.drew.alloc (.cells cs e)) t t e i z size bytes ht hi hz hsize hby hzs hsz v n xs (hown.alloc (w := W.drew) _) (some ⟨W.heap.size, 0, none⟩) 1 1 cs.toList (by rw [hl, Nat.one_mul]) (fun _ => ⟨_, rfl, hc⟩) h1 hbytes h63
  rw [app_hide] at hr
  exact ⟨A', cap', w', hr, h2, h3, h4⟩
end Go.Proofs.Ytdkankiohoocaaa
