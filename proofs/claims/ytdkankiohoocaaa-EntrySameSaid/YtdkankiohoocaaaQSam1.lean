/- The law EntrySame: plain parts: the entry z in the midst of it, and what of answers to the same thing twice. -/
import Derived.Test.YtdkankiohoocaaaQLBack
namespace Go.Proofs.Ytdkankiohoocaaa
set_option linter.unusedSimpArgs false
set_option linter.unusedVariables false
open Go Go.RowKit Go.Proofs

theorem i64_succ (a : Int) : wrap64 (a + 1) ≠ a := by
  simp only [wrap64]; omega
theorem i64_pred (a : Int) : wrap64 (a - 1) ≠ a := by
  simp only [wrap64]; omega
theorem u8_succ (a : Int) : (a + 1) % 256 ≠ a := by
  omega
/-- What of answers twice. -/
theorem OfE.two {r : RawD} {a b : EntD} (h : OfE r a) (k : OfE r b) : a.kind = b.kind ∧ a.tx = b.tx ∧ a.n = b.n ∧ a.name = b.name ∧ a.at_ = b.at_ ∧ a.max = b.max ∧ a.ops.length = b.ops.length ∧ a.evs.length = b.evs.length := by
  have e : a.kind = b.kind := h.kind.trans k.kind.symm
  have d1 := h.tx; have d2 := h.n; have d3 := h.name; have d4 := h.at_; have d5 := h.max; have d6 := h.no; have d7 := h.ne
  rw [e] at d1 d2 d3 d4 d5 d6 d7
  exact ⟨e, d1.trans k.tx.symm, d2.trans k.n.symm, d3.trans k.name.symm, d4.trans k.at_.symm, d5.trans k.max.symm, d6.trans k.no.symm, d7.trans k.ne.symm⟩
abbrev zOp : OpD := ⟨0, false, 0, ⟨#[]⟩⟩
abbrev zPl : PlD := ⟨0, 0, 0, ⟨#[]⟩, 0, 0, 0, 0, ⟨#[]⟩⟩
section
variable {r : RawD} {a e : EntD}
theorem zne_kind (h : OfE r a) (k : OfE r e) {t : Int} (ht : t ≠ e.kind) : ({ e with kind := t } : EntD) ≠ a := fun q => ht (by rw [← (h.two k).1, ← q])
theorem zne_tx (h : OfE r a) (k : OfE r e) {t : Int} (ht : t ≠ e.tx) : ({ e with tx := t } : EntD) ≠ a := fun q => ht (by rw [← (h.two k).2.1, ← q])
theorem zne_n (h : OfE r a) (k : OfE r e) {t : Int} (ht : t ≠ e.n) : ({ e with n := t } : EntD) ≠ a := fun q => ht (by rw [← (h.two k).2.2.1, ← q])
theorem zne_name (h : OfE r a) (k : OfE r e) (x : ByteArray) (hx : x.size = 1) : ({ e with name := e.name ++ x } : EntD) ≠ a := fun q => by
  have e1 : a.name = e.name ++ x := by rw [← q]
  have e2 := e1.symm.trans (h.two k).2.2.2.1
  have e3 := congrArg ByteArray.size e2
  rw [ByteArray.size_append] at e3
  omega
theorem zne_at (h : OfE r a) (k : OfE r e) {t : Int} (ht : t ≠ e.at_) : ({ e with at_ := t } : EntD) ≠ a := fun q => ht (by rw [← (h.two k).2.2.2.2.1, ← q])
theorem zne_max (h : OfE r a) (k : OfE r e) {t : Int} (ht : t ≠ e.max) : ({ e with max := t } : EntD) ≠ a := fun q => ht (by rw [← (h.two k).2.2.2.2.2.1, ← q])
theorem zne_ops (h : OfE r a) (k : OfE r e) : ({ e with ops := e.ops ++ [zOp] } : EntD) ≠ a := fun q => by
  have e1 : a.ops = e.ops ++ [zOp] := by rw [← q]
  have e2 := (h.two k).2.2.2.2.2.2.1
  rw [e1, List.length_append] at e2
  simp at e2
theorem zne_evs (h : OfE r a) (k : OfE r e) : ({ e with evs := e.evs ++ [zPl] } : EntD) ≠ a := fun q => by
  have e1 : a.evs = e.evs ++ [zPl] := by rw [← q]
  have e2 := (h.two k).2.2.2.2.2.2.2
  rw [e1, List.length_append] at e2
  simp at e2
end

/-- The entry z, in its block Z: its slices of Ops and events are the call's own. -/
structure SG (w0 w : World) (Z : Nat) (e : EntD) (v1 v2 vp : Value) : Prop where
  el : w.heap[Z]? = some (.cells (entCells e v1 v2 vp) 40 (0, 0))
  own1 : w.ownsRow 0 47 4 v1 (e.ops.map opCells).length (e.ops.map opCells).flatten
  own2 : w.ownsRow 0 51 9 v2 (e.evs.map plCells).length (e.evs.map plCells).flatten
  row1 : ∀ g, v1.ownBlock = some g → w0.heap.size ≤ g ∧ g ≠ Z
  row2 : ∀ g, v2.ownBlock = some g → w0.heap.size ≤ g ∧ g ≠ Z
  dj : ∀ g, v1.ownBlock = some g → v2.ownBlock = some g → False
  opn : Sl w (fun b => b < w0.heap.size) 1 vp (e.opn.map numCells)
  same : Same w0 w
  old : w0.heap.size ≤ Z
section
variable {w0 w w' w2 : World} {Z : Nat} {e : EntD} {v1 v2 vp v' : Value}
theorem SG.keep (h : SG w0 w Z e v1 v2 vp) (hs : Same w w') : SG w0 w' Z e v1 v2 vp :=
  ⟨hs.at_ h.el (fun h => h), ownsRow_keep' h.own1 hs (fun _ _ h => h), ownsRow_keep' h.own2 hs (fun _ _ h => h), h.row1, h.row2, h.dj, h.opn.same hs, h.same.trans hs, h.old⟩
theorem SG.size (h : SG w0 w Z e v1 v2 vp) : Z < w.heap.size := lt_of_block h.el
theorem SG.begin {F : Nat → Prop} {uo ue : Value} (h : EntS w0 F e uo ue vp) (hF : ∀ b, F b → b < w0.heap.size) (ht : TurnPost w0 47 51 e v1 v2 w) : SG w0 (w.alloc (.cells (entCells e v1 v2 vp) 40)) w.heap.size e v1 v2 vp := by
  have hc := Chg.alloc_ (fun _ => False) w (.cells (entCells e v1 v2 vp) 40)
  have hs := ht.same.trans hc
  have o1 := ht.own1
  have o2 := ht.own2
  refine ⟨heap_alloc_new w _, by rw [List.length_map]; exact ownsRow_keep' o1 hc (fun _ _ h => h), by rw [List.length_map]; exact ownsRow_keep' o2 hc (fun _ _ h => h), ?_, ?_, ht.dj, ?_, hs, ht.same.size⟩
  · intro g hg
    have := (World.ownsRow.lt o1 g hg).2
    exact ⟨ht.row1 g hg, by omega⟩
  · intro g hg
    have := (World.ownsRow.lt o2 g hg).2
    exact ⟨ht.row2 g hg, by omega⟩
  · exact (h.opn.mono (numCells_pos _) (fun b _ hb => hF b hb)).same hs
/-- A cell that is no slice is written. -/
theorem SG.store (h : SG w0 w Z e v1 v2 vp) (i : Nat) (u : Value) (e' : EntD) (hx : (entCells e v1 v2 vp).setIfInBounds i u = entCells e' v1 v2 vp) (h1 : e'.ops = e.ops) (h2 : e'.evs = e.evs) (h3 : e'.opn = e.opn) :
    SG w0 (w.setCell ⟨Z, i, none⟩ u) Z e' v1 v2 vp := by
  have hc : Chg (fun k => k = Z) w (w.setCell ⟨Z, i, none⟩ u) := Chg.setCell (S := fun k => k = Z) (Chg.refl _ w) (p := ⟨Z, i, none⟩) (fun _ => rfl) _
  have ho := h.old
  refine ⟨?_, by rw [h1]; exact ownsRow_keep' h.own1 hc (fun g hg e => (h.row1 g hg).2 e), by rw [h2]; exact ownsRow_keep' h.own2 hc (fun g hg e => (h.row2 g hg).2 e), h.row1, h.row2, h.dj, by rw [h3]; exact h.opn.keep hc (fun b hb q => by have q' : b = Z := q; have hb' : b < w0.heap.size := hb; omega), h.same.since hc (fun k hk => by have q' : k = Z := hk; omega), h.old⟩
  rw [← hx]
  simp [World.setCell, Array.getElem?_modify, h.el]
theorem SG.more1 (h : SG w0 w Z e v1 v2 vp) (o : Obj) (d : OpD) (ho : w2.ownsRow 0 47 4 v' ((e.ops.map opCells).length + 1) ((e.ops.map opCells).flatten ++ opCells d)) (hg : (w.alloc o).grownBy w2 v1.ownBlock) (hat : v'.ownBlock = v1.ownBlock ∨ v'.ownBlock = some (w.alloc o).heap.size) :
    SG w0 (w2.setCell ⟨Z, 4, none⟩ v') Z { e with ops := e.ops ++ [d] } v' v2 vp := by
  have hc : Chg (fun k => v1.ownBlock = some k) (w.alloc o) w2 := Chg.of_grown hg (fun k h => h)
  have ha := h.keep (Chg.alloc_ _ w o)
  have hz := ha.size
  have hnE : ¬ v1.ownBlock = some Z := fun e => (h.row1 Z e).2 rfl
  have hws := ha.same.size
  have hrow : ∀ g, v'.ownBlock = some g → w0.heap.size ≤ g ∧ g ≠ Z := by
    intro g hg'
    rcases hat with e | e
    · rw [e] at hg'; exact h.row1 g hg'
    · rw [e] at hg'; injection hg' with hg'; omega
  have hcE : Chg (fun k => k = Z) w2 (w2.setCell ⟨Z, 4, none⟩ v') := Chg.setCell (S := fun k => k = Z) (Chg.refl _ w2) (p := ⟨Z, 4, none⟩) (fun _ => rfl) _
  have hold := h.old
  have hsm : Same w0 w2 := ha.same.trans' hc (fun i hi e => by have := (h.row1 i e).1; omega)
  refine ⟨?_, ?_, ?_, hrow, h.row2, ?_, ?_, hsm.since hcE (fun k hk => by have q' : k = Z := hk; omega), h.old⟩
  · have he := hc.at_ ha.el hnE
    simp [World.setCell, Array.getElem?_modify, he, entCells]
  · have e1 : (({ e with ops := e.ops ++ [d] } : EntD).ops.map opCells).length = (e.ops.map opCells).length + 1 := by simp
    have e2 : (({ e with ops := e.ops ++ [d] } : EntD).ops.map opCells).flatten = (e.ops.map opCells).flatten ++ opCells d := by simp
    rw [e1, e2]
    exact ownsRow_setCell_other ho (fun e => (hrow Z e).2 rfl) _
  · exact ownsRow_keep' (ownsRow_keep' ha.own2 hc (fun g hg e => h.dj g e hg)) hcE (fun g hg e => (h.row2 g hg).2 e)
  · intro g g1 g2
    rcases hat with e | e
    · rw [e] at g1; exact h.dj g g1 g2
    · rw [e] at g1; injection g1 with g1
      have := (World.ownsRow.lt ha.own2 g g2).2
      omega
  · refine (ha.opn.keep hc (fun b hb q => by have hb' : b < w0.heap.size := hb; have := (h.row1 b q).1; omega)).keep hcE (fun b hb q => by have q' : b = Z := q; have hb' : b < w0.heap.size := hb; omega)
theorem SG.more2 (h : SG w0 w Z e v1 v2 vp) (o : Obj) (d : PlD) (ho : w2.ownsRow 0 51 9 v' ((e.evs.map plCells).length + 1) ((e.evs.map plCells).flatten ++ plCells d)) (hg : (w.alloc o).grownBy w2 v2.ownBlock) (hat : v'.ownBlock = v2.ownBlock ∨ v'.ownBlock = some (w.alloc o).heap.size) :
    SG w0 (w2.setCell ⟨Z, 5, none⟩ v') Z { e with evs := e.evs ++ [d] } v1 v' vp := by
  have hc : Chg (fun k => v2.ownBlock = some k) (w.alloc o) w2 := Chg.of_grown hg (fun k h => h)
  have ha := h.keep (Chg.alloc_ _ w o)
  have hz := ha.size
  have hnE : ¬ v2.ownBlock = some Z := fun e => (h.row2 Z e).2 rfl
  have hws := ha.same.size
  have hrow : ∀ g, v'.ownBlock = some g → w0.heap.size ≤ g ∧ g ≠ Z := by
    intro g hg'
    rcases hat with e | e
    · rw [e] at hg'; exact h.row2 g hg'
    · rw [e] at hg'; injection hg' with hg'; omega
  have hcE : Chg (fun k => k = Z) w2 (w2.setCell ⟨Z, 5, none⟩ v') := Chg.setCell (S := fun k => k = Z) (Chg.refl _ w2) (p := ⟨Z, 5, none⟩) (fun _ => rfl) _
  have hold := h.old
  have hsm : Same w0 w2 := ha.same.trans' hc (fun i hi e => by have := (h.row2 i e).1; omega)
  refine ⟨?_, ?_, ?_, h.row1, hrow, ?_, ?_, hsm.since hcE (fun k hk => by have q' : k = Z := hk; omega), h.old⟩
  · have he := hc.at_ ha.el hnE
    simp [World.setCell, Array.getElem?_modify, he, entCells]
  · exact ownsRow_keep' (ownsRow_keep' ha.own1 hc (fun g hg e => h.dj g hg e)) hcE (fun g hg e => (h.row1 g hg).2 e)
  · have e1 : (({ e with evs := e.evs ++ [d] } : EntD).evs.map plCells).length = (e.evs.map plCells).length + 1 := by simp
    have e2 : (({ e with evs := e.evs ++ [d] } : EntD).evs.map plCells).flatten = (e.evs.map plCells).flatten ++ plCells d := by simp
    rw [e1, e2]
    exact ownsRow_setCell_other ho (fun e => (hrow Z e).2 rfl) _
  · intro g g1 g2
    rcases hat with e | e
    · rw [e] at g2; exact h.dj g g1 g2
    · rw [e] at g2; injection g2 with g2
      have := (World.ownsRow.lt ha.own1 g g1).2
      omega
  · refine (ha.opn.keep hc (fun b hb q => by have hb' : b < w0.heap.size := hb; have := (h.row2 b q).1; omega)).keep hcE (fun b hb q => by have q' : b = Z := q; have hb' : b < w0.heap.size := hb; omega)
theorem SG.ents (h : SG w0 w Z e v1 v2 vp) : EntS w (fun b => b < w.heap.size) e v1 v2 vp :=
  EntS.lt (F := fun _ => True) ⟨Sl.of_own (by omega) h.own1 (by simp) (by intro x hx; obtain ⟨o, -, rfl⟩ := List.mem_map.1 hx; rfl) (fun _ _ => trivial),
   Sl.of_own (by omega) h.own2 (by simp) (by intro x hx; obtain ⟨o, -, rfl⟩ := List.mem_map.1 hx; rfl) (fun _ _ => trivial),
   h.opn.mono (numCells_pos _) (fun _ _ _ => trivial)⟩
end
end Go.Proofs.Ytdkankiohoocaaa
/- The law EntrySame: a region that draws its order, by what holds while it runs; and what holds while the law's first drawn region runs. -/
namespace Go.Proofs.Ytdkankiohoocaaa
set_option linter.unusedSimpArgs false
set_option linter.unusedVariables false
open Go Go.RowKit Go.Proofs

def updB (f : Nat → Bool) (i : Nat) : Nat → Bool := fun j => decide (j = i) || f j
section
variable {P : Program} {ops : Array Oper} {Q : Exit → Act → World → Prop} {md : Region.Mode}
theorem count_false_set (l : List Bool) (i : Nat) (h : l[i]? = some false) : (l.set i true).count false + 1 = l.count false := by
  induction l generalizing i with
  | nil => simp at h
  | cons b l ih =>
    cases i with
    | zero =>
      simp at h
      subst h
      simp
    | succ i =>
      have h' : l[i]? = some false := by simpa using h
      have := ih i h'
      rw [List.set_cons_succ, List.count_cons, List.count_cons]
      omega
theorem count_false_zero (l : List Bool) (h : l.count false = 0) (i : Nat) (hi : i < l.length) : l[i]? = some true := by
  rw [List.count_eq_zero] at h
  have := List.getElem_mem hi
  cases hb : l[i] with
  | true => rw [List.getElem?_eq_getElem hi, hb]
  | false => rw [hb] at this; exact absurd this h
/-- Whatever order is picked from here on, by what holds meanwhile. -/
theorem wpAny_inv (I : (Nat → Bool) → Act → World → Prop) (hdag : ∀ (i : Nat) (o : Oper), ops[i]? = some o → ∀ e ∈ o.after, e.on < i)
    (hstep : ∀ f a w, I f a w → ∀ i, i < ops.size → f i = false → (∀ o : Oper, ops[i]? = some o → ∀ e ∈ o.after, Region.binds md e = true → f e.on = true) → wpOp P ops Q i (I (updB f i)) a w)
    (hend : ∀ f a w, I f a w → (∀ i, i < ops.size → f i = true) → Q .normal a w) :
    ∀ (fuel : Nat) (listed : Array Bool) (a : Act) (w : World), listed.size = ops.size → listed.toList.count false ≤ fuel → I (fun j => listed.getD j false) a w → wpAny P md ops Q fuel listed a w := by
  intro fuel
  have hgt : ∀ (listed : Array Bool) (j : Nat), j < listed.size → listed.getD j true = listed.getD j false := fun listed j hj => by simp [hj]
  have hall : ∀ (listed : Array Bool), listed.size = ops.size → Region.ready md ops listed = [] → ∀ i, i < ops.size → listed.getD i false = true := by
    intro listed hsz hr i
    induction i using Nat.strongRecOn with
    | ind i ih =>
      intro hi
      cases hb : listed.getD i false with
      | true => rfl
      | false =>
        have hm : i ∈ Region.ready md ops listed := mem_ready.2 ⟨by rw [hgt _ _ (by omega)]; exact hb, ops[i], Array.getElem?_eq_getElem hi, fun e he _ => by
          have := hdag i _ (Array.getElem?_eq_getElem hi) e he
          exact ih _ this (by omega)⟩
        rw [hr] at hm
        cases hm
  induction fuel with
  | zero =>
    intro listed a w hsz hc hI
    have h1 : ∀ i, i < ops.size → listed.getD i false = true := fun i hi => by
      have := count_false_zero listed.toList (by omega) i (by simp; omega)
      simp at this
      simp [this]
    refine ⟨?_, hend _ _ _ hI h1⟩
    cases hr : Region.ready md ops listed with
    | nil => rfl
    | cons j rs =>
      have hm : j ∈ Region.ready md ops listed := by rw [hr]; exact List.mem_cons_self
      obtain ⟨h0, o, ho, -⟩ := mem_ready.1 hm
      have hlt : j < ops.size := (Array.getElem?_eq_some_iff.1 ho).1
      rw [hgt _ _ (by omega), h1 j hlt] at h0
      cases h0
  | succ fuel ih =>
    intro listed a w hsz hc hI
    refine ⟨fun hr => hend _ _ _ hI (hall listed hsz hr), fun i hi => ?_⟩
    obtain ⟨h0, o, ho, hd⟩ := mem_ready.1 hi
    have hlt : i < ops.size := (Array.getElem?_eq_some_iff.1 ho).1
    have h0' : listed.getD i false = false := by rw [← hgt _ _ (by omega)]; exact h0
    refine wpOp_mono (fun a' w' hI' => ih (listed.setIfInBounds i true) a' w' (by simp [hsz]) ?_ ?_) (hstep _ a w hI i hlt h0' (fun o' ho' e he hb => by
      rw [ho] at ho'
      injection ho' with ho'
      subst ho'
      exact hd e he hb))
    · have := count_false_set listed.toList i (by
        have hl : i < listed.size := by omega
        simp [hl] at h0'
        simp [hl, h0'])
      simp only [Array.toList_setIfInBounds]
      omega
    · have e : (fun j => (listed.setIfInBounds i true).getD j false) = updB (fun j => listed.getD j false) i := by
        funext j
        unfold updB
        by_cases hj : j = i
        · subst hj
          have hl : j < listed.size := by omega
          simp [hl]
        · rw [getD_set_ne false (fun q => hj q.symm)]
          simp [hj]
      rw [e]
      exact hI'
theorem wp_region_inv {id : Nat} {a : Act} {w : World} (hm : P.follows .mixedOrders = true) (I : (Nat → Bool) → Act → World → Prop) (hdag : ∀ (i : Nat) (o : Oper), ops[i]? = some o → ∀ e ∈ o.after, e.on < i)
    (h0 : I (fun _ => false) a w.drew)
    (hstep : ∀ f a w, I f a w → ∀ i, i < ops.size → f i = false → (∀ o : Oper, ops[i]? = some o → ∀ e ∈ o.after, Region.binds .any e = true → f e.on = true) → wpOp P ops Q i (I (updB f i)) a w)
    (hend : ∀ f a w, I f a w → (∀ i, i < ops.size → f i = true) → Q .normal a w) : (Code.region id ops true).wp P Q a w := by
  refine wp_region_any hm (wpAny_inv I hdag hstep hend _ _ _ _ (by simp) ?_ ?_)
  · have : (Array.replicate ops.size false).toList.count false ≤ (Array.replicate ops.size false).toList.length := List.count_le_length
    exact Nat.le_trans this (by simp)
  · have e : (fun j => (Array.replicate ops.size false).getD j false) = fun _ => false := by
      funext j
      by_cases hj : j < ops.size
      · simp [hj]
      · simp [hj]
    rw [e]
    exact h0
/-- One step, its way back shut. -/
theorem wpOp_shut {i : Nat} {o : Oper} {K : Act → World → Prop} {a : Act} {w : World} (ho : ops[i]? = some o)
    (h : ∀ K' : Act → World → Prop, Shut (∀ a w, K a w → K' a w) → if Region.wanted o (yielded ops a.tmps) = true then Oper.wp P o a w K' Q else K' (a.put o.dst undef) w) : wpOp P ops Q i K a w :=
  wpOp_step ho (fun K' hK => h K' hK)
end

/-- Each operation waits for earlier ones alone. -/
def dagB (ops : Array Oper) : Bool := (List.range ops.size).all fun i => match ops[i]? with
  | none => true
  | some o => o.after.all fun e => decide (e.on < i)
theorem dagB_spec {ops : Array Oper} (h : dagB ops = true) (i : Nat) (o : Oper) (ho : ops[i]? = some o) : ∀ e ∈ o.after, e.on < i := by
  have hi : i < ops.size := (Array.getElem?_eq_some_iff.1 ho).1
  have h1 := List.all_eq_true.1 h i (List.mem_range.2 hi)
  simp only [ho] at h1
  intro e he
  exact of_decide_eq_true (Array.all_eq_true_iff_forall_mem.1 h1 e he)
/-- A state in which six temporaries are other ones. -/
def put6 (a : Act) (u7 u8 u23 u24 u25 u26 : Value) : Act := (((((a.put (some 7) u7).put (some 8) u8).put (some 23) u23).put (some 24) u24).put (some 25) u25).put (some 26) u26
theorem wp_region_inv6 {P : Program} {ops : Array Oper} {Q : Exit → Act → World → Prop} {id : Nat} {a : Act} {w : World} (hm : P.follows .mixedOrders = true) (J : (Nat → Bool) → Value → Value → Value → Value → Value → Value → World → Prop)
    (hdag : dagB ops = true)
    (h0 : ∃ u7 u8 u23 u24 u25 u26, a = put6 a u7 u8 u23 u24 u25 u26 ∧ J (fun _ => false) u7 u8 u23 u24 u25 u26 w.drew)
    (hstep : ∀ f u7 u8 u23 u24 u25 u26 w, J f u7 u8 u23 u24 u25 u26 w → ∀ i, i < ops.size → f i = false → (∀ o : Oper, ops[i]? = some o → ∀ e ∈ o.after, Region.binds .any e = true → f e.on = true) → wpOp P ops Q i (fun a' w' => ∃ u7 u8 u23 u24 u25 u26, a' = put6 a u7 u8 u23 u24 u25 u26 ∧ J (updB f i) u7 u8 u23 u24 u25 u26 w') (put6 a u7 u8 u23 u24 u25 u26) w)
    (hend : ∀ f u7 u8 u23 u24 u25 u26 w, J f u7 u8 u23 u24 u25 u26 w → (∀ i, i < ops.size → f i = true) → Q .normal (put6 a u7 u8 u23 u24 u25 u26) w) : (Code.region id ops true).wp P Q a w := by
  refine wp_region_inv hm (fun f a' w' => ∃ u7 u8 u23 u24 u25 u26, a' = put6 a u7 u8 u23 u24 u25 u26 ∧ J f u7 u8 u23 u24 u25 u26 w') (dagB_spec hdag) h0 ?_ ?_
  · rintro f a' w' ⟨u7, u8, u23, u24, u25, u26, rfl, hJ⟩ i hi hfi hd
    exact hstep f u7 u8 u23 u24 u25 u26 w' hJ i hi hfi hd
  · rintro f a' w' ⟨u7, u8, u23, u24, u25, u26, rfl, hJ⟩ h
    exact hend f u7 u8 u23 u24 u25 u26 w' hJ h

/-- The address of a block. -/
abbrev ptrB (b : Nat) : Value := .pointer (some ⟨b, 0, none⟩)
theorem ptrB_inj {a b : Nat} (h : ptrB a = ptrB b) : a = b := by
  injection h with h
  injection h with h
  injection h
/-- An entry that holds nothing yet. -/
abbrev entZ : Array Value := #[.int .u8 0, .int .i64 0, .int .i64 0, .int .i64 0, .slice none 0 0, .slice none 0 0, .int .i64 0, .int .i64 0, .slice none 0 0, .int .i64 0, .string ⟨#[]⟩, .int .i64 0, .int .i64 0]
/-- One of the two entries while the region runs: its Raw is loaded (l), of was called (c), its variable was made (a), it was stored (s). G: the blocks of variables. -/
structure Hf (r : RawD) (R : Value) (w3 : World) (G : Nat → Prop) (l c a s : Bool) (pu ru eu : Value) (w : World) : Prop where
  ld : l = true → ru = R
  cl : c = true → ∃ e vo ve vp, eu = entV e vo ve vp ∧ EntS w (fun b => ¬ G b) e vo ve vp ∧ OfE r e
  al : a = true → ∃ B, pu = ptrB B ∧ w3.heap.size ≤ B ∧ B < w.heap.size ∧ (s = false → w.heap[B]? = some (.cells entZ 35 (0, 0)))
  st : s = true → c = true ∧ a = true ∧ ∀ B e vo ve vp, pu = ptrB B → eu = entV e vo ve vp → w.heap[B]? = some (.cells (entCells e vo ve vp) 35 (0, 0))
section
variable {r : RawD} {R : Value} {w3 w w' : World} {G G' S : Nat → Prop} {l c a s : Bool} {pu ru eu : Value}
theorem EntS.other {e : EntD} {vo ve vp : Value} {F : Nat → Prop} (h : EntS w F e vo ve vp) (hF : ∀ b, b < w.heap.size → F b → S b) : EntS w S e vo ve vp :=
  ⟨h.ops.mono (opCells_pos _) hF, h.evs.mono (plCells_pos _) hF, h.opn.mono (numCells_pos _) hF⟩
theorem Hf.keep (h : Hf r R w3 G l c a s pu ru eu w) (hc : Chg S w w') (h1 : ∀ b, S b → G b) (h2 : a = true → ∀ B, pu = ptrB B → ¬ S B) (h3 : ∀ b, b < w.heap.size → G' b → G b) : Hf r R w3 G' l c a s pu ru eu w' := by
  refine ⟨h.ld, ?_, ?_, ?_⟩
  · intro hcc
    obtain ⟨e, vo, ve, vp, e1, e2, e3⟩ := h.cl hcc
    exact ⟨e, vo, ve, vp, e1, (e2.other (S := fun b => ¬ G b ∧ ¬ G' b) (fun b hb hg => ⟨hg, fun q => hg (h3 b hb q)⟩)).keep hc (fun k hk q => hk.1 (h1 k q)) |>.other (fun b _ hg => hg.2), e3⟩
  · intro ha
    obtain ⟨B, e1, e2, e3, e4⟩ := h.al ha
    exact ⟨B, e1, e2, Nat.lt_of_lt_of_le e3 hc.size, fun q => hc.at_ (e4 q) (h2 ha B e1)⟩
  · intro hs
    obtain ⟨e1, e2, e3⟩ := h.st hs
    exact ⟨e1, e2, fun B e vo ve vp q1 q2 => hc.at_ (e3 B e vo ve vp q1 q2) (h2 e2 B q1)⟩
theorem Hf.load (h : Hf r R w3 G l c a s pu ru eu w) : Hf r R w3 G true c a s pu R eu w := ⟨fun _ => rfl, h.cl, h.al, h.st⟩
theorem Hf.call {e : EntD} {vo ve vp : Value} (h : Hf r R w3 G l false a s pu ru eu w) (hs : Same w w') (hE : EntS w' (fun b => w.heap.size ≤ b) e vo ve vp) (hO : OfE r e) (hG : ∀ b, G b → b < w.heap.size) : Hf r R w3 G l true a s pu ru (entV e vo ve vp) w' := by
  refine ⟨h.ld, fun _ => ⟨e, vo, ve, vp, rfl, hE.other (fun b _ hb q => by have hb' : w.heap.size ≤ b := hb; have := hG b q; omega), hO⟩, ?_, ?_⟩
  · intro ha
    obtain ⟨B, e1, e2, e3, e4⟩ := h.al ha
    exact ⟨B, e1, e2, Nat.lt_of_lt_of_le e3 hs.size, fun q => hs.at_ (e4 q) (fun h => h)⟩
  · intro q
    exact absurd (h.st q).1 (by simp)
theorem Hf.new (h : Hf r R w3 G l c false s pu ru eu w) (hw : w3.heap.size ≤ w.heap.size) (h3 : ∀ b, b < w.heap.size → G' b → G b) : Hf r R w3 G' l c true s (ptrB w.heap.size) ru eu (w.alloc (.cells entZ 35)) := by
  have hc := Chg.alloc_ (fun _ => False) w (.cells entZ 35)
  refine ⟨h.ld, ?_, fun _ => ⟨_, rfl, hw, by simp, fun _ => heap_alloc_new w _⟩, ?_⟩
  · intro hcc
    obtain ⟨e, vo, ve, vp, e1, e2, e3⟩ := h.cl hcc
    exact ⟨e, vo, ve, vp, e1, (e2.other (S := fun b => ¬ G' b) (fun b hb hg q => hg (h3 b hb q))).same hc, e3⟩
  · intro q
    exact absurd (h.st q).2.1 (by simp)
theorem Hf.put {B : Nat} {e : EntD} {vo ve vp : Value} (h : Hf r R w3 G l true true s (ptrB B) ru (entV e vo ve vp) w) (hc : Chg (fun k => k = B) w w') (hG : G B) (hr : w'.heap[B]? = some (.cells (entCells e vo ve vp) 35 (0, 0))) : Hf r R w3 G l true true true (ptrB B) ru (entV e vo ve vp) w' := by
  refine ⟨h.ld, ?_, ?_, fun _ => ⟨rfl, rfl, ?_⟩⟩
  · intro hcc
    obtain ⟨e', vo', ve', vp', e1, e2, e3⟩ := h.cl hcc
    exact ⟨e', vo', ve', vp', e1, e2.keep hc (fun k hk q => by have q' : k = B := q; subst q'; exact hk hG), e3⟩
  · intro ha
    obtain ⟨B', e1, e2, e3, e4⟩ := h.al ha
    exact ⟨B', e1, e2, Nat.lt_of_lt_of_le e3 hc.size, fun q => by cases q⟩
  · intro B' e' vo' ve' vp' q1 q2
    have := ptrB_inj q1
    subst this
    unfold entV at q2
    injection q2 with q2
    rw [← q2]
    exact hr
end
/-- The blocks of the two variables. -/
def G3 (f : Nat → Bool) (u7 u8 : Value) (b : Nat) : Prop := (f 4 = true ∧ u7 = ptrB b) ∨ (f 5 = true ∧ u8 = ptrB b)
/-- While the region runs. -/
structure J3 (ra rb : RawD) (RA RB : Value) (w3 : World) (f : Nat → Bool) (u7 u8 u23 u24 u25 u26 : Value) (w : World) : Prop where
  same : Same w3 w
  h1 : Hf ra RA w3 (G3 f u7 u8) (f 0) (f 1) (f 4) (f 6) u7 u23 u24 w
  h2 : Hf rb RB w3 (G3 f u7 u8) (f 2) (f 3) (f 5) (f 7) u8 u25 u26 w
  ne : f 4 = true → f 5 = true → u7 ≠ u8
section
variable {ra rb : RawD} {RA RB : Value} {w3 w w' : World} {f : Nat → Bool} {u7 u8 u23 u24 u25 u26 : Value}
theorem J3.begin (w3 : World) : J3 ra rb RA RB w3 (fun _ => false) u7 u8 u23 u24 u25 u26 w3.drew :=
  ⟨(Chg.refl _ w3).drew, ⟨fun h => by simp at h, fun h => by simp at h, fun h => by simp at h, fun h => by simp at h⟩, ⟨fun h => by simp at h, fun h => by simp at h, fun h => by simp at h, fun h => by simp at h⟩, fun h => by simp at h⟩
theorem J3.G (h : J3 ra rb RA RB w3 f u7 u8 u23 u24 u25 u26 w) (b : Nat) (hb : G3 f u7 u8 b) : b < w.heap.size ∧ w3.heap.size ≤ b := by
  rcases hb with ⟨h1, h2⟩ | ⟨h1, h2⟩
  · obtain ⟨B, e1, e2, e3, -⟩ := h.h1.al h1
    have := ptrB_inj (h2.symm.trans e1)
    omega
  · obtain ⟨B, e1, e2, e3, -⟩ := h.h2.al h1
    have := ptrB_inj (h2.symm.trans e1)
    omega
theorem J3.op0 (h : J3 ra rb RA RB w3 f u7 u8 u23 u24 u25 u26 w) : J3 ra rb RA RB w3 (updB f 0) u7 u8 RA u24 u25 u26 w := ⟨h.same, h.h1.load, h.h2, h.ne⟩
theorem J3.op2 (h : J3 ra rb RA RB w3 f u7 u8 u23 u24 u25 u26 w) : J3 ra rb RA RB w3 (updB f 2) u7 u8 u23 u24 RB u26 w := ⟨h.same, h.h1, h.h2.load, h.ne⟩
theorem J3.op1 {e : EntD} {vo ve vp : Value} (h : J3 ra rb RA RB w3 f u7 u8 u23 u24 u25 u26 w) (hf : f 1 = false) (hs : Same w w') (hE : EntS w' (fun b => w.heap.size ≤ b) e vo ve vp) (hO : OfE ra e) : J3 ra rb RA RB w3 (updB f 1) u7 u8 u23 (entV e vo ve vp) u25 u26 w' := by
  have h1 := h.h1
  rw [hf] at h1
  exact ⟨h.same.trans hs, h1.call hs hE hO (fun b hb => (h.G b hb).1), h.h2.keep hs (fun _ h => h.elim) (fun _ _ _ h => h) (fun _ _ h => h), h.ne⟩
theorem J3.op3 {e : EntD} {vo ve vp : Value} (h : J3 ra rb RA RB w3 f u7 u8 u23 u24 u25 u26 w) (hf : f 3 = false) (hs : Same w w') (hE : EntS w' (fun b => w.heap.size ≤ b) e vo ve vp) (hO : OfE rb e) : J3 ra rb RA RB w3 (updB f 3) u7 u8 u23 u24 u25 (entV e vo ve vp) w' := by
  have h2 := h.h2
  rw [hf] at h2
  exact ⟨h.same.trans hs, h.h1.keep hs (fun _ h => h.elim) (fun _ _ _ h => h) (fun _ _ h => h), h2.call hs hE hO (fun b hb => (h.G b hb).1), h.ne⟩
theorem J3.op4 (h : J3 ra rb RA RB w3 f u7 u8 u23 u24 u25 u26 w) (hf : f 4 = false) : J3 ra rb RA RB w3 (updB f 4) (ptrB w.heap.size) u8 u23 u24 u25 u26 (w.alloc (.cells entZ 35)) := by
  have hc := Chg.alloc_ (fun _ => False) w (.cells entZ 35)
  have h3 : ∀ b, b < w.heap.size → G3 (updB f 4) (ptrB w.heap.size) u8 b → G3 f u7 u8 b := by
    intro b hb hg
    rcases hg with ⟨-, q⟩ | q
    · have := ptrB_inj q; omega
    · exact .inr q
  have h1 := h.h1
  rw [hf] at h1
  refine ⟨h.same.trans hc, h1.new h.same.size h3, h.h2.keep hc (fun _ h => h.elim) (fun _ _ _ h => h) h3, fun _ h5 e => ?_⟩
  obtain ⟨B, e1, e2, e3, -⟩ := h.h2.al h5
  have := ptrB_inj (e.trans e1)
  omega
theorem J3.op5 (h : J3 ra rb RA RB w3 f u7 u8 u23 u24 u25 u26 w) (hf : f 5 = false) : J3 ra rb RA RB w3 (updB f 5) u7 (ptrB w.heap.size) u23 u24 u25 u26 (w.alloc (.cells entZ 35)) := by
  have hc := Chg.alloc_ (fun _ => False) w (.cells entZ 35)
  have h3 : ∀ b, b < w.heap.size → G3 (updB f 5) u7 (ptrB w.heap.size) b → G3 f u7 u8 b := by
    intro b hb hg
    rcases hg with q | ⟨-, q⟩
    · exact .inl q
    · have := ptrB_inj q; omega
  have h2 := h.h2
  rw [hf] at h2
  refine ⟨h.same.trans hc, h.h1.keep hc (fun _ h => h.elim) (fun _ _ _ h => h) h3, h2.new h.same.size h3, fun h4 _ e => ?_⟩
  obtain ⟨B, e1, e2, e3, -⟩ := h.h1.al h4
  have := ptrB_inj (e1.symm.trans e)
  omega
theorem J3.op6 {B : Nat} {e : EntD} {vo ve vp : Value} (h : J3 ra rb RA RB w3 f (ptrB B) u8 u23 (entV e vo ve vp) u25 u26 w) (h1 : f 1 = true) (h4 : f 4 = true) (hc : Chg (fun k => k = B) w w') (hr : w'.heap[B]? = some (.cells (entCells e vo ve vp) 35 (0, 0))) : J3 ra rb RA RB w3 (updB f 6) (ptrB B) u8 u23 (entV e vo ve vp) u25 u26 w' := by
  have g1 := h.h1
  have hg : G3 f (ptrB B) u8 B := .inl ⟨h4, rfl⟩
  rw [h1, h4] at g1
  have g2 := g1.put hc hg hr
  refine ⟨h.same.since hc (fun k hk => by have hk' : k = B := hk; subst hk'; exact (h.G _ hg).2), ?_, h.h2.keep hc (fun b hb => by have hb' : b = B := hb; subst hb'; exact hg) (fun h5 Q q hb => by have hb' : Q = B := hb; subst hb'; exact h.ne h4 h5 q.symm) (fun _ _ h => h), h.ne⟩
  show Hf ra RA w3 (G3 f (ptrB B) u8) (f 0) (f 1) (f 4) true (ptrB B) u23 (entV e vo ve vp) w'
  rw [h1, h4]
  exact g2
theorem J3.op7 {B : Nat} {e : EntD} {vo ve vp : Value} (h : J3 ra rb RA RB w3 f u7 (ptrB B) u23 u24 u25 (entV e vo ve vp) w) (h1 : f 3 = true) (h4 : f 5 = true) (hc : Chg (fun k => k = B) w w') (hr : w'.heap[B]? = some (.cells (entCells e vo ve vp) 35 (0, 0))) : J3 ra rb RA RB w3 (updB f 7) u7 (ptrB B) u23 u24 u25 (entV e vo ve vp) w' := by
  have g1 := h.h2
  have hg : G3 f u7 (ptrB B) B := .inr ⟨h4, rfl⟩
  rw [h1, h4] at g1
  have g2 := g1.put hc hg hr
  refine ⟨h.same.since hc (fun k hk => by have hk' : k = B := hk; subst hk'; exact (h.G _ hg).2), h.h1.keep hc (fun b hb => by have hb' : b = B := hb; subst hb'; exact hg) (fun h5 Q q hb => by have hb' : Q = B := hb; subst hb'; exact h.ne h5 h4 q) (fun _ _ h => h), ?_, h.ne⟩
  show Hf rb RB w3 (G3 f u7 (ptrB B)) (f 2) (f 3) (f 5) true (ptrB B) u25 (entV e vo ve vp) w'
  rw [h1, h4]
  exact g2
theorem J3.ends (h : J3 ra rb RA RB w3 f u7 u8 u23 u24 u25 u26 w) (hf : ∀ i, i < 8 → f i = true) :
    ∃ (P Q : Nat) (ea eb : EntD) (uao uae uap ubo ube ubp : Value), u7 = .pointer (some ⟨P, 0, none⟩) ∧ u8 = .pointer (some ⟨Q, 0, none⟩) ∧ w.heap[P]? = some (.cells (entCells ea uao uae uap) 35) ∧ w.heap[Q]? = some (.cells (entCells eb ubo ube ubp) 35) ∧ EntS w (fun b => b < w.heap.size) ea uao uae uap ∧ EntS w (fun b => b < w.heap.size) eb ubo ube ubp ∧ OfE ra ea ∧ OfE rb eb ∧ Same w3 w := by
  obtain ⟨P, p1, -, -, -⟩ := h.h1.al (hf 4 (by omega))
  obtain ⟨Q, q1, -, -, -⟩ := h.h2.al (hf 5 (by omega))
  obtain ⟨ea, uao, uae, uap, a1, a2, a3⟩ := h.h1.cl (hf 1 (by omega))
  obtain ⟨eb, ubo, ube, ubp, b1, b2, b3⟩ := h.h2.cl (hf 3 (by omega))
  exact ⟨P, Q, ea, eb, uao, uae, uap, ubo, ube, ubp, p1, q1, (h.h1.st (hf 6 (by omega))).2.2 _ _ _ _ _ p1 a1, (h.h2.st (hf 7 (by omega))).2.2 _ _ _ _ _ q1 b1, a2.lt, b2.lt, a3, b3, h.same⟩
end
end Go.Proofs.Ytdkankiohoocaaa
