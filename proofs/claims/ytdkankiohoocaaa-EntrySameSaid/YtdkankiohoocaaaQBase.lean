/- Words on memory for all of this seat's walks: what a call may have changed, a slice that reads as bytes, a slice that the call owns. No program in sight. -/
import Derived.WalkKit
import Derived.Deep.Draws
import Derived.Deep.AppendLies
import Derived.Maps.AppendAt
import Derived.RegionTactic
import Derived.OwnWalk
import Derived.Lib.Hide
namespace Go.Proofs.Ytdkankiohoocaaa
set_option linter.unusedSimpArgs false
set_option linter.unusedVariables false
open Go Go.RowKit

/-- w' is w, but for new blocks and for what lies in the blocks of S. -/
structure Chg (S : Nat → Prop) (w w' : World) : Prop where
  os : w'.os = w.os
  tape : w'.tape = w.tape
  output : w'.output = w.output
  size : w.heap.size ≤ w'.heap.size
  block : ∀ k, k < w.heap.size → ¬ S k → w'.heap[k]? = w.heap[k]?

/-- Nothing that was there has turned. -/
abbrev Same (w w' : World) : Prop := Chg (fun _ => False) w w'

/-- F' is F, but for blocks that are new in w'. -/
def New (F F' : Nat → Prop) (w w' : World) : Prop := ∀ k, F' k → F k ∨ (w.heap.size ≤ k ∧ k < w'.heap.size)
/-- No block in common. -/
def Dj (F G : Nat → Prop) : Prop := ∀ k, F k → G k → False
/-- All blocks are there. -/
def Lt (F : Nat → Prop) (w : World) : Prop := ∀ k, F k → k < w.heap.size

section
variable {S T F F' G : Nat → Prop} {w w1 w2 w' : World}

theorem Chg.refl (S : Nat → Prop) (w : World) : Chg S w w := ⟨rfl, rfl, rfl, Nat.le_refl _, fun _ _ _ => rfl⟩
theorem Chg.trans' (h : Chg S w w1) (k : Chg T w1 w2) (hT : ∀ i, i < w.heap.size → T i → S i) : Chg S w w2 :=
  ⟨k.os.trans h.os, k.tape.trans h.tape, k.output.trans h.output, Nat.le_trans h.size k.size, fun i hi hS => (k.block i (Nat.lt_of_lt_of_le hi h.size) (fun ht => hS (hT i hi ht))).trans (h.block i hi hS)⟩
theorem Chg.trans (h : Chg S w w1) (k : Chg S w1 w2) : Chg S w w2 := h.trans' k (fun _ _ h => h)
theorem Chg.mono (h : Chg S w w') (hS : ∀ i, S i → T i) : Chg T w w' := ⟨h.os, h.tape, h.output, h.size, fun i hi ht => h.block i hi (fun hs => ht (hS i hs))⟩
theorem Chg.mono' (h : Chg S w w') (hS : ∀ i, i < w.heap.size → S i → T i) : Chg T w w' := ⟨h.os, h.tape, h.output, h.size, fun i hi ht => h.block i hi (fun hs => ht (hS i hi hs))⟩
theorem Same.any (h : Same w w') (S : Nat → Prop) : Chg S w w' := h.mono (fun _ h => h.elim)
theorem Chg.drew (h : Chg S w w') : Chg S w w'.drew := ⟨h.os, h.tape, h.output, h.size, h.block⟩
theorem Chg.drewN (h : Chg S w w') (n : Nat) : Chg S w (w'.drewN n) := ⟨h.os, h.tape, h.output, h.size, h.block⟩
theorem Chg.alloc (h : Chg S w w') (o : Obj) : Chg S w (w'.alloc o) :=
  h.trans' (T := S) ⟨rfl, rfl, rfl, by simp, fun k hk _ => Below.heap_alloc _ _ _ hk⟩ (fun _ _ h => h)
theorem Chg.setCell (h : Chg S w w') {p : Addr} (hp : p.block < w.heap.size → S p.block) (u : Value) : Chg S w (w'.setCell p u) :=
  h.trans' (T := (· = p.block)) ⟨rfl, rfl, rfl, by simp, fun k _ hne => Below.heap_setCell _ _ _ _ hne⟩ (fun i hi e => by subst e; exact hp hi)
theorem Chg.grown (h : Chg S w w1) {row : Option Nat} (hg : w1.grownBy w2 row) (hr : ∀ k, row = some k → k < w.heap.size → S k) : Chg S w w2 :=
  h.trans' (T := fun k => row = some k) ⟨hg.os, hg.tape, hg.output, hg.size, fun k hk hne => hg.block k hk (fun e => hne e.symm)⟩ (fun i hi e => hr i e hi)
theorem Chg.of_grown {row : Option Nat} (hg : w.grownBy w' row) (hr : ∀ k, row = some k → S k) : Chg S w w' := (Chg.refl S w).grown hg (fun k hk _ => hr k hk)
theorem Chg.of_below {B : Nat} (h : Below B w w') (hB : B = w.heap.size) : Same w w' := ⟨h.os, h.tape, h.output, h.size, fun k hk _ => h.block k (by omega)⟩
theorem Chg.below (h : Chg S w w') {B : Nat} (hB : B ≤ w.heap.size) (hS : ∀ k, k < B → ¬ S k) : Below B w w' := ⟨h.os, h.tape, h.output, h.size, fun k hk => h.block k (by omega) (hS k hk)⟩
theorem Same.below (h : Same w w') : Below w.heap.size w w' := ⟨h.os, h.tape, h.output, h.size, fun k hk => h.block k hk (fun h => h)⟩
theorem Chg.cell (h : Chg S w w') {p : Addr} (hp : p.block < w.heap.size) (hS : ¬ S p.block) : w'.cell? p = w.cell? p := World.cell?_of_block (h.block _ hp hS)
theorem Chg.frozen (h : Chg S w w') {p : Addr} (hp : p.block < w.heap.size) (hS : ¬ S p.block) : w'.frozen? p = w.frozen? p := World.frozen?_of_block (h.block _ hp hS)
theorem Chg.at_ (h : Chg S w w') {g : Nat} {o : Obj} (ho : w.heap[g]? = some o) (hS : ¬ S g) : w'.heap[g]? = some o := (h.block g (lt_of_block ho) hS).trans ho

theorem cell_lt {p : Addr} {v : Value} (h : w.cell? p = some v) : p.block < w.heap.size := World.block_lt_of_cell? w p h
theorem Chg.cell' (h : Chg S w w') {p : Addr} {v : Value} (hc : w.cell? p = some v) (hS : ¬ S p.block) : w'.cell? p = some v := (h.cell (cell_lt hc) hS).trans hc

theorem New.refl (F : Nat → Prop) (w w' : World) : New F F w w' := fun _ h => .inl h
theorem New.trans {F'' : Nat → Prop} (h : New F F' w w1) (k : New F' F'' w1 w2) (hs : w.heap.size ≤ w1.heap.size) (hs' : w1.heap.size ≤ w2.heap.size) : New F F'' w w2 := fun i hi => by
  rcases k i hi with h1 | h1
  · rcases h i h1 with h2 | h2
    · exact .inl h2
    · exact .inr ⟨h2.1, by omega⟩
  · exact .inr ⟨by omega, h1.2⟩
theorem New.dj (h : New F F' w w') (hd : Dj G F) (hl : Lt G w) : Dj G F' := fun k hG hF => by
  rcases h k hF with h1 | h1
  · exact hd k hG h1
  · have := hl k hG; omega
theorem New.lt (h : New F F' w w') (hl : Lt F w) (hs : w.heap.size ≤ w'.heap.size) : Lt F' w' := fun k hF => by
  rcases h k hF with h1 | h1
  · have := hl k h1; omega
  · exact h1.2
theorem Lt.mono (h : Lt F w) (hs : w.heap.size ≤ w'.heap.size) : Lt F w' := fun k hk => Nat.lt_of_lt_of_le (h k hk) hs
theorem Dj.symm (h : Dj F G) : Dj G F := fun k a b => h k b a
theorem Dj.not (h : Dj F G) {k : Nat} (hk : F k) : ¬ G k := h k hk
end

/-! ### bytes -/
/-- A byte's value. -/
abbrev bval (b : UInt8) : Value := .int .u8 (b.toNat : Int)
/-- Bytes' values. -/
def bvs (l : List UInt8) : List Value := l.map bval
@[simp] theorem bvs_length (l : List UInt8) : (bvs l).length = l.length := by simp [bvs]
theorem bvs_append (a b : List UInt8) : bvs (a ++ b) = bvs a ++ bvs b := by simp [bvs]
theorem bvs_nil : bvs [] = [] := rfl
theorem bvs_one (b : UInt8) : bvs [b] = [.int .u8 (b.toNat : Int)] := rfl
theorem bvs_get (l : List UInt8) (i : Nat) : (bvs l)[i]? = (l[i]?).map bval := by simp [bvs]
theorem bvs_oneCell (l : List UInt8) : ∀ u ∈ bvs l, u.oneCell' = true := by
  intro u hu
  obtain ⟨x, _, rfl⟩ := List.mem_map.1 hu
  rfl

/-- The slice value v reads as the bytes l, which lie in a block of F (where there is one). -/
def Bs (w : World) (F : Nat → Prop) (v : Value) (l : List UInt8) : Prop :=
  ∃ A cap, v = .slice A l.length cap ∧ l.length ≤ cap ∧ cap ≤ maxLen ∧
    (0 < l.length → ∃ b o, A = some ⟨b, o, none⟩ ∧ F b ∧ ∀ i x, l[i]? = some x → w.cell? ⟨b, o + i, none⟩ = some (.int .u8 (x.toNat : Int)))

/-- The slice value v is one of the call's own (of its blocks from base on), and holds the bytes l. -/
abbrev Own (w : World) (base : Nat) (v : Value) (l : List UInt8) : Prop := w.ownsRow base 5 1 v l.length (bvs l)

section
variable {S F G : Nat → Prop} {w w' : World} {v : Value} {l : List UInt8}
theorem Bs.nil_ (w : World) (F : Nat → Prop) : Bs w F (.slice none 0 0) [] := ⟨none, 0, rfl, Nat.le_refl _, Nat.zero_le _, fun h => absurd h (by simp)⟩
theorem Bs.keep (h : Bs w F v l) (hc : Chg S w w') (hd : ∀ k, F k → ¬ S k) : Bs w' F v l := by
  obtain ⟨A, cap, rfl, h1, h2, h3⟩ := h
  refine ⟨A, cap, rfl, h1, h2, fun h0 => ?_⟩
  obtain ⟨b, o, hA, hF, hx⟩ := h3 h0
  exact ⟨b, o, hA, hF, fun i x hi => hc.cell' (hx i x hi) (hd b hF)⟩
theorem Bs.same (h : Bs w F v l) (hc : Same w w') : Bs w' F v l := h.keep hc (fun _ _ h => h)
theorem Bs.mono (h : Bs w F v l) (hF : ∀ k, k < w.heap.size → F k → G k) : Bs w G v l := by
  obtain ⟨A, cap, rfl, h1, h2, h3⟩ := h
  refine ⟨A, cap, rfl, h1, h2, fun h0 => ?_⟩
  obtain ⟨b, o, hA, hF', hx⟩ := h3 h0
  have hlt : b < w.heap.size := cell_lt (hx 0 l[0] (List.getElem?_eq_getElem h0))
  exact ⟨b, o, hA, hF b hlt hF', hx⟩
theorem Bs.drewN (h : Bs w F v l) (n : Nat) : Bs (w.drewN n) F v l := h
theorem Own.bs {base : Nat} (h : Own w base v l) (hF : ∀ g, v.ownBlock = some g → F g) : Bs w F v l := by
  obtain ⟨h1, h2⟩ := h
  rcases h2 with ⟨rfl, h0⟩ | ⟨g, cap, cur, rfl, hb, hg, hn, hc, hs, ht⟩
  · exact ⟨none, 0, by rw [h0], by omega, Nat.zero_le _, fun h => absurd h (by omega)⟩
  · refine ⟨_, cap, rfl, hn, hc, fun _ => ⟨g, 0, rfl, hF g rfl, fun i x hi => ?_⟩⟩
    have hl : i < l.length := (List.getElem?_eq_some_iff.1 hi).1
    rw [cell_of_row w g (0 + i) cur _ (0, 0) hg]
    have e : (cur.toList.take (l.length * 1))[i]? = some (bval x) := by rw [ht, bvs_get, hi]; rfl
    rw [List.getElem?_take] at e
    split at e
    · simpa using e
    · cases e
theorem Own.keep {base : Nat} (h : Own w base v l) (hc : Chg S w w') (hS : ∀ g, v.ownBlock = some g → ¬ S g) : Own w' base v l := by
  obtain ⟨h1, h2⟩ := h
  refine ⟨h1, ?_⟩
  rcases h2 with h0 | ⟨g, cap, cur, rfl, hb, hg, r⟩
  · exact .inl h0
  · exact .inr ⟨g, cap, cur, rfl, hb, hc.at_ hg (hS g rfl), r⟩
theorem Own.lt {base : Nat} (h : Own w base v l) {g : Nat} (hg : v.ownBlock = some g) : base ≤ g ∧ g < w.heap.size := World.ownsRow.lt h g hg
theorem Own.nil_ (w : World) (base : Nat) : Own w base (.slice none 0 0) [] := World.ownsRow_nil _ _ _ _
theorem Own.weak {base base' : Nat} (h : Own w base v l) (hb : base' ≤ base) : Own w base' v l := by
  obtain ⟨h1, h2⟩ := h
  refine ⟨h1, ?_⟩
  rcases h2 with h0 | ⟨g, cap, cur, rfl, hb', r⟩
  · exact .inl h0
  · exact .inr ⟨g, cap, cur, rfl, by omega, r⟩
end

theorem stop {p : Prop} (h : Hid p) : p := h
theorem unstop {p : Prop} (h : p) : Hid p := h

/-! ### append onto a slice of the call's own -/
section
variable {P : Program} (w : World)
theorem run_app (t ty e : TypeId) (i : TypeInfo) (z : Value) (size bytes : Nat) (ht : P.underlying t = some (.slice e)) (hi : P.info? e = some i) (hz : i.zero = some z)
    (hsize : i.size = size) (hby : i.bytes = bytes) (hzs : z.cells.size = size) (hsz : 0 < size)
    (v : Value) (n : Nat) (xs : List Value) (hown : w.ownsRow 0 e size v n xs)
    (A : Option Addr) (m c : Nat) (news : List Value) (hl : news.length = m * size) (hnews : 0 < m → ∃ ad, A = some ad ∧ ∀ j u, news[j]? = some u → w.cell? (ad.add j) = some u) (h1 : ∀ u ∈ news, u.oneCell' = true)
    (hbytes : (n + m) * bytes ≤ 140737488355328) (h63 : n + m ≤ maxLen) :
    ∃ A' cap' w', (Builtin.append_ #[t, t] ty #[v, .slice A m c]).run P w = .ok (.slice A' (n + m) cap') w' ∧ w'.ownsRow 0 e size (.slice A' (n + m) cap') (n + m) (xs ++ news) ∧ w.grownBy w' v.ownBlock ∧
      ((Value.slice A' (n + m) cap').ownBlock = v.ownBlock ∨ (Value.slice A' (n + m) cap').ownBlock = some w.heap.size) := by
  have form : ∀ {w' : World} {v' : Value} {k : Nat} {ys : List Value}, w'.ownsRow 0 e size v' k ys → ∃ A' cap', v' = .slice A' k cap' := by
    intro w' v' k ys h
    rcases h.2 with ⟨rfl, rfl⟩ | ⟨g, cap, cur, rfl, _⟩
    · exact ⟨_, _, rfl⟩
    · exact ⟨_, _, rfl⟩
  rcases Nat.eq_zero_or_pos m with rfl | hm
  · have hn : news = [] := List.eq_nil_of_length_eq_zero (by simpa using hl)
    subst hn
    rcases A with _ | ad
    · obtain ⟨A', cap', rfl⟩ := form hown
      refine ⟨A', cap', w, ?_, by simpa using hown, World.grownBy.refl w _, .inl rfl⟩
      rcases hown.2 with ⟨hv, h0⟩ | ⟨g, cap, cur, hv, _, _, hnc, _⟩
      · subst h0
        injection hv with h1 h2 h3
        subst h1; subst h3
        simp [Builtin.append_, run_underlying ht, sizeOf, typeInfo, hi, Builtin.lenOf, Builtin.firstCells]
      · injection hv with h1 h2 h3
        subst h1; subst h3
        simp [Builtin.append_, run_underlying ht, sizeOf, typeInfo, hi, Builtin.lenOf, Builtin.firstCells, hnc, storeCells]
    · obtain ⟨v', w', hr, h2, h3, _, h5⟩ := run_append_own_at (P := P) w 0 t ty e i z size bytes ht hi hz hsize hby hzs hsz v n xs hown ad 0 c [] (by simp) (by simp) (by simp) h63 hbytes (Nat.zero_le _)
      obtain ⟨A', cap', rfl⟩ := form h2
      exact ⟨A', cap', w', hr, h2, h3, h5⟩
  · obtain ⟨ad, rfl, hc⟩ := hnews hm
    obtain ⟨v', w', hr, h2, h3, _, h5⟩ := run_append_own_at (P := P) w 0 t ty e i z size bytes ht hi hz hsize hby hzs hsz v n xs hown ad m c news hl hc h1 h63 hbytes (Nat.zero_le _)
    obtain ⟨A', cap', rfl⟩ := form h2
    exact ⟨A', cap', w', hr, h2, h3, h5⟩

theorem wl_app {ops : Array Oper} {rest : List Oper} {o : Oper} {a : Act} {Q : Exit → Act → World → Prop} (hgd : o.guard = none) (s x : Operand) (t : TypeId)
    (ho : o.op = .call { callee := .builtin .append, args := #[s, x], argTypes := #[t, t] })
    (e : TypeId) (i : TypeInfo) (z : Value) (size bytes : Nat) (ht : P.underlying t = some (.slice e)) (hi : P.info? e = some i) (hz : i.zero = some z)
    (hsize : i.size = size) (hby : i.bytes = bytes) (hzs : z.cells.size = size) (hsz : 0 < size)
    (v : Value) (n : Nat) (xs : List Value) (hs : a.eval s = v) (hown : w.ownsRow 0 e size v n xs)
    (A : Option Addr) (m c : Nat) (news : List Value) (hx : a.eval x = .slice A m c) (hl : news.length = m * size) (hnews : 0 < m → ∃ ad, A = some ad ∧ ∀ j u, news[j]? = some u → w.cell? (ad.add j) = some u) (h1 : ∀ u ∈ news, u.oneCell' = true)
    (hbytes : (n + m) * bytes ≤ 140737488355328) (h63 : n + m ≤ maxLen)
    (h : ∀ A' cap' w', w'.ownsRow 0 e size (.slice A' (n + m) cap') (n + m) (xs ++ news) → w.grownBy w' v.ownBlock → ((Value.slice A' (n + m) cap').ownBlock = v.ownBlock ∨ (Value.slice A' (n + m) cap').ownBlock = some w.heap.size) → wpList P ops Q rest (a.put o.dst (.slice A' (n + m) cap')) w') :
    wpList P ops Q (o :: rest) a w := by
  refine wpList_plain hgd fun K hK => ?_
  obtain ⟨A', cap', w', hr, h2, h3, h4⟩ := run_app (P := P) w t o.type e i z size bytes ht hi hz hsize hby hzs hsz v n xs hown A m c news hl hnews h1 hbytes h63
  unfold Oper.wp execOp
  simp only [ho, resolve, invoke, builtin, Sem.run_bind, Sem.run_pure, Result.andThen_ok, List.map_toArray, List.map_cons, List.map_nil, hs, hx, hr]
  exact hK _ _ (h A' cap' w' h2 h3 h4)
end
end Go.Proofs.Ytdkankiohoocaaa
