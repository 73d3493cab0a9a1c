/- Entries as data, what their bytes are, how bytes are read; slices of structs. No program in sight. -/
import Derived.Test.YtdkankiohoocaaaQEv4
namespace Go.Proofs.Ytdkankiohoocaaa
set_option linter.unusedSimpArgs false
set_option linter.unusedVariables false
open Go Go.RowKit

/-! ### slices whose elements have k cells -/
/-- The slice v reads as the rows xs, each of k cells, which lie in a block of F (where there is one). -/
def Sl (w : World) (F : Nat → Prop) (k : Nat) (v : Value) (xs : List (List Value)) : Prop :=
  ∃ A cap, v = .slice A xs.length cap ∧ xs.length ≤ cap ∧ cap ≤ maxLen ∧
    (0 < xs.length → ∃ b o, A = some ⟨b, o, none⟩ ∧ F b ∧ ∀ (i : Nat) (x : List Value) (j : Nat) (u : Value), xs[i]? = some x → x[j]? = some u → w.cell? ⟨b, o + i * k + j, none⟩ = some u)
section
variable {S F G : Nat → Prop} {w w' : World} {v : Value} {k : Nat} {xs : List (List Value)}
theorem Sl.nil_ (w : World) (F : Nat → Prop) (k : Nat) : Sl w F k (.slice none 0 0) [] := ⟨none, 0, rfl, Nat.le_refl _, Nat.zero_le _, fun h => absurd h (by simp)⟩
theorem Sl.keep (h : Sl w F k v xs) (hc : Chg S w w') (hd : ∀ k, F k → ¬ S k) : Sl w' F k v xs := by
  obtain ⟨A, cap, rfl, h1, h2, h3⟩ := h
  refine ⟨A, cap, rfl, h1, h2, fun h0 => ?_⟩
  obtain ⟨b, o, hA, hF, hx⟩ := h3 h0
  exact ⟨b, o, hA, hF, fun i x j u hi hj => hc.cell' (hx i x j u hi hj) (hd b hF)⟩
theorem Sl.same (h : Sl w F k v xs) (hc : Same w w') : Sl w' F k v xs := h.keep hc (fun _ _ h => h)
theorem Sl.alloc (h : Sl w F k v xs) (o : Obj) : Sl (w.alloc o) F k v xs := h.same (Chg.alloc_ _ _ _)
theorem Sl.drew (h : Sl w F k v xs) : Sl w.drew F k v xs := h
theorem Sl.mono (h : Sl w F k v xs) (hk : ∀ x ∈ xs, 0 < x.length) (hF : ∀ b, b < w.heap.size → F b → G b) : Sl w G k v xs := by
  obtain ⟨A, cap, rfl, h1, h2, h3⟩ := h
  refine ⟨A, cap, rfl, h1, h2, fun h0 => ?_⟩
  obtain ⟨b, o, hA, hF', hx⟩ := h3 h0
  have hp := hk xs[0] (List.getElem_mem h0)
  exact ⟨b, o, hA, hF b (cell_lt (hx 0 xs[0] 0 _ (List.getElem?_eq_getElem h0) (List.getElem?_eq_getElem hp))) hF', hx⟩
theorem Sl.form (h : Sl w F k v xs) : ∃ A cap, v = .slice A xs.length cap ∧ xs.length ≤ cap ∧ cap ≤ 9223372036854775807 := by
  have hm : maxLen = 9223372036854775807 := by decide +kernel
  obtain ⟨A, cap, h0, h1, h2, -⟩ := h
  exact ⟨A, cap, h0, h1, by omega⟩
theorem Sl.at_ {A : Option Addr} {n c : Nat} (h : Sl w F k (.slice A n c) xs) {i : Nat} (hi : i < xs.length) :
    ∃ b o x, A = some ⟨b, o, none⟩ ∧ F b ∧ xs[i]? = some x ∧ ∀ (j : Nat) (u : Value), x[j]? = some u → w.cell? ⟨b, o + i * k + j, none⟩ = some u := by
  obtain ⟨A1, c1, hv, h1, h2, h3⟩ := h
  injection hv with e1 e2 e3
  subst e1
  obtain ⟨b, o, hA, hF, hx⟩ := h3 (by omega)
  exact ⟨b, o, xs[i], hA, hF, List.getElem?_eq_getElem hi, fun j u hj => hx i _ j u (List.getElem?_eq_getElem hi) hj⟩
/-- An own row of rows reads so. -/
theorem Sl.of_own {base n : Nat} {e : TypeId} (hk : 0 < k) (h : w.ownsRow base e k v n xs.flatten) (hn : xs.length = n) (hl : ∀ x ∈ xs, x.length = k) (hF : ∀ g, v.ownBlock = some g → F g) : Sl w F k v xs := by
  subst hn
  obtain ⟨h1, h2⟩ := h
  rcases h2 with ⟨rfl, h0⟩ | ⟨g, cap, cur, rfl, hb, hg, hnc, hc, hs, ht⟩
  · exact ⟨none, 0, by rw [h0], by omega, Nat.zero_le _, fun h => absurd h (by omega)⟩
  · refine ⟨_, cap, rfl, hnc, hc, fun _ => ⟨g, 0, rfl, hF g rfl, fun i x j u hi hj => ?_⟩⟩
    have hfl : ∀ (xs : List (List Value)) (i : Nat), (∀ x ∈ xs, x.length = k) → xs[i]? = some x → xs.flatten[i * k + j]? = some u := by
      intro xs
      induction xs with
      | nil => intro i _ h; simp at h
      | cons y ys ih =>
        intro i hy h
        have hyl := hy y (by simp)
        cases i with
        | zero =>
          simp at h; subst h
          rw [Nat.zero_mul, Nat.zero_add, List.flatten_cons, List.getElem?_append_left (List.getElem?_eq_some_iff.1 hj).1]; exact hj
        | succ i =>
          rw [List.flatten_cons, List.getElem?_append_right (by rw [hyl, Nat.succ_mul]; omega), hyl, show (i + 1) * k + j - k = i * k + j by rw [Nat.succ_mul]; omega]
          exact ih i (fun x hx => hy x (by simp [hx])) (by simpa using h)
    have e := hfl xs i hl hi
    rw [cell_of_row w g _ cur _ (0, 0) hg]
    rw [← ht, List.getElem?_take] at e
    split at e
    · simpa [Nat.zero_add] using e
    · cases e
end

/-! ### entries -/
/-- What was done to a row of a table. -/
structure OpD where
  table : Int
  gone : Bool
  key : Int
  text : ByteArray
/-- An event, and in which spool it stands. -/
structure PlD where
  spool : Int
  id : Int
  tx : Int
  owner : ByteArray
  tries : Int
  table : Int
  kind : Int
  key : Int
  text : ByteArray
structure EntD where
  kind : Int
  tx : Int
  next : Int
  nextID : Int
  ops : List OpD
  evs : List PlD
  tickN : Int
  max : Int
  opn : List Int
  tickAt : Int
  name : ByteArray
  n : Int
  at_ : Int
def opCells (o : OpD) : List Value := [.int .i64 o.table, .bool o.gone, .int .i64 o.key, .string o.text]
def plCells (p : PlD) : List Value := [.int .i64 p.spool, .int .i64 p.id, .int .i64 p.tx, .string p.owner, .int .i64 p.tries, .int .i64 p.table, .int .u8 p.kind, .int .i64 p.key, .string p.text]
def numCells (n : Int) : List Value := [.int .i64 n]
/-- An entry's cells. -/
def entCells (e : EntD) (vo ve vp : Value) : Array Value := #[.int .u8 e.kind, .int .i64 e.tx, .int .i64 e.next, .int .i64 e.nextID, vo, ve, .int .i64 e.tickN, .int .i64 e.max, vp, .int .i64 e.tickAt, .string e.name, .int .i64 e.n, .int .i64 e.at_]
/-- The entry's slices lie there. -/
structure EntS (w : World) (F : Nat → Prop) (e : EntD) (vo ve vp : Value) : Prop where
  ops : Sl w F 4 vo (e.ops.map opCells)
  evs : Sl w F 9 ve (e.evs.map plCells)
  opn : Sl w F 1 vp (e.opn.map numCells)
theorem EntS.same {w w' : World} {F : Nat → Prop} {e : EntD} {vo ve vp : Value} (h : EntS w F e vo ve vp) (hs : Same w w') : EntS w' F e vo ve vp := ⟨h.ops.same hs, h.evs.same hs, h.opn.same hs⟩
theorem EntS.keep {S F : Nat → Prop} {w w' : World} {e : EntD} {vo ve vp : Value} (h : EntS w F e vo ve vp) (hc : Chg S w w') (hd : ∀ k, F k → ¬ S k) : EntS w' F e vo ve vp := ⟨h.ops.keep hc hd, h.evs.keep hc hd, h.opn.keep hc hd⟩
def noEnt : EntD := ⟨0, 0, 0, 0, [], [], 0, 0, [], 0, ⟨#[]⟩, 0, 0⟩

/-! ### an entry's bytes -/
def wholeI (n : Int) : Prop := 0 ≤ n ∧ n ≤ 9223372036854775807
def i64I (n : Int) : Prop := -9223372036854775808 ≤ n ∧ n ≤ 9223372036854775807
def numsB (l : List Int) : List UInt8 := (l.map fun n => numB n.toNat).flatten
def opB (o : OpD) : List UInt8 := numB o.table.toNat ++ numB (if o.gone then 1 else 0) ++ intB o.key ++ textB o.text.data.toList
def opsB (l : List OpD) : List UInt8 := numB l.length ++ (l.map opB).flatten
def plB (p : PlD) : List UInt8 := numB p.spool.toNat ++ textB (encB p.id p.tx p.owner p.tries p.table p.kind p.key p.text)
def plsB (l : List PlD) : List UInt8 := numB l.length ++ (l.map plB).flatten
def idsB (e : EntD) : List UInt8 := numB e.tx.toNat ++ numB e.next.toNat ++ numB e.nextID.toNat
/-- Behind the kind. -/
def bodyB (e : EntD) : List UInt8 :=
  if e.kind = 1 then idsB e ++ opsB e.ops ++ plsB e.evs
  else if e.kind = 8 then idsB e ++ plsB e.evs ++ intB e.at_
  else if e.kind = 2 then numB e.tickN.toNat ++ numB e.max.toNat ++ numB e.opn.length ++ numsB e.opn ++ intB e.tickAt
  else if e.kind = 3 ∨ e.kind = 4 ∨ e.kind = 5 ∨ e.kind = 6 then textB e.name.data.toList ++ numB e.n.toNat
  else if e.kind = 7 then textB e.name.data.toList ++ numB e.n.toNat ++ intB e.at_
  else if e.kind = 9 ∨ e.kind = 10 then numB e.n.toNat
  else if e.kind = 11 then numB e.n.toNat ++ opsB e.ops
  else []
def entB (e : EntD) : List UInt8 := UInt8.ofNat e.kind.toNat :: bodyB e
def OpD.ok (o : OpD) : Prop := wholeI o.table ∧ i64I o.key ∧ o.text.size ≤ 1000
def PlD.ok (p : PlD) : Prop := wholeI p.spool ∧ EvOk p.id p.tx p.owner.size p.tries p.table p.kind p.text.size ∧ p.id ≤ 9223372036854775807 ∧ p.tx ≤ 9223372036854775807 ∧ i64I p.key
/-- May it be written? (Not too much of it, no number below 0 that may not be.) -/
structure EntD.ok (e : EntD) : Prop where
  kind : 0 ≤ e.kind ∧ e.kind ≤ 255
  tx : wholeI e.tx
  next : wholeI e.next
  nextID : wholeI e.nextID
  ops : ∀ o ∈ e.ops, o.ok
  evs : ∀ p ∈ e.evs, p.ok
  tickN : wholeI e.tickN
  max : wholeI e.max
  opn : ∀ n ∈ e.opn, wholeI n
  tickAt : i64I e.tickAt
  n : wholeI e.n
  at_ : i64I e.at_
  fewO : e.ops.length ≤ 1000
  fewE : e.evs.length ≤ 1000
  fewN : e.opn.length ≤ 1000
  name : e.name.size ≤ 1000

/-! ### bytes, read -/
abbrev St := List UInt8 × Int
abbrev wholeN (st : St) : Nat × St := stepNum 0 9223372036854775807 st
/-- So many times, till an error is met. -/
def iter {α : Type} (f : α → St → α × St) : Nat → α → St → α × St
  | 0, x, st => (x, st)
  | n + 1, x, st => if st.2 ≠ 0 then (x, st) else iter f n (f x st).1 (f x st).2
/-- One Op, read. -/
def opOne (st : St) : OpD × St :=
  let q1 := stepNum 0 255 st
  let q2 := stepNum 0 1 q1.2
  let q3 := readInt q2.2.1 q2.2.2
  let q4 := readText q3.2.1 q3.2.2 40
  (⟨q1.1, q2.1 == 1, q3.1, ⟨q4.1.toArray⟩⟩, q4.2)
def opStep (l : List OpD) (st : St) : List OpD × St := (l ++ [(opOne st).1], (opOne st).2)
def getOps (st : St) : List OpD × St := let q := stepNum 0 255 st; iter opStep q.1 [] q.2
/-- One event, read, the error told. -/
def plOne (st : St) : PlD × St :=
  let q1 := stepNum 0 255 st
  let q2 := readText q1.2.1 q1.2.2 400
  let d := if q2.2.2 ≠ 0 then decE [] else decE q2.1
  (⟨q1.1, d.id, d.tx, ⟨d.owner.toArray⟩, d.tries, d.table, d.kind, d.key, ⟨d.text.toArray⟩⟩, if q2.2.2 ≠ 0 then q2.2 else if d.f ≠ 0 then ([], d.f) else q2.2)
def plStep (l : List PlD) (st : St) : List PlD × St := (l ++ [(plOne st).1], (plOne st).2)
def getPls (st : St) : List PlD × St := let q := stepNum 0 255 st; iter plStep q.1 [] q.2
def numStep (l : List Int) (st : St) : List Int × St := (l ++ [((wholeN st).1 : Int)], (wholeN st).2)
def getNums (st : St) : List Int × St := let q := stepNum 0 255 st; iter numStep q.1 [] q.2
/-- What a kind has, read; nothing: there is no such kind. -/
def rdBody (k : Int) (st : St) : Option (EntD × St) :=
  if k = 1 then
    let a := wholeN st; let b := wholeN a.2; let c := wholeN b.2; let o := getOps c.2; let p := getPls o.2
    some ({ noEnt with kind := k, tx := a.1, next := b.1, nextID := c.1, ops := o.1, evs := p.1 }, p.2)
  else if k = 8 then
    let a := wholeN st; let b := wholeN a.2; let c := wholeN b.2; let p := getPls c.2; let t := readInt p.2.1 p.2.2
    some ({ noEnt with kind := k, tx := a.1, next := b.1, nextID := c.1, evs := p.1, at_ := t.1 }, t.2)
  else if k = 2 then
    let a := wholeN st; let b := wholeN a.2; let l := getNums b.2; let t := readInt l.2.1 l.2.2
    some ({ noEnt with kind := k, tickN := a.1, max := b.1, opn := l.1, tickAt := t.1 }, t.2)
  else if k = 3 ∨ k = 4 ∨ k = 5 ∨ k = 6 then
    let t := readText st.1 st.2 40; let a := wholeN t.2
    some ({ noEnt with kind := k, name := ⟨t.1.toArray⟩, n := a.1 }, a.2)
  else if k = 7 then
    let t := readText st.1 st.2 40; let a := wholeN t.2; let b := readInt a.2.1 a.2.2
    some ({ noEnt with kind := k, name := ⟨t.1.toArray⟩, n := a.1, at_ := b.1 }, b.2)
  else if k = 9 ∨ k = 10 then
    let a := wholeN st
    some ({ noEnt with kind := k, n := a.1 }, a.2)
  else if k = 11 then
    let a := wholeN st; let o := getOps a.2
    some ({ noEnt with kind := k, n := a.1, ops := o.1 }, o.2)
  else none
/-- An entry's bytes, read: the entry, the error. -/
def decEnt : List UInt8 → EntD × Int
  | [] => (noEnt, 3)
  | k :: l =>
    match rdBody k.toNat (l, 0) with
    | none => (noEnt, 2)
    | some (e, st) => if endErr st.1 st.2 = 0 then (e, 0) else (noEnt, endErr st.1 st.2)
end Go.Proofs.Ytdkankiohoocaaa
