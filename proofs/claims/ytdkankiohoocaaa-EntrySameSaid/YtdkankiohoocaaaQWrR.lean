/- Words for the walk of entry.Encode. -/
import Derived.Test.YtdkankiohoocaaaQWrQ
import Derived.Test.YtdkankiohoocaaaQDecE
import Derived.Deep.RegionLaw
namespace Go.Proofs.Ytdkankiohoocaaa
set_option linter.unusedSimpArgs false
set_option linter.unusedVariables false
open Go Go.RowKit Go.Proofs

/-- append of bytes at a step of a region that draws. -/
theorem step_appB {w : World} {ops : Array Oper} {o : Oper} {a : Act} {K : Act → World → Prop} {Q : Exit → Act → World → Prop} {E : Prop} (hgd : o.guard = none) (s x : Operand)
    (ho : o.op = .call { callee := .builtin .append, args := #[s, x], argTypes := #[22, 22] })
    (v : Value) (l : List UInt8) (A : Option Addr) (m c : Nat) (G : Nat → Prop) (lx : List UInt8) (hs : a.eval s = v) (hx : a.eval x = .slice A m c) (hown : Own w 0 v l) (hsrc : Bs w G (.slice A m c) lx)
    (hlen : l.length + lx.length ≤ 140737488355328)
    (h : ∀ A' k cap' w', AppOut w w' v (.slice A' k cap') l lx → K (a.put o.dst (.slice A' k cap')) w') :
    if Region.wanted o (yielded ops a.tmps) = true then Oper.wp Try.prog o a w K Q else E := by
  have hw : Region.wanted o (yielded ops a.tmps) = true := by simp [Region.wanted, hgd]
  rw [if_pos hw]
  obtain ⟨A', k, cap', w', hr, h2⟩ := run_appB w o.type v l hown A m c G lx hsrc hlen
  unfold Oper.wp execOp
  simp only [ho, resolve, invoke, builtin, Sem.run_bind, Sem.run_pure, Result.andThen_ok, List.map_toArray, List.map_cons, List.map_nil, hs, hx, hr]
  exact h A' k cap' w' h2

/-- A slice literal of one byte, and bytes that are to be appended to it. -/
structure LitPost (w : World) (x : UInt8) (L : List UInt8) (g : Nat) (wx : World) (A : Option Addr) (n c : Nat) : Prop where
  own : Own wx 0 (.slice (some ⟨g, 0, none⟩) 1 1) [x]
  bs : Bs wx (fun _ => True) (.slice A n c) L
  same : Same w wx
  new : w.heap.size ≤ g
theorem own_lit (w : World) (x : UInt8) : Own (w.alloc (.cells #[.int .u8 (x.toNat : Int)] 5)) 0 (.slice (some ⟨w.heap.size, 0, none⟩) 1 1) [x] :=
  ⟨rfl, .inr ⟨_, 1, _, rfl, Nat.zero_le _, heap_alloc_new w _, Nat.le_refl _, by unfold maxLen; omega, rfl, rfl⟩⟩
section
variable {w wi : World} {B a : Nat} {F : Nat → Prop} {l l1 : List UInt8} {o : Obj}
theorem WrAt.lit (h : WrAt w wi B F a l o) (x : UInt8) (k : Int) (hk : k = (x.toNat : Int)) (hl : l.length ≤ 140737488355328) :
    Calls Try.prog 37 #[.pointer (some ⟨a, 0, none⟩)] (wi.alloc (.cells #[.int .u8 k] 5)).drew fun en w' => ∃ A n c, en = .returned (.slice A n c) ∧ LitPost w x l wi.heap.size w' A n c ∧ w'.heap[B]? = some o := by
  subst hk
  have hc := (Chg.alloc_ (fun _ => False) wi (.cells #[.int .u8 (x.toNat : Int)] 5)).drew
  refine (wbytes_any a F l _ (h.wr.keep hc (fun _ _ h => h)) hl).mono ?_
  rintro _ w' ⟨v, rfl, R⟩
  obtain ⟨A, c, rfl⟩ := R.form
  exact ⟨_, _, _, rfl, ⟨Own.keep (w := (wi.alloc (.cells #[.int .u8 (x.toNat : Int)] 5)).drew) (own_lit wi x) R.2 (fun _ _ h => h), R.bs.mono (fun _ _ _ => trivial), (h.same.trans hc).trans R.2, h.same.size⟩, R.2.at_ (hc.at_ h.blk (fun h => h)) (fun h => h)⟩
theorem WrAt.bare (h : WrAt w wi B F a l o) (x : UInt8) (k : Int) (hk : k = (x.toNat : Int)) (hl : l.length ≤ 140737488355328) :
    Calls Try.prog 37 #[.pointer (some ⟨a, 0, none⟩)] wi.drew fun en w' => ∃ A n c, en = .returned (.slice A n c) ∧ LitPost w x l w'.heap.size (w'.alloc (.cells #[.int .u8 k] 5)) A n c ∧ w'.heap[B]? = some o := by
  subst hk
  refine (wbytes_any a F l _ h.wr.drew hl).mono ?_
  rintro _ w' ⟨v, rfl, R⟩
  obtain ⟨A, c, rfl⟩ := R.form
  have hc := Chg.alloc_ (fun _ => False) w' (.cells #[.int .u8 (x.toNat : Int)] 5)
  have hs := h.same.drew.trans R.2
  exact ⟨_, _, _, rfl, ⟨own_lit w' x, (R.bs.mono (fun _ _ _ => trivial)).same hc, hs.trans hc, hs.size⟩, R.2.at_ (show wi.drew.heap[B]? = some o from h.blk) (fun h => h)⟩
theorem LitPost.fresh {x : UInt8} {L : List UInt8} {g n c : Nat} {wx w' : World} {A : Option Addr} {v' : Value} (h : LitPost w x L g wx A n c) (ho : AppOut wx w' (.slice (some ⟨g, 0, none⟩) 1 1) v' [x] L) : Fresh w w' v' (x :: L) :=
  AppOut.fresh ho h.same (fun g' hg => by simp [Value.ownBlock] at hg; have := h.new; omega)

/-! ### what a kind has, written -/
variable {e : EntD} {vo ve vp : Value}
theorem WrAt.idsW {k : Int} (hkd : e.kind = k) (h : WrAt w wi B F a l o) (h1 : wholeI e.tx) (h2 : wholeI e.next) (h3 : wholeI e.nextID) (hl : l.length ≤ 1099500000000) (hq : Hid (l ++ idsB e = l1)) :
    Calls Try.prog 31 #[.pointer (some ⟨a, 0, none⟩), .agg #[.int .u8 k, .int .i64 e.tx, .int .i64 e.next, .int .i64 e.nextID, vo, ve, .int .i64 e.tickN, .int .i64 e.max, vp, .int .i64 e.tickAt, .string e.name, .int .i64 e.n, .int .i64 e.at_]] wi fun en w' => en = .returned (.tuple #[]) ∧ ∃ F', WrAt w w' B F' a l1 o := by
  subst hkd
  exact
  (eids_any a F l e vo ve vp wi h.wr h1 h2 h3 (by omega)).mono fun en w' ⟨he, hp⟩ => ⟨he, h.step (by rw [← hq.out]; exact hp)⟩
theorem WrAt.opsW (h : WrAt w wi B F a l o) (hE : EntS w (fun b => b < w.heap.size) e vo ve vp) (hn : ∀ o ∈ e.ops, o.ok) (hf : e.ops.length ≤ 1000) (hl : l.length ≤ 1099500000000) (hq : Hid (l ++ opsB e.ops = l1)) :
    Calls Try.prog 32 #[.pointer (some ⟨a, 0, none⟩), vo] wi fun en w' => en = .returned (.tuple #[]) ∧ ∃ F', WrAt w w' B F' a l1 o :=
  (eops_any a F _ l e.ops vo wi h.wr (hE.ops.same h.same) (fun b hb hF => by have := h.far b hF; have := h.old; omega) hn (by omega) hf).mono fun en w' ⟨he, hp⟩ => ⟨he, h.step (by rw [← hq.out]; exact hp)⟩
theorem WrAt.evsW (h : WrAt w wi B F a l o) (hE : EntS w (fun b => b < w.heap.size) e vo ve vp) (hn : ∀ o ∈ e.evs, o.ok) (hf : e.evs.length ≤ 1000) (hl : l.length ≤ 1099500000000) (hq : Hid (l ++ plsB e.evs = l1)) :
    Calls Try.prog 33 #[.pointer (some ⟨a, 0, none⟩), ve] wi fun en w' => en = .returned (.tuple #[]) ∧ ∃ F', WrAt w w' B F' a l1 o :=
  (eevents_any a F _ l e.evs ve wi h.wr (hE.evs.same h.same) (fun b hb hF => by have := h.far b hF; have := h.old; omega) hn (by omega) hf).mono fun en w' ⟨he, hp⟩ => ⟨he, h.step (by rw [← hq.out]; exact hp)⟩
theorem WrAt.opnW (h : WrAt w wi B F a l o) (hE : EntS w (fun b => b < w.heap.size) e vo ve vp) (hn : ∀ n ∈ e.opn, wholeI n) (hf : e.opn.length ≤ 1000) (hl : l.length ≤ 1099500000000) (hq : Hid (l ++ numsB e.opn = l1)) :
    Calls Try.prog 35 #[.pointer (some ⟨a, 0, none⟩), vp] wi fun en w' => en = .returned (.tuple #[]) ∧ ∃ F', WrAt w w' B F' a l1 o :=
  (enum_any a F _ l e.opn vp wi h.wr (hE.opn.same h.same) (fun b hb hF => by have := h.far b hF; have := h.old; omega) hn (by omega)).mono fun en w' ⟨he, hp⟩ => ⟨he, h.step (by rw [← hq.out]; exact hp)⟩
theorem WrAt.num1 {n : Int} (h : WrAt w wi B F a l o) (hn : wholeI n) (hl : l.length ≤ 1099500000000) (hq : Hid (l ++ numB n.toNat = l1)) :
    Calls Try.prog 35 #[.pointer (some ⟨a, 0, none⟩), .slice (some ⟨wi.heap.size, 0, none⟩) 1 1] (wi.alloc (.cells #[.int .i64 n] 2)) fun en w' => en = .returned (.tuple #[]) ∧ ∃ F', WrAt w w' B F' a l1 o :=
  (enum_one a n F l wi h.wr hn (by omega)).mono fun en w' ⟨he, hp⟩ => ⟨he, h.step (by rw [← hq.out]; exact hp)⟩
theorem WrAt.num3 {n1 n2 n3 : Int} (h : WrAt w wi B F a l o) (h1 : wholeI n1) (h2 : wholeI n2) (h3 : wholeI n3) (hl : l.length ≤ 1099500000000) (hq : Hid (l ++ (numB n1.toNat ++ numB n2.toNat ++ numB n3.toNat) = l1)) :
    Calls Try.prog 35 #[.pointer (some ⟨a, 0, none⟩), .slice (some ⟨wi.heap.size, 0, none⟩) 3 3] (wi.alloc (.cells #[.int .i64 n1, .int .i64 n2, .int .i64 n3] 2)) fun en w' => en = .returned (.tuple #[]) ∧ ∃ F', WrAt w w' B F' a l1 o := by
  have hlt : Lt F wi := by obtain ⟨v, h⟩ := h.wr; exact h.lt
  have hsl := nums_new wi 2 #[.int .i64 n1, .int .i64 n2, .int .i64 n3] [n1, n2, n3] 3 rfl (by omega) rfl
  have hc := Chg.alloc_ (fun _ => False) wi (.cells #[.int .i64 n1, .int .i64 n2, .int .i64 n3] 2)
  have e1 : numsB [n1, n2, n3] = numB n1.toNat ++ numB n2.toNat ++ numB n3.toNat := by simp [numsB]
  refine (enum_any a F _ l [n1, n2, n3] _ _ (h.wr.keep hc (fun _ _ h => h)) hsl (fun b hb hF => by have := hlt b hF; omega) (by intro m hm; simp at hm; rcases hm with rfl | rfl | rfl <;> assumption) (by simp; omega)).mono ?_
  rintro _ w2 ⟨rfl, F2, hW2, hC2, hN2⟩
  refine ⟨rfl, h.step ⟨F2, by rw [← hq.out, ← e1]; exact hW2, (Same.any hc F).trans hC2, fun k hk => ?_⟩⟩
  have := hc.size
  rcases hN2 k hk with h | h
  · exact .inl h
  · exact .inr ⟨by omega, h.2⟩
theorem WrAt.intW {n : Int} (h : WrAt w wi B F a l o) (hn : i64I n) (hl : l.length ≤ 1099500000000) (hq : Hid (l ++ intB n = l1)) :
    Calls Try.prog 34 #[.pointer (some ⟨a, 0, none⟩), .int .i64 n] wi fun en w' => en = .returned (.pointer (some ⟨a, 0, none⟩)) ∧ ∃ F', WrAt w w' B F' a l1 o :=
  (wint_is a n F l l1 wi h.wr hn.1 hn.2 (by omega) hq).mono fun en w' ⟨he, hp⟩ => ⟨he, h.step hp⟩
theorem WrAt.textW {s : ByteArray} (h : WrAt w wi B F a l o) (hs : s.size ≤ 1000) (hl : l.length ≤ 1099500000000) (hq : Hid (l ++ textB s.data.toList = l1)) :
    Calls Try.prog 36 #[.pointer (some ⟨a, 0, none⟩), .string s] wi fun en w' => en = .returned (.pointer (some ⟨a, 0, none⟩)) ∧ ∃ F', WrAt w w' B F' a l1 o :=
  (wtext_is a s F l l1 wi h.wr (by omega) (by omega) hq).mono fun en w' ⟨he, hp⟩ => ⟨he, h.step hp⟩
end

/-! ### how long it may be -/
theorem opsB_len (l : List OpD) (h : ∀ o ∈ l, o.ok) (hf : l.length ≤ 1000) : (opsB l).length ≤ 1060000 := by
  have h1 := flat_len l h
  have h2 := (numB_len 10 l.length (by omega) (by omega)).1
  unfold opsB; rw [List.length_append]; omega
theorem plsB_len (l : List PlD) (h : ∀ o ∈ l, o.ok) (hf : l.length ≤ 1000) : (plsB l).length ≤ 260000 := by
  have h1 := pflat_len l h
  have h2 := (numB_len 10 l.length (by omega) (by omega)).1
  unfold plsB; rw [List.length_append]; omega
theorem idsB_len (e : EntD) (h1 : wholeI e.tx) (h2 : wholeI e.next) (h3 : wholeI e.nextID) : (idsB e).length ≤ 30 := by
  have a1 := numB_len10 (n := e.tx) (by have := h1.2; omega)
  have a2 := numB_len10 (n := e.next) (by have := h2.2; omega)
  have a3 := numB_len10 (n := e.nextID) (by have := h3.2; omega)
  unfold idsB; simp only [List.length_append]; omega
theorem textB_len (s : ByteArray) (h : s.size ≤ 1000) : (textB s.data.toList).length ≤ 1010 := by
  unfold textB; rw [List.length_append, size_toList]; have := (numB_len 10 s.size (by omega) (by omega)).1; omega
theorem intB_len (n : Int) (h : i64I n) : (intB n).length ≤ 10 := by
  have := h.1; have := h.2
  unfold intB zig; split <;> exact numB_len10 (by omega)
theorem numW_len (n : Int) (h : wholeI n) : (numB n.toNat).length ≤ 10 := numB_len10 (by have := h.2; omega)
end Go.Proofs.Ytdkankiohoocaaa
