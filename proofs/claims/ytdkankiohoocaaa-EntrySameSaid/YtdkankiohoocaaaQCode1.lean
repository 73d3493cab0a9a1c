/- What the functions of package code compute, as functions on lists of bytes. No program in sight. -/
import Derived.Test.YtdkankiohoocaaaQBase
import Derived.Test.YtdkankiohoocaaaChecked
import Derived.Deep.DeepCutAuto
import Derived.WalkSpells
import Derived.Lib.AppendStr
import Derived.BigQuiet
import Derived.Deep.QuietTactic
namespace Go.Proofs.Ytdkankiohoocaaa
set_option linter.unusedSimpArgs false
set_option linter.unusedVariables false
open Go Go.RowKit

/-- A number's last digit, and one behind which there are more. -/
def dLast (n : Nat) : UInt8 := UInt8.ofNat n
def dMore (n : Nat) : UInt8 := UInt8.ofNat (n % 128 + 128)
/-- A number's digits, the lowest first. -/
def numB (n : Nat) : List UInt8 := if h : n < 128 then [dLast n] else dMore n :: numB (n / 128)
termination_by n
decreasing_by omega

theorem numB_small {n : Nat} (h : n < 128) : numB n = [dLast n] := by rw [numB, dif_pos h]
theorem numB_big {n : Nat} (h : ¬ n < 128) : numB n = dMore n :: numB (n / 128) := by rw [numB, dif_neg h]

theorem numB_len (k : Nat) : ∀ n, n < 128 ^ k → 0 < k → (numB n).length ≤ k ∧ 0 < (numB n).length := by
  induction k with
  | zero => intro n _ h; omega
  | succ k ih =>
    intro n hn _
    by_cases h : n < 128
    · rw [numB_small h]; simp
    · rw [numB_big h]
      rcases Nat.eq_zero_or_pos k with rfl | hk
      · simp at hn; omega
      · have := ih (n / 128) (by rw [Nat.pow_succ] at hn; omega) hk
        simp; omega

/-- A number that may be below 0, as one that may not. -/
def zig (n : Int) : Int := if 0 ≤ n then 2 * n else -2 * n - 1
def intB (n : Int) : List UInt8 := numB (zig n).toNat
/-- A text: how many bytes, and these. -/
def textB (t : List UInt8) : List UInt8 := numB t.length ++ t

theorem numB_len10 {n : Int} (h : n ≤ 18446744073709551615) : (numB n.toNat).length ≤ 10 := (numB_len 10 n.toNat (by omega) (by omega)).1
theorem numB_pos {n : Nat} (h : n ≤ 18446744073709551615) : 0 < (numB n).length := (numB_len 10 n (by omega) (by omega)).2

/-- A number read: the number, the bytes that are left, the error (2: ErrForm, 3: ErrShort). From the i-th digit on. -/
def rdNum (i acc : Nat) : List UInt8 → Nat × List UInt8 × Int
  | [] => (0, [], 3)
  | b :: r => if (i = 9 ∧ 1 < b.toNat) ∨ (0 < i ∧ b.toNat = 0) then (0, [], 2) else if b.toNat < 128 then (acc + b.toNat * 128 ^ i, r, 0) else rdNum (i + 1) (acc + b.toNat % 128 * 128 ^ i) r
def readNum (l : List UInt8) (e : Int) : Nat × List UInt8 × Int := if e = 0 then rdNum 0 0 l else (0, l, e)
def unzig (n : Nat) : Int := if n % 2 = 1 then -((n / 2 : Nat) : Int) - 1 else ((n / 2 : Nat) : Int)
def readInt (l : List UInt8) (e : Int) : Int × List UInt8 × Int := (unzig (readNum l e).1, (readNum l e).2)
/-- A text of so many bytes at most, its length read. -/
def rdText (most : Int) (q : Nat × List UInt8 × Int) : List UInt8 × List UInt8 × Int :=
  if q.2.2 ≠ 0 then ([], q.2) else if most.toNat < q.1 then ([], [], 2) else if q.2.1.length < q.1 then ([], [], 3) else (q.2.1.take q.1, q.2.1.drop q.1, 0)
def readText (l : List UInt8) (e most : Int) : List UInt8 × List UInt8 × Int := rdText most (readNum l e)
/-- Is all read? -/
def endErr (l : List UInt8) (e : Int) : Int := if e = 0 ∧ 0 < l.length then 2 else e
end Go.Proofs.Ytdkankiohoocaaa
/- The walks of code.Writer. -/
namespace Go.Proofs.Ytdkankiohoocaaa
set_option linter.unusedSimpArgs false
set_option linter.unusedVariables false
open Go Go.RowKit Go.Proofs

theorem info_u8 : (Try.prog.info? 5).map (fun i => (i.zero, i.size, i.bytes)) = some (some (.int .u8 0), 1, 1) := by kernel_rfl

/-! ### append onto bytes of the call's own -/
/-- What an append of the bytes lx onto the own slice v (of the bytes l) leaves: the slice v' in w'. -/
def AppOut (w w' : World) (v v' : Value) (l lx : List UInt8) : Prop :=
  Own w' 0 v' (l ++ lx) ∧ Chg (fun k => v.ownBlock = some k) w w' ∧ ∀ g, v'.ownBlock = some g → v.ownBlock = some g ∨ g = w.heap.size

theorem run_appB (w : World) (ty : TypeId) (v : Value) (l : List UInt8) (hown : Own w 0 v l) (A : Option Addr) (m c : Nat) (G : Nat → Prop) (lx : List UInt8) (hsrc : Bs w G (.slice A m c) lx)
    (hlen : l.length + lx.length ≤ 140737488355328) :
    ∃ A' k cap' w', (Builtin.append_ #[22, 22] ty #[v, .slice A m c]).run Try.prog w = .ok (.slice A' k cap') w' ∧ AppOut w w' v (.slice A' k cap') l lx := by
  obtain ⟨i0, hi, hz0, hz1, hz2⟩ := info_parts info_u8
  obtain ⟨A1, c1, hv, h1, h2, h3⟩ := hsrc
  injection hv with e1 e2 e3
  subst e1; subst e2; subst e3
  obtain ⟨A', cap', w', hr, k1, k2, k3⟩ := run_app (P := Try.prog) w 22 ty 5 i0 (.int .u8 0) 1 1 Try.underlying22 hi hz0 hz1 hz2 rfl (by decide) v l.length (bvs l) hown A lx.length c (bvs lx) (by simp)
    (fun h0 => by
      obtain ⟨b, o, hA, _, hx⟩ := h3 h0
      refine ⟨⟨b, o, none⟩, hA, fun j u hu => ?_⟩
      rw [bvs_get] at hu
      cases hx' : lx[j]? with
      | none => rw [hx'] at hu; cases hu
      | some x =>
        rw [hx'] at hu
        have := hx j x hx'
        simp at hu
        subst hu
        unfold Addr.add
        split
        · subst j; simpa using this
        · exact this)
    (bvs_oneCell lx) (by omega) (by unfold maxLen; omega)
  refine ⟨A', _, cap', w', hr, ?_, Chg.of_grown k2 (fun k h => h), ?_⟩
  · show w'.ownsRow 0 5 1 _ (l ++ lx).length (bvs (l ++ lx))
    rw [List.length_append, bvs_append]; exact k1
  · intro g hg
    rcases k3 with k3 | k3
    · left; rw [← k3]; exact hg
    · right; rw [k3] at hg; exact (Option.some.inj hg).symm

theorem wl_appB {ops : Array Oper} {rest : List Oper} {o : Oper} {a : Act} {Q : Exit → Act → World → Prop} {w : World} (hgd : o.guard = none) (s x : Operand)
    (ho : o.op = .call { callee := .builtin .append, args := #[s, x], argTypes := #[22, 22] })
    (v : Value) (l : List UInt8) (A : Option Addr) (m c : Nat) (G : Nat → Prop) (lx : List UInt8) (hs : a.eval s = v) (hx : a.eval x = .slice A m c) (hown : Own w 0 v l) (hsrc : Bs w G (.slice A m c) lx)
    (hlen : l.length + lx.length ≤ 140737488355328)
    (h : ∀ A' k cap' w', AppOut w w' v (.slice A' k cap') l lx → wpList Try.prog ops Q rest (a.put o.dst (.slice A' k cap')) w') :
    wpList Try.prog ops Q (o :: rest) a w := by
  refine wpList_plain hgd fun K hK => ?_
  obtain ⟨A', k, cap', w', hr, h2⟩ := run_appB w o.type v l hown A m c G lx hsrc hlen
  unfold Oper.wp execOp
  simp only [ho, resolve, invoke, builtin, Sem.run_bind, Sem.run_pure, Result.andThen_ok, List.map_toArray, List.map_cons, List.map_nil, hs, hx, hr]
  exact hK _ _ (h A' k cap' w' h2)

theorem bs_one (w : World) (t : TypeId) (x : Value) (b : UInt8) (hx : x = .int .u8 (b.toNat : Int)) : Bs (w.alloc (.cells #[x] t)) (fun _ => True) (.slice (some ⟨w.heap.size, 0, none⟩) 1 1) [b] := by
  refine ⟨_, 1, rfl, Nat.le_refl _, by unfold maxLen; omega, fun _ => ⟨_, 0, rfl, trivial, fun i y hi => ?_⟩⟩
  match i, hi with
  | 0, hi =>
    simp at hi
    subst hi; subst hx
    rw [World.cell?_alloc_at _ _ _ _ rfl]
    rfl

theorem Chg.alloc_ (S : Nat → Prop) (w : World) (o : Obj) : Chg S w (w.alloc o) := (Chg.refl S w).alloc o

/-! ### the Writer -/
/-- A code.Writer behind a pointer to block a, whose field is v, with the bytes l; F: the blocks that are its own. -/
structure WrV (w : World) (F : Nat → Prop) (a : Nat) (v : Value) (l : List UInt8) : Prop where
  blk : w.heap[a]? = some (.cells #[v] 85 (0, 0))
  own : Own w 0 v l
  mine : F a
  row : ∀ g, v.ownBlock = some g → F g ∧ g ≠ a
  lt : Lt F w
def Wr (w : World) (F : Nat → Prop) (a : Nat) (l : List UInt8) : Prop := ∃ v, WrV w F a v l
/-- What a call leaves of it. -/
def WrPost (w w' : World) (F : Nat → Prop) (a : Nat) (l : List UInt8) : Prop := ∃ F', Wr w' F' a l ∧ Chg F w w' ∧ New F F' w w'

theorem WrPost.refl {w : World} {F : Nat → Prop} {a : Nat} {l : List UInt8} (h : Wr w F a l) : WrPost w w F a l := ⟨F, h, Chg.refl _ _, New.refl _ _ _⟩
theorem WrPost.trans {w w1 w2 : World} {F F1 : Nat → Prop} {a : Nat} {l : List UInt8} (hc : Chg F w w1) (hn : New F F1 w w1) (_hl : Lt F w) (h : WrPost w1 w2 F1 a l) : WrPost w w2 F a l := by
  obtain ⟨F2, h1, h2, h3⟩ := h
  refine ⟨F2, h1, hc.trans' h2 (fun i hi h => ?_), hn.trans h3 hc.size h2.size⟩
  rcases hn i h with h | h
  · exact h
  · omega
/-- The Writer is let be by whatever turns other blocks. -/
theorem Wr.keep {w w' : World} {F S : Nat → Prop} {a : Nat} {l : List UInt8} (h : Wr w F a l) (hc : Chg S w w') (hd : ∀ k, F k → ¬ S k) : Wr w' F a l := by
  obtain ⟨v, h1, h2, h3, h4, h5⟩ := h
  exact ⟨v, hc.at_ h1 (hd a h3), h2.keep hc (fun g hg => hd g (h4 g hg).1), h3, h4, h5.mono hc.size⟩
/-- A new one. -/
theorem Wr.new (w : World) : Wr (w.alloc (.cells #[.slice none 0 0] 85)) (fun k => k = w.heap.size) w.heap.size [] :=
  ⟨.slice none 0 0, heap_alloc_new w _, Own.nil_ _ _, rfl, fun g hg => by simp [Value.ownBlock] at hg, fun k hk => by subst hk; simp⟩

/-- Behind an append and the store into the field. -/
theorem WrV.appended {w wx w1 : World} {F : Nat → Prop} {a : Nat} {v v' : Value} {l lx : List UInt8} (h : WrV w F a v l) (hs : Same w wx) (ho : AppOut wx w1 v v' l lx) :
    WrPost w (w1.setCell ⟨a, 0, none⟩ v') F a (l ++ lx) := by
  obtain ⟨h1, h2, h3, h4, h5⟩ := h
  obtain ⟨o1, o2, o3⟩ := ho
  have hx1 : wx.heap[a]? = some (.cells #[v] 85 (0, 0)) := hs.at_ h1 (fun h => h)
  have hb1 : w1.heap[a]? = some (.cells #[v] 85 (0, 0)) := o2.at_ hx1 (fun e => (h4 a e).2 rfl)
  have hna : ∀ g, v'.ownBlock = some g → g ≠ a := by
    intro g hg e
    subst e
    rcases o3 g hg with h | h
    · exact (h4 g h).2 rfl
    · have := lt_of_block hx1; omega
  have hw1 : Chg F w w1 := (hs.any F).trans (o2.mono (fun k hk => (h4 k hk).1))
  have hw2 : Chg F w (w1.setCell ⟨a, 0, none⟩ v') := hw1.setCell (fun _ => h3) _
  refine ⟨fun k => F k ∨ (w.heap.size ≤ k ∧ k < w1.heap.size), ⟨v', one_setCell hb1, ?_, .inl h3, fun g hg => ⟨?_, hna g hg⟩, fun k hk => ?_⟩, hw2, fun k hk => ?_⟩
  · exact ownsRow_setCell_other o1 (fun e => hna a e rfl) _
  · rcases o3 g hg with h | h
    · exact .inl (h4 g h).1
    · have := hs.size
      exact .inr ⟨by omega, (o1.lt hg).2⟩
  · have := hw1.size
    rcases hk with hk | hk
    · have := h5 k hk; simp; omega
    · simp; omega
  · rcases hk with hk | hk
    · exact .inl hk
    · exact .inr ⟨hk.1, by simpa using hk.2⟩

/-- The field behind the append. -/
theorem WrV.field {w wx w1 : World} {F : Nat → Prop} {a : Nat} {v v' : Value} {l lx : List UInt8} (h : WrV w F a v l) (hs : Same w wx) (ho : AppOut wx w1 v v' l lx) :
    w1.cell? ⟨a, 0, none⟩ = some v ∧ w1.frozen? ⟨a, 0, none⟩ = false := by
  have hb1 : w1.heap[a]? = some (.cells #[v] 85 (0, 0)) := ho.2.1.at_ (hs.at_ h.blk (fun h => h)) (fun e => (h.row a e).2 rfl)
  exact ⟨cell_of_one hb1, free_of_one hb1⟩

/-- What a round of Num holds. -/
def NumRel (w : World) (F : Nat → Prop) (a : Nat) (all : List UInt8) (n : Int) (wr : World) : Prop :=
  ∃ l, 0 ≤ n ∧ n ≤ 18446744073709551615 ∧ WrPost w wr F a l ∧ l ++ numB n.toNat = all ∧ l.length + (numB n.toNat).length ≤ 1099511627776

theorem byte_more_fin : ∀ y : Fin 256, bits BinOp.or IntKind.u8 ((y.val : Nat) : Int) 128 = ((UInt8.ofNat (y.val % 128 + 128)).toNat : Int) := by decide +kernel
theorem byte_more (m : Int) (h0 : 0 ≤ m) : bits BinOp.or IntKind.u8 (m % 256) 128 = ((dMore m.toNat).toNat : Int) := by
  unfold dMore
  have h := byte_more_fin ⟨m.toNat % 256, by omega⟩
  have e1 : ((m.toNat % 256 : Nat) : Int) = m % 256 := by omega
  have e2 : m.toNat % 256 % 128 = m.toNat % 128 := by omega
  simp only [e1, e2] at h
  exact h
theorem byte_small (m : Int) (h0 : 0 ≤ m) (h1 : m < 256) : m = ((dLast m.toNat).toNat : Int) := by
  unfold dLast
  rw [UInt8.toNat_ofNat']; omega

set_option maxHeartbeats 800000 in
set_option maxRecDepth 100000 in
theorem wnum_any (a : Nat) (n : Int) (h0 : 0 ≤ n) (h1 : n ≤ 18446744073709551615) (F : Nat → Prop) (l : List UInt8) (w : World) (h : Wr w F a l) (hl : l.length ≤ 1099511627700) :
    Calls Try.prog 58 #[.pointer (some ⟨a, 0, none⟩), .int .u64 n] w fun e w' => e = .returned (.pointer (some ⟨a, 0, none⟩)) ∧ WrPost w w' F a (l ++ numB n.toNat) := by
  go_enter Try.func58, Try.ntmps58
  go_wp2_with fail
  go_loopw [1] (fun s wr => ∃ m : Int, s = .int .u64 m ∧ NumRel w F a (l ++ numB n.toNat) m wr) (fun s _ => (intOf s).toNat)
  case atStart => exact ⟨n, rfl, l, h0, h1, WrPost.refl h, rfl, by have := numB_len 10 n.toNat (by omega) (by omega); omega⟩
  case round =>
    obtain ⟨m, rfl, l1, hm0, hm1, ⟨F1, ⟨v, hW⟩, hchg, hnew⟩, heq, hlen⟩ := hrel
    have hc0 := cell_of_one hW.blk
    have hf0 := free_of_one hW.blk
    have hsz := lt_of_block hW.blk
    have HE := Lib.hid heq
    clear heq
    by_cases hbig : m < 128
    · have hn1 : numB m.toNat = [dLast m.toNat] := numB_small (by omega)
      have HN := Lib.hid hn1
      rw [hn1] at hlen
      clear hn1
      go_wp2_with (at_builtin; refine wl_appB rfl _ _ rfl v l1 _ _ _ (fun _ => True) [dLast m.toNat] rfl rfl (hW.own.keep (Chg.alloc_ (fun _ => False) _ _) (fun _ _ h => h)) (bs_one _ _ _ _ ?e1) ?e2 ?_)
      case e1 => rw [← byte_small m hm0 (by omega)]
      case e2 => omega
      intro A' k cap' w1 hout
      obtain ⟨hc1, hf1⟩ := hW.field (Chg.alloc_ _ _ _) hout
      have R := WrPost.trans hchg hnew (by obtain ⟨v0, h⟩ := h; exact h.lt) (hW.appended (Chg.alloc_ _ _ _) hout)
      rw [← HN.out, HE.out] at R
      clear hout
      go_wp2
      go_ret
      exact ⟨rfl, R⟩
    · have hn1 : numB m.toNat = dMore m.toNat :: numB (m.toNat / 128) := numB_big (by omega)
      have HN := Lib.hid hn1
      rw [hn1, List.length_cons] at hlen
      clear hn1
      go_wp2_with (at_builtin; refine wl_appB rfl _ _ rfl v l1 _ _ _ (fun _ => True) [dMore m.toNat] rfl rfl (hW.own.keep (Chg.alloc_ (fun _ => False) _ _) (fun _ _ h => h)) (bs_one _ _ _ _ ?e1) ?e2 ?_)
      case e1 => rw [byte_more m hm0]
      case e2 => omega
      intro A' k cap' w1 hout
      obtain ⟨hc1, hf1⟩ := hW.field (Chg.alloc_ _ _ _) hout
      have R := WrPost.trans hchg hnew (by obtain ⟨v0, h⟩ := h; exact h.lt) (hW.appended (Chg.alloc_ _ _ _) hout)
      clear hout
      go_wp2
      go_roundw
      case rel =>
        refine ⟨m / 128, rfl, _, by omega, by omega, R, ?_, ?_⟩
        · rw [← HE.out, HN.out, show (m / 128).toNat = m.toNat / 128 by omega]; simp
        · rw [show (m / 128).toNat = m.toNat / 128 by omega]; simp; omega
      case measure => simp [intOf]; omega
end Go.Proofs.Ytdkankiohoocaaa
/- The walks of the functions on slices of bytes: bytes.Clone, carrierref01.Join, carrierref01.Bytes; code.Writer's Bytes. -/
namespace Go.Proofs.Ytdkankiohoocaaa
set_option linter.unusedSimpArgs false
set_option linter.unusedVariables false
open Go Go.RowKit Go.Proofs

/-- A slice of bytes that the call has made; nothing that was there has turned. -/
def Fresh (w w' : World) (v : Value) (l : List UInt8) : Prop := Own w' w.heap.size v l ∧ Same w w'

theorem Own.base_ {w : World} {v : Value} {l : List UInt8} (h : Own w 0 v l) {b : Nat} (hb : ∀ g, v.ownBlock = some g → b ≤ g) : Own w b v l := by
  obtain ⟨h1, h2⟩ := h
  refine ⟨h1, ?_⟩
  rcases h2 with h0 | ⟨g, cap, cur, rfl, _, r⟩
  · exact .inl h0
  · exact .inr ⟨g, cap, cur, rfl, hb g rfl, r⟩

theorem Own.form {w : World} {b : Nat} {v : Value} {l : List UInt8} (h : Own w b v l) : ∃ A cap, v = .slice A l.length cap := by
  rcases h.2 with ⟨h1, h2⟩ | ⟨g, cap, cur, h1, _⟩
  · exact ⟨none, 0, by rw [h1, h2]⟩
  · exact ⟨_, _, h1⟩
theorem Fresh.form {w w' : World} {v : Value} {l : List UInt8} (h : Fresh w w' v l) : ∃ A cap, v = .slice A l.length cap := h.1.form

theorem AppOut.fresh {w wx w' : World} {v v' : Value} {l lx : List UInt8} (h : AppOut wx w' v v' l lx) (hs : Same w wx) (hv : ∀ g, v.ownBlock = some g → w.heap.size ≤ g) : Fresh w w' v' (l ++ lx) := by
  obtain ⟨h1, h2, h3⟩ := h
  refine ⟨h1.base_ (fun g hg => ?_), hs.trans' h2 (fun i hi hT => ?_)⟩
  · rcases h3 g hg with h | h
    · exact hv g h
    · rw [h]; exact hs.size
  · have := hv i hT; omega

set_option maxHeartbeats 800000 in
theorem clone_any (v : Value) (l : List UInt8) (F : Nat → Prop) (w : World) (h : Bs w F v l) (hl : l.length ≤ 140737488355328) :
    Calls Try.prog 59 #[v] w fun e w' => ∃ v', e = .returned v' ∧ Fresh w w' v' l := by
  have q := fun (w : World) (a : Option Addr) (n c n' c' : Nat) => Lib.run_eql_slice_nil w _ _ a n c n' c' Try.underlying22
  have h' := h
  obtain ⟨A, cap, rfl, h1, h2, h3⟩ := h'
  rcases A with _ | ad
  · have h0 : l = [] := by
      rcases Nat.eq_zero_or_pos l.length with h0 | h0
      · exact List.eq_nil_of_length_eq_zero h0
      · obtain ⟨b, o, hA, _⟩ := h3 h0; cases hA
    subst h0
    clear h h3
    go_enter Try.func59, Try.ntmps59
    go_wp2
    go_ret
    exact ⟨_, rfl, Own.nil_ _ _, Chg.refl _ _⟩
  · clear h3
    go_enter Try.func59, Try.ntmps59
    go_wp2_with (at_builtin; refine wl_appB rfl _ _ rfl _ [] _ _ _ F l rfl rfl (World.ownsRow_made w #[] 0 (Nat.zero_le _) (Nat.zero_le _) rfl) (h.same (Chg.alloc_ (fun _ => False) _ _)) ?e2 ?_)
    case e2 => simp; omega
    intro A' k cap' w1 hout
    have R := hout.fresh (w := w) (Chg.alloc_ (fun _ => False) _ _) (fun g hg => by simp [Value.ownBlock] at hg; omega)
    clear hout
    go_wp2
    go_ret
    exact ⟨_, rfl, R⟩

set_option maxHeartbeats 800000 in
theorem join_any (va vb : Value) (la lb : List UInt8) (F G : Nat → Prop) (w : World) (ha : Bs w F va la) (hb : Bs w G vb lb) (hl : la.length + lb.length ≤ 140737488355328) :
    Calls Try.prog 22 #[va, vb] w fun e w' => ∃ v', e = .returned v' ∧ Fresh w w' v' (la ++ lb) := by
  obtain ⟨A, c1, e1, h1⟩ := id ha
  obtain ⟨B, c2, e2, h2⟩ := id hb
  subst e1; subst e2
  clear h1 h2
  go_enter Try.func22, Try.ntmps22
  go_wp2_with (at_builtin; refine wl_appB rfl _ _ rfl _ [] _ _ _ F la rfl rfl (Own.nil_ _ _) ha ?e1 ?_)
  case e1 => simp; omega
  intro A' k cap' w1 hout
  have R := hout.fresh (w := w) (Chg.refl (fun _ => False) _) (fun g hg => by simp [Value.ownBlock] at hg)
  have hb1 := hb.same R.2
  have hown := R.1.weak (Nat.zero_le _)
  clear hout
  go_wp2_with (at_builtin; refine wl_appB rfl _ _ rfl _ la _ _ _ G lb rfl rfl hown hb1 ?e2 ?_)
  case e2 => omega
  intro A2 k2 cap2 w2 hout
  have R2 : Fresh w w2 (.slice A2 k2 cap2) (la ++ lb) := by
    obtain ⟨h1, h2, h3⟩ := hout
    refine ⟨h1.base_ (fun g hg => ?_), R.2.trans' h2 (fun i hi hT => ?_)⟩
    · rcases h3 g hg with h | h
      · exact (R.1.lt h).1
      · rw [h]; exact R.2.size
    · have := (R.1.lt hT).1; omega
  clear hout
  go_wp2
  go_ret
  exact ⟨_, rfl, R2⟩

set_option maxHeartbeats 800000 in
theorem wbytes_any (a : Nat) (F : Nat → Prop) (l : List UInt8) (w : World) (h : Wr w F a l) (hl : l.length ≤ 140737488355328) :
    Calls Try.prog 37 #[.pointer (some ⟨a, 0, none⟩)] w fun e w' => ∃ v', e = .returned v' ∧ Fresh w w' v' l := by
  obtain ⟨v, hW⟩ := h
  have hc0 := cell_of_one hW.blk
  have hbs := Own.bs (F := F) hW.own (fun g hg => (hW.row g hg).1)
  go_enter Try.func37, Try.ntmps37
  go_wp2_with fail
  refine (clone_any v l F w hbs hl).mono ?_
  rintro e w' ⟨v', rfl, R⟩
  go_wp2
  go_ret
  exact ⟨_, rfl, R⟩

/-- The cell of the k-th byte. -/
theorem Bs.at_ {w : World} {F : Nat → Prop} {A : Option Addr} {n c : Nat} {l : List UInt8} (h : Bs w F (.slice A n c) l) {k : Nat} (hk : k < l.length) :
    n = l.length ∧ ∃ b o x, A = some ⟨b, o, none⟩ ∧ F b ∧ l[k]? = some x ∧ w.cell? ⟨b, o + k, none⟩ = some (.int .u8 (x.toNat : Int)) := by
  obtain ⟨A1, c1, hv, h1, h2, h3⟩ := h
  injection hv with e1 e2 e3
  subst e1; subst e2; subst e3
  obtain ⟨b, o, hA, hF, hx⟩ := h3 (by omega)
  exact ⟨rfl, b, o, l[k], hA, hF, List.getElem?_eq_getElem hk, hx k _ (List.getElem?_eq_getElem hk)⟩

theorem ret_bool {a b : Bool} (h : a = b) : Ending.returned (.bool a) = .returned (.bool b) := by rw [h]
theorem ret_int {k : IntKind} {a b : Int} (h : a = b) : Ending.returned (.int k a) = .returned (.int k b) := by rw [h]

def SameTo (la lb : List UInt8) (k : Nat) : Prop := la.take k = lb.take k
theorem SameTo.zero (la lb : List UInt8) : SameTo la lb 0 := by simp [SameTo]
theorem SameTo.succ {la lb : List UInt8} {k : Nat} {x : UInt8} (h : SameTo la lb k) (ha : la[k]? = some x) (hb : lb[k]? = some x) : SameTo la lb (k + 1) := by
  unfold SameTo at *
  rw [List.take_add_one, List.take_add_one, h, ha, hb]
theorem SameTo.all {la lb : List UInt8} (h : SameTo la lb la.length) (hl : la.length = lb.length) : la = lb := by
  unfold SameTo at h
  rwa [List.take_length, hl, List.take_length] at h

/-- Are two lists alike? -/
def sameB (la lb : List UInt8) : Bool := decide (la = lb)

set_option maxHeartbeats 1600000 in
theorem alike_any (va vb : Value) (la lb : List UInt8) (F G : Nat → Prop) (w : World) (ha : Bs w F va la) (hb : Bs w G vb lb) :
    Calls Try.prog 17 #[va, vb] w fun e w' => e = .returned (.bool (sameB la lb)) ∧ ∃ n, w' = w.drewN n := by
  obtain ⟨A, c1, e1, ha1, ha2, -⟩ := id ha
  obtain ⟨B, c2, e2, hb1, hb2, -⟩ := id hb
  subst e1; subst e2
  unfold maxLen at ha2 hb2
  by_cases hl : la.length = lb.length
  · have hl1 : la.length ≤ lb.length := by omega
    have hl2 : lb.length ≤ la.length := by omega
    have HL := Lib.hid hl
    have hd : ((la.length : Int) != (lb.length : Int)) = false := by simp [hl]
    clear hl
    go_enter Try.func17, Try.ntmps17
    go_wp2_with fail
    go_loopw [5] (fun i wr => ∃ k : Nat, k ≤ la.length ∧ i = .int .i64 k ∧ SameTo la lb k ∧ ∃ n, wr = w.drewN n) (fun i _ => la.length - (intOf i).toNat)
    case atStart => exact ⟨0, Nat.zero_le _, rfl, SameTo.zero _ _, 0, rfl⟩
    case round =>
      obtain ⟨k, hk, rfl, hs, n, rfl⟩ := hrel
      by_cases hlt : k < la.length
      · obtain ⟨-, b1, o1, x, rfl, -, hx, hcx⟩ := ha.at_ hlt
        obtain ⟨-, b2, o2, y, rfl, -, hy, hcy⟩ := hb.at_ (show k < lb.length by omega)
        have hlt2 : (k : Int) < (lb.length : Int) := by omega
        have hlt1 : (k : Int) < (la.length : Int) := by omega
        have HX := Lib.hid hx
        have HY := Lib.hid hy
        clear hx hy
        by_cases hxy : x = y
        · subst hxy
          go_wp2_with fail
          go_quiet (fail)
          go_wp2
          go_roundw
          case rel => exact ⟨k + 1, by omega, by go_num, hs.succ HX.out HY.out, _, rfl⟩
          case measure => simp [intOf]; omega
        · have hne : ((x.toNat : Int) != (y.toNat : Int)) = true := by
            simp only [bne_iff_ne, ne_eq, Int.natCast_inj]
            exact fun e => hxy (UInt8.toNat_inj.1 e)
          have hfin : sameB la lb = false := by
            unfold sameB
            refine decide_eq_false fun e => hxy ?_
            have h1 := HX.out; have h2 := HY.out
            rw [e, h2] at h1
            injection h1 with h1
            exact h1.symm
          have HF := Lib.hid hfin
          clear hfin
          go_wp2_with fail
          go_quiet (fail)
          go_wp2
          go_ret
          exact ⟨ret_bool HF.out.symm, _, World.drewN_drewN _ _ _⟩
      · have hfin : sameB la lb = true := by
          unfold sameB
          have : k = la.length := by omega
          subst this
          exact decide_eq_true (hs.all HL.out)
        have HF := Lib.hid hfin
        clear hfin
        go_wp2
        go_ret
        exact ⟨ret_bool HF.out.symm, _, rfl⟩
  · have hd : ((la.length : Int) != (lb.length : Int)) = true := by simp; omega
    have hfin : sameB la lb = false := decide_eq_false fun e => hl (by rw [e])
    have HF := Lib.hid hfin
    clear hfin hl
    go_enter Try.func17, Try.ntmps17
    go_wp2
    go_ret
    exact ⟨ret_bool HF.out.symm, 0, rfl⟩

theorem Fresh.app {w wr wx w1 : World} {v v' : Value} {l lx : List UInt8} (h : Fresh w wr v l) (hs : Same wr wx) (ho : AppOut wx w1 v v' l lx) : Fresh w w1 v' (l ++ lx) := by
  obtain ⟨h1, h2, h3⟩ := ho
  refine ⟨h1.base_ (fun g hg => ?_), (h.2.trans hs).trans' h2 (fun i hi hT => ?_)⟩
  · rcases h3 g hg with k | k
    · exact (h.1.lt k).1
    · rw [k]; exact Nat.le_trans h.2.size hs.size
  · have := (h.1.lt hT).1; omega
theorem Fresh.nil_ (w : World) : Fresh w w (.slice none 0 0) [] := ⟨Own.nil_ _ _, Chg.refl _ _⟩
theorem Fresh.own {w wr wx : World} {v : Value} {l : List UInt8} (h : Fresh w wr v l) (hs : Same wr wx) : Own wx 0 v l := (h.1.weak (Nat.zero_le _)).keep hs (fun _ _ h => h)
theorem Fresh.bs {w w' : World} {v : Value} {l : List UInt8} (h : Fresh w w' v l) : Bs w' (fun k => w.heap.size ≤ k) v l := Own.bs h.1 (fun _ hg => (h.1.lt hg).1)

def RNumRel (w wr : World) (v : Value) (all : List UInt8) (n : Int) : Prop :=
  ∃ l, 0 ≤ n ∧ n ≤ 18446744073709551615 ∧ Fresh w wr v l ∧ l ++ numB n.toNat = all ∧ l.length + (numB n.toNat).length ≤ 10

theorem byte_mod (m : Int) (h0 : 0 ≤ m) : (m % 128 + 128) = ((dMore m.toNat).toNat : Int) := by
  unfold dMore
  rw [UInt8.toNat_ofNat']; omega

set_option maxHeartbeats 800000 in
set_option maxRecDepth 100000 in
theorem rnum_any (n : Int) (h0 : 0 ≤ n) (h1 : n ≤ 18446744073709551615) (w : World) :
    Calls Try.prog 70 #[.int .u64 n] w fun e w' => ∃ v', e = .returned v' ∧ Fresh w w' v' (numB n.toNat) := by
  go_enter Try.func70, Try.ntmps70
  go_wp2_with fail
  go_loopw [0, 3] (fun s v wr => ∃ m : Int, s = .int .u64 m ∧ RNumRel w wr v (numB n.toNat) m) (fun s _ _ => (intOf s).toNat)
  case atStart => exact ⟨n, rfl, [], h0, h1, Fresh.nil_ _, rfl, by have := numB_len10 h1; simpa using this⟩
  case round =>
    obtain ⟨m, rfl, l1, hm0, hm1, hF, heq, hlen⟩ := hrel
    have HE := Lib.hid heq
    clear heq
    by_cases hbig : m ≤ 127
    · have hn1 : numB m.toNat = [dLast m.toNat] := numB_small (by omega)
      have HN := Lib.hid hn1
      rw [hn1] at hlen
      clear hn1
      go_wp2_with (at_builtin; refine wl_appB rfl _ _ rfl _ l1 _ _ _ (fun _ => True) [dLast m.toNat] rfl rfl (hF.own (Chg.alloc_ _ _ _)) (bs_one _ _ _ _ ?e1) ?e2 ?_)
      case e1 => rw [← byte_small m hm0 (by omega)]
      case e2 => simp at hlen; first | omega | (simp; omega)
      intro A' k cap' w1 hout
      have R := hF.app (Chg.alloc_ _ _ _) hout
      rw [← HN.out, HE.out] at R
      clear hout
      go_wp2
      go_ret
      exact ⟨_, rfl, R⟩
    · have hn1 : numB m.toNat = dMore m.toNat :: numB (m.toNat / 128) := numB_big (by omega)
      have HN := Lib.hid hn1
      rw [hn1, List.length_cons] at hlen
      clear hn1
      go_wp2_with (at_builtin; refine wl_appB rfl _ _ rfl _ l1 _ _ _ (fun _ => True) [dMore m.toNat] rfl rfl (hF.own (Chg.alloc_ _ _ _)) (bs_one _ _ _ _ ?e1) ?e2 ?_)
      case e1 => rw [← byte_mod m hm0]
      case e2 => first | omega | (simp; omega)
      intro A' k cap' w1 hout
      have R := hF.app (Chg.alloc_ _ _ _) hout
      clear hout
      go_wp2
      go_roundw
      case rel =>
        refine ⟨m / 128, rfl, _, by omega, by omega, R, ?_, ?_⟩
        · rw [← HE.out, HN.out, show (m / 128).toNat = m.toNat / 128 by omega]; simp
        · rw [show (m / 128).toNat = m.toNat / 128 by omega]; simp; omega
      case measure => simp [intOf]; omega
end Go.Proofs.Ytdkankiohoocaaa
/- The walks of the functions on texts, and on numbers that may be below 0: code.Writer's Int, Text; carrierref02's Int, Text. -/
namespace Go.Proofs.Ytdkankiohoocaaa
set_option linter.unusedSimpArgs false
set_option linter.unusedVariables false
open Go Go.RowKit Go.Proofs

/-! ### texts and bytes -/
theorem strCells_bvs (s : ByteArray) : Lib.strCells s = bvs s.data.toList := rfl
theorem size_toList (s : ByteArray) : s.data.toList.length = s.size := by rw [Array.length_toList]; rfl

theorem run_appS (w : World) (ty : TypeId) (v : Value) (l : List UInt8) (hown : Own w 0 v l) (s : ByteArray) (hlen : l.length + s.size ≤ 140737488355328) :
    ∃ A' k cap' w', (Builtin.append_ #[22, 9] ty #[v, .string s]).run Try.prog w = .ok (.slice A' k cap') w' ∧ AppOut w w' v (.slice A' k cap') l s.data.toList := by
  obtain ⟨i0, hi, hz0, hz1, hz2⟩ := info_parts info_u8
  obtain ⟨v', w', hr, h2, h3, h4⟩ := Lib.run_append_own_string (P := Try.prog) w 0 22 9 ty 5 i0 Try.underlying22 Try.underlying9 hi hz0 hz1 hz2 v l.length (bvs l) hown s (by unfold maxLen; omega) (by omega) (Nat.zero_le _)
  have hat : ∀ g, v'.ownBlock = some g → v.ownBlock = some g ∨ g = w.heap.size := by
    intro g hg
    rcases hown.2 with ⟨rfl, h0⟩ | ⟨g0, cap, cur, rfl, _, hcur, hnc, hcm, hcs, _⟩
    · obtain ⟨v2, w2, hr2, h22, _⟩ := Lib.run_append_own_string (P := Try.prog) w w.heap.size 22 9 ty 5 i0 Try.underlying22 Try.underlying9 hi hz0 hz1 hz2 (.slice none 0 0) 0 [] (World.ownsRow_nil _ _ _ _) s (by unfold maxLen; omega) (by omega) (Nat.le_refl _)
      rw [hr] at hr2
      injection hr2 with e1 e2
      subst e1
      subst e2
      rcases Nat.eq_zero_or_pos s.size with hs0 | hs0
      · rw [h4.2 ⟨rfl, hs0⟩] at hg; simp [Value.ownBlock] at hg
      · have hr3 := run_append_nil_string (P := Try.prog) w 22 9 ty 5 i0 (.int .u8 0) Try.underlying22 Try.underlying9 hi hz0 s hs0 (by omega) (by rw [hz2]; omega)
        rw [hr] at hr3
        injection hr3 with e1 e2
        rw [e1] at hg
        simp [Value.ownBlock] at hg
        exact .inr hg.symm
    · by_cases hroom : l.length + s.size ≤ cap
      · have hr3 := Lib.run_append_room_string (P := Try.prog) w 22 9 ty 5 i0 Try.underlying22 Try.underlying9 hi hz1 g0 l.length cap cur hcur s hroom (by omega)
        rw [hr] at hr3
        injection hr3 with e1 e2
        rw [e1] at hg
        exact .inl hg
      · have hr3 := Lib.run_append_grow_string (P := Try.prog) w 22 9 ty 5 i0 (.int .u8 0) Try.underlying22 Try.underlying9 hi hz0 ⟨g0, 0, none⟩ l.length cap (bvs l) (by rw [hz1]; simp) (World.ownsRow.cells hown (g := g0) rfl) s (by omega) (by omega) (by rw [hz2]; exact growslice_fits (by omega) (by omega))
        rw [hr] at hr3
        injection hr3 with e1 e2
        rw [e1] at hg
        simp [Value.ownBlock] at hg
        exact .inr hg.symm
  obtain ⟨A', cap', rfl⟩ : ∃ A' cap', v' = .slice A' (l.length + s.size) cap' := by
    rcases h2.2 with ⟨hv, h0⟩ | ⟨g, cap, cur, hv, _⟩
    · exact ⟨none, 0, by rw [hv, h0]⟩
    · exact ⟨_, _, hv⟩
  refine ⟨A', _, cap', w', hr, ?_, Chg.of_grown h3 (fun k h => h), hat⟩
  show w'.ownsRow 0 5 1 _ (l ++ s.data.toList).length (bvs (l ++ s.data.toList))
  rw [List.length_append, bvs_append, size_toList]; exact h2

theorem wl_appS {ops : Array Oper} {rest : List Oper} {o : Oper} {a : Act} {Q : Exit → Act → World → Prop} {w : World} (hgd : o.guard = none) (s x : Operand)
    (ho : o.op = .call { callee := .builtin .append, args := #[s, x], argTypes := #[22, 9] })
    (v : Value) (l : List UInt8) (t : ByteArray) (hs : a.eval s = v) (hx : a.eval x = .string t) (hown : Own w 0 v l) (hlen : l.length + t.size ≤ 140737488355328)
    (h : ∀ A' k cap' w', AppOut w w' v (.slice A' k cap') l t.data.toList → wpList Try.prog ops Q rest (a.put o.dst (.slice A' k cap')) w') :
    wpList Try.prog ops Q (o :: rest) a w := by
  refine wpList_plain hgd fun K hK => ?_
  obtain ⟨A', k, cap', w', hr, h2⟩ := run_appS w o.type v l hown t hlen
  unfold Oper.wp execOp
  simp only [ho, resolve, invoke, builtin, Sem.run_bind, Sem.run_pure, Result.andThen_ok, List.map_toArray, List.map_cons, List.map_nil, hs, hx, hr]
  exact hK _ _ (h A' k cap' w' h2)

/-- '[]byte(s)': new bytes. -/
theorem run_ofS (w : World) (s : ByteArray) (hlen : s.size ≤ 140737488355328) :
    ∃ A k cap w', (convert 9 22 (.string s)).run Try.prog w = .ok (.slice A k cap) w' ∧ Bs w' (fun k => w.heap.size ≤ k) (.slice A k cap) s.data.toList ∧ Same w w' := by
  have hr := run_bytes_of_string (P := Try.prog) w 9 22 5 s Try.underlying9 Try.underlying22 Try.underlying5
  have hge := grownCap_ge w s.size 0 5
  have hle := grownCap_le_maxLen w s.size 0 5 (by unfold maxLen; omega)
  refine ⟨_, _, _, _, hr, ⟨_, _, by rw [size_toList], by rw [size_toList]; exact hge, hle, fun _ => ⟨w.heap.size, 0, rfl, Nat.le_refl _, fun i x hi => ?_⟩⟩, ((Chg.refl _ w).drew).alloc _⟩
  have hil : i < s.data.toList.length := (List.getElem?_eq_some_iff.1 hi).1
  have hb : (w.drew.alloc (.cells (bytesRow s (grownCap w s.size 0 5)) 5 ((bytesRow s (grownCap w s.size 0 5)).size, (bytesRow s (grownCap w s.size 0 5)).size + 1))).heap[w.heap.size]? = some (.cells (bytesRow s (grownCap w s.size 0 5)) 5 ((bytesRow s (grownCap w s.size 0 5)).size, (bytesRow s (grownCap w s.size 0 5)).size + 1)) := heap_alloc_new w.drew _
  unfold World.cell?
  rw [hb]
  have e : s.data[i]? = some x := by rw [← Array.getElem?_toList]; exact hi
  have hil' : i < s.data.size := by simpa using hil
  have hns : ¬ s.size ≤ i := by have : s.data.size = s.size := rfl; omega
  simp [bytesRow, Array.getElem?_append, e, hns]

theorem wl_ofS {ops : Array Oper} {rest : List Oper} {o : Oper} {a : Act} {Q : Exit → Act → World → Prop} {w : World} (hgd : o.guard = none) (x : Operand)
    (ho : o.op = .convert 9 22 x) (s : ByteArray) (hx : a.eval x = .string s) (hlen : s.size ≤ 140737488355328)
    (h : ∀ A k cap w', Bs w' (fun k => w.heap.size ≤ k) (.slice A k cap) s.data.toList → Same w w' → wpList Try.prog ops Q rest (a.put o.dst (.slice A k cap)) w') :
    wpList Try.prog ops Q (o :: rest) a w := by
  refine wpList_plain hgd fun K hK => ?_
  obtain ⟨A, k, cap, w', hr, h1, h2⟩ := run_ofS w s hlen
  unfold Oper.wp execOp
  simp only [ho, Sem.run_bind, Sem.run_pure, Result.andThen_ok, hx, hr]
  exact hK _ _ (h A k cap w' h1 h2)

/-- 'string(p)'. -/
theorem run_toS (w : World) (F : Nat → Prop) (v : Value) (l : List UInt8) (hb : Bs w F v l) : (convert 22 9 v).run Try.prog w = .ok (.string ⟨l.toArray⟩) w := by
  obtain ⟨A, cap, rfl, _, _, hc⟩ := hb
  rcases A with _ | ad
  · have h0 : l = [] := by
      rcases Nat.eq_zero_or_pos l.length with h0 | h0
      · exact List.eq_nil_of_length_eq_zero h0
      · obtain ⟨b, o, hA, _⟩ := hc h0; cases hA
    subst h0
    rw [run_convert_bytes_nil (P := Try.prog) w 22 5 Try.underlying22 Try.underlying5 _ _ 9 Try.underlying9]
    rfl
  · refine run_convert_bytes_back (P := Try.prog) w 22 9 5 ad cap l Try.underlying22 Try.underlying5 Try.underlying9 (fun j hj => ?_)
    obtain ⟨b, o, hA, _, hx⟩ := hc (by omega)
    injection hA with hA
    subst hA
    have := hx j l[j] (List.getElem?_eq_getElem hj)
    unfold Addr.add
    split
    · subst j; simpa using this
    · exact this

theorem wl_toS {ops : Array Oper} {rest : List Oper} {o : Oper} {a : Act} {Q : Exit → Act → World → Prop} {w : World} (hgd : o.guard = none) (x : Operand)
    (ho : o.op = .convert 22 9 x) (v : Value) (F : Nat → Prop) (l : List UInt8) (hx : a.eval x = v) (hb : Bs w F v l)
    (h : wpList Try.prog ops Q rest (a.put o.dst (.string ⟨l.toArray⟩)) w) :
    wpList Try.prog ops Q (o :: rest) a w := by
  refine wpList_plain hgd fun K hK => ?_
  unfold Oper.wp execOp
  simp only [ho, Sem.run_bind, Sem.run_pure, Result.andThen_ok, hx, run_toS w F v l hb]
  exact hK _ _ h

theorem nat_xor_ones (x : Nat) (h : x < 18446744073709551616) : x ^^^ 18446744073709551615 = 18446744073709551615 - x := by
  have h1 : (BitVec.ofNat 64 x ^^^ BitVec.allOnes 64).toNat = (~~~ BitVec.ofNat 64 x).toNat := by rw [BitVec.xor_allOnes]
  rw [BitVec.toNat_xor, BitVec.toNat_not, BitVec.toNat_ofNat, BitVec.toNat_allOnes, Nat.mod_eq_of_lt h] at h1
  exact h1

theorem zig_bits (n : Int) (h0 : -9223372036854775808 ≤ n) (h1 : n ≤ 9223372036854775807) :
    bits BinOp.xor IntKind.u64 (IntKind.u64.wrap (IntKind.u64.wrap n * 2)) (IntKind.u64.wrap (n / 9223372036854775808)) = zig n := by
  simp only [IntKind.wrap_u64]
  unfold zig
  by_cases hn : 0 ≤ n
  · have e1 : n % 18446744073709551616 * 2 % 18446744073709551616 = 2 * n := by omega
    have e2 : n / 9223372036854775808 % 18446744073709551616 = 0 := by omega
    rw [e1, e2, if_pos hn, u64_xor _ _ (by omega) (by omega) (by omega) (by omega)]
    simp
    omega
  · have e1 : n % 18446744073709551616 * 2 % 18446744073709551616 = 2 * n + 18446744073709551616 := by omega
    have e2 : n / 9223372036854775808 % 18446744073709551616 = 18446744073709551615 := by omega
    rw [e1, e2, if_neg hn, u64_xor _ _ (by omega) (by omega) (by omega) (by omega)]
    have e3 : (18446744073709551615 : Int).toNat = 18446744073709551615 := rfl
    rw [e3, nat_xor_ones _ (by omega)]
    omega
theorem zig_ge (n : Int) : 0 ≤ zig n := by unfold zig; split <;> omega
theorem zig_le (n : Int) (h0 : -9223372036854775808 ≤ n) (h1 : n ≤ 9223372036854775807) : zig n ≤ 18446744073709551615 := by unfold zig; split <;> omega

set_option maxHeartbeats 800000 in
theorem wint_any (a : Nat) (n : Int) (h0 : -9223372036854775808 ≤ n) (h1 : n ≤ 9223372036854775807) (F : Nat → Prop) (l : List UInt8) (w : World) (h : Wr w F a l) (hl : l.length ≤ 1099511627700) :
    Calls Try.prog 34 #[.pointer (some ⟨a, 0, none⟩), .int .i64 n] w fun e w' => e = .returned (.pointer (some ⟨a, 0, none⟩)) ∧ WrPost w w' F a (l ++ intB n) := by
  go_enter Try.func34, Try.ntmps34
  go_wp2_with fail
  rw [zig_bits n h0 h1]
  refine (wnum_any a (zig n) (zig_ge n) (zig_le n h0 h1) F l w h hl).mono ?_
  rintro e w' ⟨rfl, R⟩
  go_wp2
  go_ret
  exact ⟨rfl, R⟩

set_option maxHeartbeats 800000 in
theorem rint_any (n : Int) (h0 : -9223372036854775808 ≤ n) (h1 : n ≤ 9223372036854775807) (w : World) :
    Calls Try.prog 45 #[.int .i64 n] w fun e w' => ∃ v', e = .returned v' ∧ Fresh w w' v' (intB n) := by
  by_cases hn : 0 ≤ n
  · have HZ : Hid (intB n = numB (2 * n).toNat) := by show _ = _; unfold intB zig; rw [if_pos hn]
    go_enter Try.func45, Try.ntmps45
    go_wp2_with fail
    refine (rnum_any (2 * n) (by omega) (by omega) w).mono ?_
    rintro e w' ⟨v', rfl, R⟩
    rw [← HZ.out] at R
    go_wp2
    go_ret
    exact ⟨_, rfl, R⟩
  · have HZ : Hid (intB n = numB (2 * -(n + 1) + 1).toNat) := by show _ = _; unfold intB zig; rw [if_neg hn]; congr 2; omega
    go_enter Try.func45, Try.ntmps45
    go_wp2_with fail
    refine (rnum_any (2 * -(n + 1) + 1) (by omega) (by omega) w).mono ?_
    rintro e w' ⟨v', rfl, R⟩
    rw [← HZ.out] at R
    go_wp2
    go_ret
    exact ⟨_, rfl, R⟩

set_option maxHeartbeats 800000 in
theorem wtext_any (a : Nat) (s : ByteArray) (F : Nat → Prop) (l : List UInt8) (w : World) (h : Wr w F a l) (hl : l.length ≤ 1099511627600) (hs : s.size ≤ 1099511627700) :
    Calls Try.prog 36 #[.pointer (some ⟨a, 0, none⟩), .string s] w fun e w' => e = .returned (.pointer (some ⟨a, 0, none⟩)) ∧ WrPost w w' F a (l ++ textB s.data.toList) := by
  have HT : Hid (l ++ textB s.data.toList = (l ++ numB (s.size : Int).toNat) ++ s.data.toList) := by show _ = _; unfold textB; rw [size_toList, List.append_assoc]; rfl
  have hlt : Lt F w := by obtain ⟨v, h⟩ := h; exact h.lt
  have hnl := numB_len10 (n := (s.size : Int)) (by omega)
  go_enter Try.func36, Try.ntmps36
  go_wp2_with fail
  refine (wnum_any a s.size (by omega) (by omega) F l w h (by omega)).mono ?_
  rintro e w1 ⟨rfl, F1, ⟨v, hW⟩, hchg, hnew⟩
  have hc0 := cell_of_one hW.blk
  have hf0 := free_of_one hW.blk
  generalize hll : l ++ numB (s.size : Int).toNat = ll at *
  have hlen : ll.length ≤ 1099511627700 := by rw [← hll, List.length_append]; omega
  clear hll
  go_wp2_with (refine wl_appS rfl _ _ rfl v ll s rfl rfl hW.own (by omega) ?_)
  intro A' k cap' w2 hout
  obtain ⟨hc1, hf1⟩ := hW.field (Chg.refl _ _) hout
  have R := WrPost.trans hchg hnew hlt (hW.appended (Chg.refl _ _) hout)
  rw [← HT.out] at R
  clear hout
  go_wp2
  go_ret
  exact ⟨rfl, R⟩

set_option maxHeartbeats 800000 in
theorem rtext_any (s : ByteArray) (hs : s.size ≤ 1099511627700) (w : World) :
    Calls Try.prog 46 #[.string s] w fun e w' => ∃ v', e = .returned v' ∧ Fresh w w' v' (textB s.data.toList) := by
  have HT : Hid (textB s.data.toList = numB (s.size : Int).toNat ++ s.data.toList) := by show _ = _; unfold textB; rw [size_toList]; rfl
  have hnl := numB_len10 (n := (s.size : Int)) (by omega)
  go_enter Try.func46, Try.ntmps46
  go_wp2_with fail
  refine (rnum_any s.size (by omega) (by omega) w).mono ?_
  rintro e w1 ⟨v1, rfl, R1⟩
  go_wp2_with (refine wl_ofS rfl _ rfl s rfl (by omega) ?_)
  intro A k cap w2 hb2 hs2
  have hb1 := R1.bs.same hs2
  have hsl := size_toList s
  go_wp2_with fail
  refine (join_any _ _ _ _ _ _ w2 hb1 hb2 (by omega)).mono ?_
  rintro e w3 ⟨v3, rfl, R3⟩
  have R : Fresh w w3 v3 (textB s.data.toList) := by
    rw [HT.out]
    exact ⟨R3.1.weak (Nat.le_trans R1.2.size hs2.size), (R1.2.trans hs2).trans R3.2⟩
  go_wp2
  go_ret
  exact ⟨_, rfl, R⟩
end Go.Proofs.Ytdkankiohoocaaa
