/- The walks of code.Writer. -/
import Derived.Test.YtpommgohciigoaaChecked
import Derived.Test.YtpommgohciigoaaCodeSpec
import Derived.Deep.DeepCutAuto
namespace Go.Proofs.Ytpommgohciigoaa
open Go Go.RowKit Go.Proofs

theorem info_u8 : (Try.prog.info? 5).map (fun i => (i.zero, i.size, i.bytes)) = some (some (.int .u8 0), 1, 1) := by kernel_rfl

/-! ### append onto bytes of the call's own -/
/-- What an append of the bytes lx onto the own slice v (of the bytes l) leaves: the slice v' in w'. -/
def AppOut (w w' : World) (v v' : Value) (l lx : List UInt8) : Prop :=
  Own w' 0 v' (l ++ lx) ∧ Chg (fun k => v.ownBlock = some k) w w' ∧ ∀ g, v'.ownBlock = some g → v.ownBlock = some g ∨ g = w.heap.size

theorem run_appB (w : World) (ty : TypeId) (v : Value) (l : List UInt8) (hown : Own w 0 v l) (A : Option Addr) (m c : Nat) (G : Nat → Prop) (lx : List UInt8) (hsrc : Bs w G (.slice A m c) lx)
    (hlen : l.length + lx.length ≤ 140737488355328) :
    ∃ A' k cap' w', (Builtin.append_ #[28, 28] ty #[v, .slice A m c]).run Try.prog w = .ok (.slice A' k cap') w' ∧ AppOut w w' v (.slice A' k cap') l lx := by
  obtain ⟨i0, hi, hz0, hz1, hz2⟩ := info_parts info_u8
  obtain ⟨A1, c1, hv, h1, h2, h3⟩ := hsrc
  injection hv with e1 e2 e3
  subst e1; subst e2; subst e3
  obtain ⟨A', cap', w', hr, k1, k2, k3⟩ := run_app (P := Try.prog) w 28 ty 5 i0 (.int .u8 0) 1 1 Try.underlying28 hi hz0 hz1 hz2 rfl (by decide) v l.length (bvs l) hown A lx.length c (bvs lx) (by simp)
    (fun h0 => by
      obtain ⟨b, o, hA, _, hx⟩ := h3 h0
      refine ⟨⟨b, o, none⟩, hA, fun j u hu => ?_⟩
      rw [bvs_get] at hu
      cases hx' : lx[j]? with
      | none => rw [hx'] at hu; cases hu
      | some x =>
        rw [hx'] at hu
        have := hx j x hx'
        simp at hu
        subst hu
        unfold Addr.add
        split
        · subst j; simpa using this
        · exact this)
    (bvs_oneCell lx) (by omega) (by unfold maxLen; omega)
  refine ⟨A', _, cap', w', hr, ?_, Chg.of_grown k2 (fun k h => h), ?_⟩
  · show w'.ownsRow 0 5 1 _ (l ++ lx).length (bvs (l ++ lx))
    rw [List.length_append, bvs_append]; exact k1
  · intro g hg
    rcases k3 with k3 | k3
    · left; rw [← k3]; exact hg
    · right; rw [k3] at hg; injection hg with hg; exact hg.symm

theorem wl_appB {ops : Array Oper} {rest : List Oper} {o : Oper} {a : Act} {Q : Exit → Act → World → Prop} {w : World} (hgd : o.guard = none) (s x : Operand)
    (ho : o.op = .call { callee := .builtin .append, args := #[s, x], argTypes := #[28, 28] })
    (v : Value) (l : List UInt8) (A : Option Addr) (m c : Nat) (G : Nat → Prop) (lx : List UInt8) (hs : a.eval s = v) (hx : a.eval x = .slice A m c) (hown : Own w 0 v l) (hsrc : Bs w G (.slice A m c) lx)
    (hlen : l.length + lx.length ≤ 140737488355328)
    (h : ∀ A' k cap' w', AppOut w w' v (.slice A' k cap') l lx → wpList Try.prog ops Q rest (a.put o.dst (.slice A' k cap')) w') :
    wpList Try.prog ops Q (o :: rest) a w := by
  refine wpList_plain hgd fun K hK => ?_
  obtain ⟨A', k, cap', w', hr, h2⟩ := run_appB w o.type v l hown A m c G lx hsrc hlen
  unfold Oper.wp execOp
  simp only [ho, resolve, invoke, builtin, Sem.run_bind, Sem.run_pure, Result.andThen_ok, List.map_toArray, List.map_cons, List.map_nil, hs, hx, hr]
  exact hK _ _ (h A' k cap' w' h2)

theorem bs_one (w : World) (t : TypeId) (x : Value) (b : UInt8) (hx : x = .int .u8 (b.toNat : Int)) : Bs (w.alloc (.cells #[x] t)) (fun _ => True) (.slice (some ⟨w.heap.size, 0, none⟩) 1 1) [b] := by
  refine ⟨_, 1, rfl, Nat.le_refl _, by unfold maxLen; omega, fun _ => ⟨_, 0, rfl, trivial, fun i y hi => ?_⟩⟩
  match i, hi with
  | 0, hi =>
    simp at hi
    subst hi; subst hx
    rw [World.cell?_alloc_at _ _ _ _ rfl]
    rfl

theorem Chg.alloc_ (S : Nat → Prop) (w : World) (o : Obj) : Chg S w (w.alloc o) := (Chg.refl S w).alloc o

/-! ### the Writer -/
/-- A code.Writer behind a pointer to block a, whose field is v, with the bytes l; F: the blocks that are its own. -/
structure WrV (w : World) (F : Nat → Prop) (a : Nat) (v : Value) (l : List UInt8) : Prop where
  blk : w.heap[a]? = some (.cells #[v] 48 (0, 0))
  own : Own w 0 v l
  mine : F a
  row : ∀ g, v.ownBlock = some g → F g ∧ g ≠ a
  lt : Lt F w
def Wr (w : World) (F : Nat → Prop) (a : Nat) (l : List UInt8) : Prop := ∃ v, WrV w F a v l
/-- What a call leaves of it. -/
def WrPost (w w' : World) (F : Nat → Prop) (a : Nat) (l : List UInt8) : Prop := ∃ F', Wr w' F' a l ∧ Chg F w w' ∧ New F F' w w'

theorem WrPost.refl {w : World} {F : Nat → Prop} {a : Nat} {l : List UInt8} (h : Wr w F a l) : WrPost w w F a l := ⟨F, h, Chg.refl _ _, New.refl _ _ _⟩
theorem WrPost.trans {w w1 w2 : World} {F F1 : Nat → Prop} {a : Nat} {l : List UInt8} (hc : Chg F w w1) (hn : New F F1 w w1) (_hl : Lt F w) (h : WrPost w1 w2 F1 a l) : WrPost w w2 F a l := by
  obtain ⟨F2, h1, h2, h3⟩ := h
  refine ⟨F2, h1, hc.trans' h2 (fun i hi h => ?_), hn.trans h3 hc.size h2.size⟩
  rcases hn i h with h | h
  · exact h
  · omega
/-- The Writer is let be by whatever turns other blocks. -/
theorem Wr.keep {w w' : World} {F S : Nat → Prop} {a : Nat} {l : List UInt8} (h : Wr w F a l) (hc : Chg S w w') (hd : ∀ k, F k → ¬ S k) : Wr w' F a l := by
  obtain ⟨v, h1, h2, h3, h4, h5⟩ := h
  exact ⟨v, hc.at_ h1 (hd a h3), h2.keep hc (fun g hg => hd g (h4 g hg).1), h3, h4, h5.mono hc.size⟩
/-- A new one. -/
theorem Wr.new (w : World) : Wr (w.alloc (.cells #[.slice none 0 0] 48)) (fun k => k = w.heap.size) w.heap.size [] :=
  ⟨.slice none 0 0, heap_alloc_new w _, Own.nil_ _ _, rfl, fun g hg => by simp [Value.ownBlock] at hg, fun k hk => by subst hk; simp⟩

/-- Behind an append and the store into the field. -/
theorem WrV.appended {w wx w1 : World} {F : Nat → Prop} {a : Nat} {v v' : Value} {l lx : List UInt8} (h : WrV w F a v l) (hs : Same w wx) (ho : AppOut wx w1 v v' l lx) :
    WrPost w (w1.setCell ⟨a, 0, none⟩ v') F a (l ++ lx) := by
  obtain ⟨h1, h2, h3, h4, h5⟩ := h
  obtain ⟨o1, o2, o3⟩ := ho
  have hx1 : wx.heap[a]? = some (.cells #[v] 48 (0, 0)) := hs.at_ h1 (fun h => h)
  have hb1 : w1.heap[a]? = some (.cells #[v] 48 (0, 0)) := o2.at_ hx1 (fun e => (h4 a e).2 rfl)
  have hna : ∀ g, v'.ownBlock = some g → g ≠ a := by
    intro g hg e
    subst e
    rcases o3 g hg with h | h
    · exact (h4 g h).2 rfl
    · have := lt_of_block hx1; omega
  have hw1 : Chg F w w1 := (hs.any F).trans (o2.mono (fun k hk => (h4 k hk).1))
  have hw2 : Chg F w (w1.setCell ⟨a, 0, none⟩ v') := hw1.setCell (fun _ => h3) _
  refine ⟨fun k => F k ∨ (w.heap.size ≤ k ∧ k < w1.heap.size), ⟨v', one_setCell hb1, ?_, .inl h3, fun g hg => ⟨?_, hna g hg⟩, fun k hk => ?_⟩, hw2, fun k hk => ?_⟩
  · exact ownsRow_setCell_other o1 (fun e => hna a e rfl) _
  · rcases o3 g hg with h | h
    · exact .inl (h4 g h).1
    · have := hs.size
      exact .inr ⟨by omega, (o1.lt hg).2⟩
  · have := hw1.size
    rcases hk with hk | hk
    · have := h5 k hk; simp; omega
    · simp; omega
  · rcases hk with hk | hk
    · exact .inl hk
    · exact .inr ⟨hk.1, by simpa using hk.2⟩

/-- The field behind the append. -/
theorem WrV.field {w wx w1 : World} {F : Nat → Prop} {a : Nat} {v v' : Value} {l lx : List UInt8} (h : WrV w F a v l) (hs : Same w wx) (ho : AppOut wx w1 v v' l lx) :
    w1.cell? ⟨a, 0, none⟩ = some v ∧ w1.frozen? ⟨a, 0, none⟩ = false := by
  have hb1 : w1.heap[a]? = some (.cells #[v] 48 (0, 0)) := ho.2.1.at_ (hs.at_ h.blk (fun h => h)) (fun e => (h.row a e).2 rfl)
  exact ⟨cell_of_one hb1, free_of_one hb1⟩

/-- What a round of Num holds. -/
def NumRel (w : World) (F : Nat → Prop) (a : Nat) (all : List UInt8) (n : Int) (wr : World) : Prop :=
  ∃ l, 0 ≤ n ∧ n ≤ 18446744073709551615 ∧ WrPost w wr F a l ∧ l ++ numB n.toNat = all ∧ l.length + (numB n.toNat).length ≤ 1099511627776

theorem byte_more_fin : ∀ y : Fin 256, bits BinOp.or IntKind.u8 ((y.val : Nat) : Int) 128 = ((UInt8.ofNat (y.val % 128 + 128)).toNat : Int) := by decide +kernel
theorem byte_more (m : Int) (h0 : 0 ≤ m) : bits BinOp.or IntKind.u8 (m % 256) 128 = ((dMore m.toNat).toNat : Int) := by
  unfold dMore
  have h := byte_more_fin ⟨m.toNat % 256, by omega⟩
  have e1 : ((m.toNat % 256 : Nat) : Int) = m % 256 := by omega
  have e2 : m.toNat % 256 % 128 = m.toNat % 128 := by omega
  simp only [e1, e2] at h
  exact h
theorem byte_small (m : Int) (h0 : 0 ≤ m) (h1 : m < 256) : m = ((dLast m.toNat).toNat : Int) := by
  unfold dLast
  rw [UInt8.toNat_ofNat']; omega

set_option maxHeartbeats 800000 in
set_option maxRecDepth 100000 in
theorem wnum_any (a : Nat) (n : Int) (h0 : 0 ≤ n) (h1 : n ≤ 18446744073709551615) (F : Nat → Prop) (l : List UInt8) (w : World) (h : Wr w F a l) (hl : l.length ≤ 1099511627700) :
    Calls Try.prog 23 #[.pointer (some ⟨a, 0, none⟩), .int .u64 n] w fun e w' => e = .returned (.pointer (some ⟨a, 0, none⟩)) ∧ WrPost w w' F a (l ++ numB n.toNat) := by
  go_enter Try.func23, Try.ntmps23
  go_wp2_with fail
  go_loopw [1] (fun s wr => ∃ m : Int, s = .int .u64 m ∧ NumRel w F a (l ++ numB n.toNat) m wr) (fun s _ => (intOf s).toNat)
  case atStart => exact ⟨n, rfl, l, h0, h1, WrPost.refl h, rfl, by have := numB_len 10 n.toNat (by omega) (by omega); omega⟩
  case round =>
    obtain ⟨m, rfl, l1, hm0, hm1, ⟨F1, ⟨v, hW⟩, hchg, hnew⟩, heq, hlen⟩ := hrel
    have hc0 := cell_of_one hW.blk
    have hf0 := free_of_one hW.blk
    have hsz := lt_of_block hW.blk
    have HE := Lib.hid heq
    clear heq
    by_cases hbig : m < 128
    · have hn1 : numB m.toNat = [dLast m.toNat] := numB_small (by omega)
      have HN := Lib.hid hn1
      rw [hn1] at hlen
      clear hn1
      go_wp2_with (at_builtin; refine wl_appB rfl _ _ rfl v l1 _ _ _ (fun _ => True) [dLast m.toNat] rfl rfl (hW.own.keep (Chg.alloc_ (fun _ => False) _ _) (fun _ _ h => h)) (bs_one _ _ _ _ ?e1) ?e2 ?_)
      case e1 => rw [← byte_small m hm0 (by omega)]
      case e2 => omega
      intro A' k cap' w1 hout
      obtain ⟨hc1, hf1⟩ := hW.field (Chg.alloc_ _ _ _) hout
      have R := WrPost.trans hchg hnew (by obtain ⟨v0, h⟩ := h; exact h.lt) (hW.appended (Chg.alloc_ _ _ _) hout)
      rw [← HN.out, HE.out] at R
      clear hout
      go_wp2
      go_ret
      exact ⟨rfl, R⟩
    · have hn1 : numB m.toNat = dMore m.toNat :: numB (m.toNat / 128) := numB_big (by omega)
      have HN := Lib.hid hn1
      rw [hn1, List.length_cons] at hlen
      clear hn1
      go_wp2_with (at_builtin; refine wl_appB rfl _ _ rfl v l1 _ _ _ (fun _ => True) [dMore m.toNat] rfl rfl (hW.own.keep (Chg.alloc_ (fun _ => False) _ _) (fun _ _ h => h)) (bs_one _ _ _ _ ?e1) ?e2 ?_)
      case e1 => rw [byte_more m hm0]
      case e2 => omega
      intro A' k cap' w1 hout
      obtain ⟨hc1, hf1⟩ := hW.field (Chg.alloc_ _ _ _) hout
      have R := WrPost.trans hchg hnew (by obtain ⟨v0, h⟩ := h; exact h.lt) (hW.appended (Chg.alloc_ _ _ _) hout)
      clear hout
      go_wp2
      go_roundw
      case rel =>
        refine ⟨m / 128, rfl, _, by omega, by omega, R, ?_, ?_⟩
        · rw [← HE.out, HN.out, show (m / 128).toNat = m.toNat / 128 by omega]; simp
        · rw [show (m / 128).toNat = m.toNat / 128 by omega]; simp; omega
      case measure => simp [intOf]; omega
end Go.Proofs.Ytpommgohciigoaa
