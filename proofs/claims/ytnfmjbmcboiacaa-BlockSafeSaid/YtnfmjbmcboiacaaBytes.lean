/- The walks of the functions on slices of bytes (bytes.Clone, carrierref01's Join, Bytes), and the laws that they go by. -/
import Derived.Test.YtnfmjbmcboiacaaChecked
import Derived.Test.YtnfmjbmcboiacaaBase
import Derived.Deep.DeepCutAuto
import Derived.WalkSpells
import Derived.BigQuiet
import Derived.Deep.QuietTactic
namespace Go.Proofs.Ytnfmjbmcboiacaa
open Go Go.RowKit Go.Proofs

theorem info_u8 : (Try.prog.info? 5).map (fun i => (i.zero, i.size, i.bytes)) = some (some (.int .u8 0), 1, 1) := by kernel_rfl

/-! ### append onto bytes of the call's own -/
/-- What an append of the bytes lx onto the own slice v (of the bytes l) leaves: the slice v' in w'. -/
def AppOut (w w' : World) (v v' : Value) (l lx : List UInt8) : Prop :=
  Own w' 0 v' (l ++ lx) ∧ Chg (fun k => v.ownBlock = some k) w w' ∧ ∀ g, v'.ownBlock = some g → v.ownBlock = some g ∨ g = w.heap.size

theorem run_appB (w : World) (ty : TypeId) (v : Value) (l : List UInt8) (hown : Own w 0 v l) (A : Option Addr) (m c : Nat) (G : Nat → Prop) (lx : List UInt8) (hsrc : Bs w G (.slice A m c) lx)
    (hlen : l.length + lx.length ≤ 140737488355328) :
    ∃ A' k cap' w', (Builtin.append_ #[25, 25] ty #[v, .slice A m c]).run Try.prog w = .ok (.slice A' k cap') w' ∧ AppOut w w' v (.slice A' k cap') l lx := by
  obtain ⟨i0, hi, hz0, hz1, hz2⟩ := info_parts info_u8
  obtain ⟨A1, c1, hv, h1, h2, h3⟩ := hsrc
  injection hv with e1 e2 e3
  subst e1; subst e2; subst e3
  obtain ⟨A', cap', w', hr, k1, k2, k3⟩ := run_app (P := Try.prog) w 25 ty 5 i0 (.int .u8 0) 1 1 Try.underlying25 hi hz0 hz1 hz2 rfl (by decide) v l.length (bvs l) hown A lx.length c (bvs lx) (by simp)
    (fun h0 => by
      obtain ⟨b, o, hA, _, hx⟩ := h3 h0
      refine ⟨⟨b, o, none⟩, hA, fun j u hu => ?_⟩
      rw [bvs_get] at hu
      cases hx' : lx[j]? with
      | none => rw [hx'] at hu; cases hu
      | some x =>
        rw [hx'] at hu
        have := hx j x hx'
        simp at hu
        subst hu
        unfold Addr.add
        split
        · subst j; simpa using this
        · exact this)
    (bvs_oneCell lx) (by omega) (by unfold maxLen; omega)
  refine ⟨A', _, cap', w', hr, ?_, Chg.of_grown k2 (fun k h => h), ?_⟩
  · show w'.ownsRow 0 5 1 _ (l ++ lx).length (bvs (l ++ lx))
    rw [List.length_append, bvs_append]; exact k1
  · intro g hg
    rcases k3 with k3 | k3
    · left; rw [← k3]; exact hg
    · right; rw [k3] at hg; injection hg with hg; exact hg.symm

theorem wl_appB {ops : Array Oper} {rest : List Oper} {o : Oper} {a : Act} {Q : Exit → Act → World → Prop} {w : World} (hgd : o.guard = none) (s x : Operand)
    (ho : o.op = .call { callee := .builtin .append, args := #[s, x], argTypes := #[25, 25] })
    (v : Value) (l : List UInt8) (A : Option Addr) (m c : Nat) (G : Nat → Prop) (lx : List UInt8) (hs : a.eval s = v) (hx : a.eval x = .slice A m c) (hown : Own w 0 v l) (hsrc : Bs w G (.slice A m c) lx)
    (hlen : l.length + lx.length ≤ 140737488355328)
    (h : ∀ A' k cap' w', AppOut w w' v (.slice A' k cap') l lx → wpList Try.prog ops Q rest (a.put o.dst (.slice A' k cap')) w') :
    wpList Try.prog ops Q (o :: rest) a w := by
  refine wpList_plain hgd fun K hK => ?_
  obtain ⟨A', k, cap', w', hr, h2⟩ := run_appB w o.type v l hown A m c G lx hsrc hlen
  unfold Oper.wp execOp
  simp only [ho, resolve, invoke, builtin, Sem.run_bind, Sem.run_pure, Result.andThen_ok, List.map_toArray, List.map_cons, List.map_nil, hs, hx, hr]
  exact hK _ _ (h A' k cap' w' h2)

theorem bs_one (w : World) (t : TypeId) (x : Value) (b : UInt8) (hx : x = .int .u8 (b.toNat : Int)) : Bs (w.alloc (.cells #[x] t)) (fun _ => True) (.slice (some ⟨w.heap.size, 0, none⟩) 1 1) [b] := by
  refine ⟨_, 1, rfl, Nat.le_refl _, by unfold maxLen; omega, fun _ => ⟨_, 0, rfl, trivial, fun i y hi => ?_⟩⟩
  match i, hi with
  | 0, hi =>
    simp at hi
    subst hi; subst hx
    rw [World.cell?_alloc_at _ _ _ _ rfl]
    rfl

theorem Chg.alloc_ (S : Nat → Prop) (w : World) (o : Obj) : Chg S w (w.alloc o) := (Chg.refl S w).alloc o

/-- A slice of bytes that the call has made; nothing that was there has turned. -/
def Fresh (w w' : World) (v : Value) (l : List UInt8) : Prop := Own w' w.heap.size v l ∧ Same w w'

theorem Own.base_ {w : World} {v : Value} {l : List UInt8} (h : Own w 0 v l) {b : Nat} (hb : ∀ g, v.ownBlock = some g → b ≤ g) : Own w b v l := by
  obtain ⟨h1, h2⟩ := h
  refine ⟨h1, ?_⟩
  rcases h2 with h0 | ⟨g, cap, cur, rfl, _, r⟩
  · exact .inl h0
  · exact .inr ⟨g, cap, cur, rfl, hb g rfl, r⟩

theorem Own.form {w : World} {b : Nat} {v : Value} {l : List UInt8} (h : Own w b v l) : ∃ A cap, v = .slice A l.length cap := by
  rcases h.2 with ⟨h1, h2⟩ | ⟨g, cap, cur, h1, _⟩
  · exact ⟨none, 0, by rw [h1, h2]⟩
  · exact ⟨_, _, h1⟩
theorem Fresh.form {w w' : World} {v : Value} {l : List UInt8} (h : Fresh w w' v l) : ∃ A cap, v = .slice A l.length cap := h.1.form

theorem AppOut.fresh {w wx w' : World} {v v' : Value} {l lx : List UInt8} (h : AppOut wx w' v v' l lx) (hs : Same w wx) (hv : ∀ g, v.ownBlock = some g → w.heap.size ≤ g) : Fresh w w' v' (l ++ lx) := by
  obtain ⟨h1, h2, h3⟩ := h
  refine ⟨h1.base_ (fun g hg => ?_), hs.trans' h2 (fun i hi hT => ?_)⟩
  · rcases h3 g hg with h | h
    · exact hv g h
    · rw [h]; exact hs.size
  · have := hv i hT; omega

set_option maxHeartbeats 800000 in
theorem clone_any (v : Value) (l : List UInt8) (F : Nat → Prop) (w : World) (h : Bs w F v l) (hl : l.length ≤ 140737488355328) :
    Calls Try.prog 27 #[v] w fun e w' => ∃ v', e = .returned v' ∧ Fresh w w' v' l := by
  have q := fun (w : World) (a : Option Addr) (n c n' c' : Nat) => Lib.run_eql_slice_nil w _ _ a n c n' c' Try.underlying25
  have h' := h
  obtain ⟨A, cap, rfl, h1, h2, h3⟩ := h'
  rcases A with _ | ad
  · have h0 : l = [] := by
      rcases Nat.eq_zero_or_pos l.length with h0 | h0
      · exact List.eq_nil_of_length_eq_zero h0
      · obtain ⟨b, o, hA, _⟩ := h3 h0; cases hA
    subst h0
    clear h h3
    go_enter Try.func27, Try.ntmps27
    go_wp2
    go_ret
    exact ⟨_, rfl, Own.nil_ _ _, Chg.refl _ _⟩
  · clear h3
    go_enter Try.func27, Try.ntmps27
    go_wp2_with (at_builtin; refine wl_appB rfl _ _ rfl _ [] _ _ _ F l rfl rfl (World.ownsRow_made w #[] 0 (Nat.zero_le _) (Nat.zero_le _) rfl) (h.same (Chg.alloc_ (fun _ => False) _ _)) ?e2 ?_)
    case e2 => simp; omega
    intro A' k cap' w1 hout
    have R := hout.fresh (w := w) (Chg.alloc_ (fun _ => False) _ _) (fun g hg => by simp [Value.ownBlock] at hg; omega)
    clear hout
    go_wp2
    go_ret
    exact ⟨_, rfl, R⟩

set_option maxHeartbeats 800000 in
theorem join_any (va vb : Value) (la lb : List UInt8) (F G : Nat → Prop) (w : World) (ha : Bs w F va la) (hb : Bs w G vb lb) (hl : la.length + lb.length ≤ 140737488355328) :
    Calls Try.prog 15 #[va, vb] w fun e w' => ∃ v', e = .returned v' ∧ Fresh w w' v' (la ++ lb) := by
  obtain ⟨A, c1, e1, h1⟩ := id ha
  obtain ⟨B, c2, e2, h2⟩ := id hb
  subst e1; subst e2
  clear h1 h2
  go_enter Try.func15, Try.ntmps15
  go_wp2_with (at_builtin; refine wl_appB rfl _ _ rfl _ [] _ _ _ F la rfl rfl (Own.nil_ _ _) ha ?e1 ?_)
  case e1 => simp; omega
  intro A' k cap' w1 hout
  have R := hout.fresh (w := w) (Chg.refl (fun _ => False) _) (fun g hg => by simp [Value.ownBlock] at hg)
  have hb1 := hb.same R.2
  have hown := R.1.weak (Nat.zero_le _)
  clear hout
  go_wp2_with (at_builtin; refine wl_appB rfl _ _ rfl _ la _ _ _ G lb rfl rfl hown hb1 ?e2 ?_)
  case e2 => omega
  intro A2 k2 cap2 w2 hout
  have R2 : Fresh w w2 (.slice A2 k2 cap2) (la ++ lb) := by
    obtain ⟨h1, h2, h3⟩ := hout
    refine ⟨h1.base_ (fun g hg => ?_), R.2.trans' h2 (fun i hi hT => ?_)⟩
    · rcases h3 g hg with h | h
      · exact (R.1.lt h).1
      · rw [h]; exact R.2.size
    · have := (R.1.lt hT).1; omega
  clear hout
  go_wp2
  go_ret
  exact ⟨_, rfl, R2⟩

/-- The cell of the k-th byte. -/
theorem Bs.at_ {w : World} {F : Nat → Prop} {A : Option Addr} {n c : Nat} {l : List UInt8} (h : Bs w F (.slice A n c) l) {k : Nat} (hk : k < l.length) :
    n = l.length ∧ ∃ b o x, A = some ⟨b, o, none⟩ ∧ F b ∧ l[k]? = some x ∧ w.cell? ⟨b, o + k, none⟩ = some (.int .u8 (x.toNat : Int)) := by
  obtain ⟨A1, c1, hv, h1, h2, h3⟩ := h
  injection hv with e1 e2 e3
  subst e1; subst e2; subst e3
  obtain ⟨b, o, hA, hF, hx⟩ := h3 (by omega)
  exact ⟨rfl, b, o, l[k], hA, hF, List.getElem?_eq_getElem hk, hx k _ (List.getElem?_eq_getElem hk)⟩

theorem ret_bool {a b : Bool} (h : a = b) : Ending.returned (.bool a) = .returned (.bool b) := by rw [h]
theorem ret_int {k : IntKind} {a b : Int} (h : a = b) : Ending.returned (.int k a) = .returned (.int k b) := by rw [h]

def SameTo (la lb : List UInt8) (k : Nat) : Prop := la.take k = lb.take k
theorem SameTo.zero (la lb : List UInt8) : SameTo la lb 0 := by simp [SameTo]
theorem SameTo.succ {la lb : List UInt8} {k : Nat} {x : UInt8} (h : SameTo la lb k) (ha : la[k]? = some x) (hb : lb[k]? = some x) : SameTo la lb (k + 1) := by
  unfold SameTo at *
  rw [List.take_add_one, List.take_add_one, h, ha, hb]
theorem SameTo.all {la lb : List UInt8} (h : SameTo la lb la.length) (hl : la.length = lb.length) : la = lb := by
  unfold SameTo at h
  rwa [List.take_length, hl, List.take_length] at h

/-- Are two lists alike? -/
def sameB (la lb : List UInt8) : Bool := decide (la = lb)

set_option maxHeartbeats 1600000 in
theorem alike_any (va vb : Value) (la lb : List UInt8) (F G : Nat → Prop) (w : World) (ha : Bs w F va la) (hb : Bs w G vb lb) :
    Calls Try.prog 17 #[va, vb] w fun e w' => e = .returned (.bool (sameB la lb)) ∧ ∃ n, w' = w.drewN n := by
  obtain ⟨A, c1, e1, ha1, ha2, -⟩ := id ha
  obtain ⟨B, c2, e2, hb1, hb2, -⟩ := id hb
  subst e1; subst e2
  unfold maxLen at ha2 hb2
  by_cases hl : la.length = lb.length
  · have hl1 : la.length ≤ lb.length := by omega
    have hl2 : lb.length ≤ la.length := by omega
    have HL := Lib.hid hl
    have hd : ((la.length : Int) != (lb.length : Int)) = false := by simp [hl]
    clear hl
    go_enter Try.func17, Try.ntmps17
    go_wp2_with fail
    go_loopw [5] (fun i wr => ∃ k : Nat, k ≤ la.length ∧ i = .int .i64 k ∧ SameTo la lb k ∧ ∃ n, wr = w.drewN n) (fun i _ => la.length - (intOf i).toNat)
    case atStart => exact ⟨0, Nat.zero_le _, rfl, SameTo.zero _ _, 0, rfl⟩
    case round =>
      obtain ⟨k, hk, rfl, hs, n, rfl⟩ := hrel
      by_cases hlt : k < la.length
      · obtain ⟨-, b1, o1, x, rfl, -, hx, hcx⟩ := ha.at_ hlt
        obtain ⟨-, b2, o2, y, rfl, -, hy, hcy⟩ := hb.at_ (show k < lb.length by omega)
        have hlt2 : (k : Int) < (lb.length : Int) := by omega
        have hlt1 : (k : Int) < (la.length : Int) := by omega
        have HX := Lib.hid hx
        have HY := Lib.hid hy
        clear hx hy
        by_cases hxy : x = y
        · subst hxy
          go_wp2_with fail
          go_quiet (fail)
          go_wp2
          go_roundw
          case rel => exact ⟨k + 1, by omega, by go_num, hs.succ HX.out HY.out, _, rfl⟩
          case measure => simp [intOf]; omega
        · have hne : ((x.toNat : Int) != (y.toNat : Int)) = true := by
            simp only [bne_iff_ne, ne_eq, Int.natCast_inj]
            exact fun e => hxy (UInt8.toNat_inj.1 e)
          have hfin : sameB la lb = false := by
            unfold sameB
            refine decide_eq_false fun e => hxy ?_
            have h1 := HX.out; have h2 := HY.out
            rw [e, h2] at h1
            injection h1 with h1
            exact h1.symm
          have HF := Lib.hid hfin
          clear hfin
          go_wp2_with fail
          go_quiet (fail)
          go_wp2
          go_ret
          exact ⟨ret_bool HF.out.symm, _, World.drewN_drewN _ _ _⟩
      · have hfin : sameB la lb = true := by
          unfold sameB
          have : k = la.length := by omega
          subst this
          exact decide_eq_true (hs.all HL.out)
        have HF := Lib.hid hfin
        clear hfin
        go_wp2
        go_ret
        exact ⟨ret_bool HF.out.symm, _, rfl⟩
  · have hd : ((la.length : Int) != (lb.length : Int)) = true := by simp; omega
    have hfin : sameB la lb = false := decide_eq_false fun e => hl (by rw [e])
    have HF := Lib.hid hfin
    clear hfin hl
    go_enter Try.func17, Try.ntmps17
    go_wp2
    go_ret
    exact ⟨ret_bool HF.out.symm, 0, rfl⟩

theorem Fresh.app {w wr wx w1 : World} {v v' : Value} {l lx : List UInt8} (h : Fresh w wr v l) (hs : Same wr wx) (ho : AppOut wx w1 v v' l lx) : Fresh w w1 v' (l ++ lx) := by
  obtain ⟨h1, h2, h3⟩ := ho
  refine ⟨h1.base_ (fun g hg => ?_), (h.2.trans hs).trans' h2 (fun i hi hT => ?_)⟩
  · rcases h3 g hg with k | k
    · exact (h.1.lt k).1
    · rw [k]; exact Nat.le_trans h.2.size hs.size
  · have := (h.1.lt hT).1; omega
theorem Fresh.nil_ (w : World) : Fresh w w (.slice none 0 0) [] := ⟨Own.nil_ _ _, Chg.refl _ _⟩
theorem Fresh.own {w wr wx : World} {v : Value} {l : List UInt8} (h : Fresh w wr v l) (hs : Same wr wx) : Own wx 0 v l := (h.1.weak (Nat.zero_le _)).keep hs (fun _ _ h => h)
theorem Fresh.bs {w w' : World} {v : Value} {l : List UInt8} (h : Fresh w w' v l) : Bs w' (fun k => w.heap.size ≤ k) v l := Own.bs h.1 (fun _ hg => (h.1.lt hg).1)

theorem addr_add (b o k : Nat) : (⟨b, o, none⟩ : Addr).add k = ⟨b, o + k, none⟩ := by unfold Addr.add; split <;> simp_all
theorem Bs.old {w : World} {F : Nat → Prop} {v : Value} {l : List UInt8} (h : Bs w F v l) : Bs w (fun k => F k ∧ k < w.heap.size) v l := h.mono (fun _ hk hF => ⟨hF, hk⟩)
theorem Bs.all {w : World} {F : Nat → Prop} {v : Value} {l : List UInt8} {B : Nat} (h : Bs w (fun k => F k ∧ k < B) v l) : Bs w F v l := h.mono (fun _ _ hF => hF.1)
theorem Bs.far {w : World} {F : Nat → Prop} {v : Value} {l : List UInt8} {B : Nat} (h : Bs w (fun k => F k ∧ k < B) v l) {p : Addr} (hp : B ≤ p.block) (u : Value) : Bs (w.setCell p u) (fun k => F k ∧ k < B) v l :=
  h.keep (S := fun k => B ≤ k) ((Chg.refl _ w).setCell (fun _ => hp) u) (fun k hk h => by omega)
theorem Bs.alloc {w : World} {F : Nat → Prop} {v : Value} {l : List UInt8} (h : Bs w F v l) (o : Obj) : Bs (w.alloc o) F v l := h.same (Chg.alloc_ _ _ _)
theorem Chg.far {S : Nat → Prop} {w w' : World} (h : Chg S w w') {p : Addr} (hp : w.heap.size ≤ p.block) (u : Value) : Chg S w (w'.setCell p u) := h.setCell (fun h => absurd h (by omega)) u
theorem Bs.takeN {w : World} {F : Nat → Prop} {l : List UInt8} {A : Option Addr} {n c k : Nat} (h : Bs w F (.slice A n c) l) (hk : k ≤ l.length) : Bs w F (.slice A k c) (l.take k) := by
  obtain ⟨A', c', hv', h1, h2, h3⟩ := h
  injection hv' with e1 e2 e3
  subst e1; subst e3
  have hl : (l.take k).length = k := by rw [List.length_take]; omega
  refine ⟨_, _, by rw [hl], by omega, h2, fun h0 => ?_⟩
  obtain ⟨b, o, hA, hF, hx⟩ := h3 (by omega)
  refine ⟨b, o, hA, hF, fun i x hi => hx i x ?_⟩
  rw [List.getElem?_take] at hi
  split at hi
  · exact hi
  · cases hi
theorem Bs.cutm {w : World} {F : Nat → Prop} {cap k : Nat} {A : Option Addr} {l : List UInt8} (h : Bs w F (.slice A l.length cap) l) (hk : k ≤ l.length) :
    Bs w F (.slice (Option.map (fun x => x.add k) A) (l.length - k) (cap - k)) (l.drop k) := by
  obtain ⟨A', c, hv, h1, h2, h3⟩ := h
  injection hv with e1 e2 e3
  subst e1; subst e3
  refine ⟨_, _, by rw [List.length_drop], by rw [List.length_drop]; omega, by omega, fun h0 => ?_⟩
  rw [List.length_drop] at h0
  obtain ⟨b', o', hA, hF, hx⟩ := h3 (by omega)
  subst hA
  refine ⟨b', o' + k, by rw [← addr_add]; rfl, hF, fun i x hi => ?_⟩
  rw [List.getElem?_drop] at hi
  rw [Nat.add_assoc]
  exact hx _ x hi

theorem Bs.cut {w : World} {F : Nat → Prop} {b o cap k : Nat} {l : List UInt8} (h : Bs w F (.slice (some ⟨b, o, none⟩) l.length cap) l) (hk : k ≤ l.length) :
    Bs w F (.slice (some ⟨b, o + k, none⟩) (l.length - k) (cap - k)) (l.drop k) := by
  obtain ⟨A, c, hv, h1, h2, h3⟩ := h
  injection hv with e1 e2 e3
  subst e1; subst e3
  refine ⟨_, _, by rw [List.length_drop], by rw [List.length_drop]; omega, by omega, fun h0 => ?_⟩
  rw [List.length_drop] at h0
  obtain ⟨b', o', hA, hF, hx⟩ := h3 (by omega)
  injection hA with hA
  injection hA with hb ho
  subst hb; subst ho
  refine ⟨b, o + k, rfl, hF, fun i x hi => ?_⟩
  rw [List.getElem?_drop] at hi
  rw [Nat.add_assoc]
  exact hx _ x hi
theorem Bs.over {w : World} {F : Nat → Prop} {k c : Nat} {A : Option Addr} {l : List UInt8} (hk : l.length ≤ k) (hc : c ≤ maxLen) : Bs w F (.slice A (l.length - k) c) (l.drop k) :=
  ⟨A, c, by rw [List.length_drop], by rw [List.length_drop]; omega, hc, fun h0 => by rw [List.length_drop] at h0; omega⟩

theorem Chg.since {F : Nat → Prop} {w w1 w2 : World} (h : Same w w1) (hc : Chg F w1 w2) (hF : ∀ k, F k → w.heap.size ≤ k) : Same w w2 := h.trans' hc (fun i hi hf => by have := hF i hf; omega)
theorem New.since {F F' : Nat → Prop} {w1 w2 : World} {n : Nat} (h : New F F' w1 w2) (hF : ∀ k, F k → n ≤ k) (hn : n ≤ w1.heap.size) : ∀ k, F' k → n ≤ k := fun k hk => by
  rcases h k hk with h | h
  · exact hF k h
  · omega

theorem alike_true (va vb : Value) (l : List UInt8) (F G : Nat → Prop) (w : World) (ha : Bs w F va l) (hb : Bs w G vb l) :
    Calls Try.prog 17 #[va, vb] w fun e w' => e = .returned (.bool true) ∧ ∃ n, w' = w.drewN n :=
  (alike_any va vb l l F G w ha hb).mono fun e w' h => by
    have e1 : sameB l l = true := by unfold sameB; simp
    rw [e1] at h; exact h
theorem alike_same (va vb : Value) (l : List UInt8) (F G : Nat → Prop) (w : World) (ha : Bs w F va l) (hb : Bs w G vb l) :
    Calls Try.prog 17 #[va, vb] w fun e w' => e = .returned (.bool true) ∧ Same w w' :=
  (alike_true va vb l F G w ha hb).mono fun e w' h => by
    obtain ⟨h1, n, rfl⟩ := h
    exact ⟨h1, (Chg.refl _ w).drewN n⟩
theorem join_nil (va : Value) (l : List UInt8) (F : Nat → Prop) (w : World) (ha : Bs w F va l) (hl : l.length ≤ 140737488355328) :
    Calls Try.prog 15 #[va, .slice none 0 0] w fun e w' => ∃ v', e = .returned v' ∧ Fresh w w' v' l :=
  (join_any va (.slice none 0 0) l [] F F w ha (Bs.nil_ _ _) (by simpa using hl)).mono fun e w' h => by rw [List.append_nil] at h; exact h
theorem bs_lit (w : World) (t : TypeId) (cs : Array Value) (l : List UInt8) (n : Nat) (hn : l.length = n) (hm : n ≤ maxLen) (hx : cs.toList = bvs l) :
    Bs (w.alloc (.cells cs t)) (fun k => k = w.heap.size) (.slice (some ⟨w.heap.size, 0, none⟩) n n) l := by
  subst hn
  refine ⟨_, _, rfl, Nat.le_refl _, hm, fun _ => ⟨_, 0, rfl, rfl, fun i x hi => ?_⟩⟩
  rw [World.cell?_alloc_at _ _ _ _ rfl, Nat.zero_add, ← Array.getElem?_toList, hx, bvs_get, hi]
  rfl

theorem Bs.bounds {w : World} {F : Nat → Prop} {A : Option Addr} {n c : Nat} {l : List UInt8} (h : Bs w F (.slice A n c) l) : n = l.length ∧ l.length ≤ c ∧ c ≤ 9223372036854775807 := by
  obtain ⟨A', c', h0, h1, h2, _⟩ := h
  injection h0 with _ e1 e2
  subst e1; subst e2
  refine ⟨rfl, h1, ?_⟩
  have : maxLen = 9223372036854775807 := by decide +kernel
  omega
/-- A store into an own slice of bytes. -/
theorem Own.stored {w : World} {base g n c : Nat} {l : List UInt8} (h : Own w base (.slice (some ⟨g, 0, none⟩) n c) l) (j : Nat) (b : UInt8) :
    Own (w.setCell ⟨g, j, none⟩ (.int .u8 (b.toNat : Int))) base (.slice (some ⟨g, 0, none⟩) n c) (l.set j b) := by
  have hn : n = l.length := by obtain ⟨A, cap, h1⟩ := h.form; injection h1
  subst hn
  have := (World.ownsRow.stored h j (.int .u8 (b.toNat : Int))).1
  show World.ownsRow _ _ _ _ _ (l.set j b).length (bvs (l.set j b))
  rw [List.length_set]
  have e : bvs (l.set j b) = (bvs l).set j (.int .u8 (b.toNat : Int)) := by simp [bvs, List.map_set]
  rw [e]; exact this
/-- An own slice of a byte or more: where it lies; what its cells hold. -/
theorem Own.cell_at {w : World} {base : Nat} {v : Value} {l : List UInt8} (h : Own w base v l) (h0 : 0 < l.length) :
    ∃ g c, v = .slice (some ⟨g, 0, none⟩) l.length c ∧ base ≤ g ∧ g < w.heap.size ∧ l.length ≤ c ∧ c ≤ 9223372036854775807 ∧ (∀ j x, l[j]? = some x → w.cell? ⟨g, j, none⟩ = some (.int .u8 (x.toNat : Int))) ∧ ∀ j, w.frozen? ⟨g, j, none⟩ = false := by
  obtain ⟨g, c, hv, hb, hg⟩ := World.ownsRow.form h h0
  subst hv
  have hbs := (Own.bs (F := fun _ => True) h (fun _ _ => trivial))
  obtain ⟨-, h1, h2⟩ := hbs.bounds
  obtain ⟨A, c', hv, _, _, hx⟩ := hbs
  injection hv with e1 _ e3
  subst e3
  obtain ⟨b, o, hA, _, hc⟩ := hx h0
  rw [← e1] at hA
  injection hA with hA
  injection hA with e4 e5
  subst e4; subst e5
  refine ⟨g, c, rfl, hb, hg, h1, h2, fun j x hj => by have := hc j x hj; rwa [Nat.zero_add] at this, fun j => World.ownsRow.frozenAt h j⟩

end Go.Proofs.Ytnfmjbmcboiacaa
