/- The walks of the functions on slices of bytes: bytes.Clone, carrierref01.Join, carrierref01.Bytes; code.Writer's Bytes. -/
import Derived.Test.YtpommgohciigoaaCodeW
import Derived.WalkSpells
import Derived.Lib.AppendStr
import Derived.BigQuiet
import Derived.Deep.QuietTactic
namespace Go.Proofs.Ytpommgohciigoaa
open Go Go.RowKit Go.Proofs

/-- A slice of bytes that the call has made; nothing that was there has turned. -/
def Fresh (w w' : World) (v : Value) (l : List UInt8) : Prop := Own w' w.heap.size v l ∧ Same w w'

theorem Own.base_ {w : World} {v : Value} {l : List UInt8} (h : Own w 0 v l) {b : Nat} (hb : ∀ g, v.ownBlock = some g → b ≤ g) : Own w b v l := by
  obtain ⟨h1, h2⟩ := h
  refine ⟨h1, ?_⟩
  rcases h2 with h0 | ⟨g, cap, cur, rfl, _, r⟩
  · exact .inl h0
  · exact .inr ⟨g, cap, cur, rfl, hb g rfl, r⟩

theorem Own.form {w : World} {b : Nat} {v : Value} {l : List UInt8} (h : Own w b v l) : ∃ A cap, v = .slice A l.length cap := by
  rcases h.2 with ⟨h1, h2⟩ | ⟨g, cap, cur, h1, _⟩
  · exact ⟨none, 0, by rw [h1, h2]⟩
  · exact ⟨_, _, h1⟩
theorem Fresh.form {w w' : World} {v : Value} {l : List UInt8} (h : Fresh w w' v l) : ∃ A cap, v = .slice A l.length cap := h.1.form

theorem AppOut.fresh {w wx w' : World} {v v' : Value} {l lx : List UInt8} (h : AppOut wx w' v v' l lx) (hs : Same w wx) (hv : ∀ g, v.ownBlock = some g → w.heap.size ≤ g) : Fresh w w' v' (l ++ lx) := by
  obtain ⟨h1, h2, h3⟩ := h
  refine ⟨h1.base_ (fun g hg => ?_), hs.trans' h2 (fun i hi hT => ?_)⟩
  · rcases h3 g hg with h | h
    · exact hv g h
    · rw [h]; exact hs.size
  · have := hv i hT; omega

set_option maxHeartbeats 800000 in
theorem clone_any (v : Value) (l : List UInt8) (F : Nat → Prop) (w : World) (h : Bs w F v l) (hl : l.length ≤ 140737488355328) :
    Calls Try.prog 38 #[v] w fun e w' => ∃ v', e = .returned v' ∧ Fresh w w' v' l := by
  have q := fun (w : World) (a : Option Addr) (n c n' c' : Nat) => Lib.run_eql_slice_nil w _ _ a n c n' c' Try.underlying28
  have h' := h
  obtain ⟨A, cap, rfl, h1, h2, h3⟩ := h'
  rcases A with _ | ad
  · have h0 : l = [] := by
      rcases Nat.eq_zero_or_pos l.length with h0 | h0
      · exact List.eq_nil_of_length_eq_zero h0
      · obtain ⟨b, o, hA, _⟩ := h3 h0; cases hA
    subst h0
    clear h h3
    go_enter Try.func38, Try.ntmps38
    go_wp2
    go_ret
    exact ⟨_, rfl, Own.nil_ _ _, Chg.refl _ _⟩
  · clear h3
    go_enter Try.func38, Try.ntmps38
    go_wp2_with (at_builtin; refine wl_appB rfl _ _ rfl _ [] _ _ _ F l rfl rfl (World.ownsRow_made w #[] 0 (Nat.zero_le _) (Nat.zero_le _) rfl) (h.same (Chg.alloc_ (fun _ => False) _ _)) ?e2 ?_)
    case e2 => simp; omega
    intro A' k cap' w1 hout
    have R := hout.fresh (w := w) (Chg.alloc_ (fun _ => False) _ _) (fun g hg => by simp [Value.ownBlock] at hg; omega)
    clear hout
    go_wp2
    go_ret
    exact ⟨_, rfl, R⟩

set_option maxHeartbeats 800000 in
theorem join_any (va vb : Value) (la lb : List UInt8) (F G : Nat → Prop) (w : World) (ha : Bs w F va la) (hb : Bs w G vb lb) (hl : la.length + lb.length ≤ 140737488355328) :
    Calls Try.prog 17 #[va, vb] w fun e w' => ∃ v', e = .returned v' ∧ Fresh w w' v' (la ++ lb) := by
  obtain ⟨A, c1, e1, h1⟩ := id ha
  obtain ⟨B, c2, e2, h2⟩ := id hb
  subst e1; subst e2
  clear h1 h2
  go_enter Try.func17, Try.ntmps17
  go_wp2_with (at_builtin; refine wl_appB rfl _ _ rfl _ [] _ _ _ F la rfl rfl (Own.nil_ _ _) ha ?e1 ?_)
  case e1 => simp; omega
  intro A' k cap' w1 hout
  have R := hout.fresh (w := w) (Chg.refl (fun _ => False) _) (fun g hg => by simp [Value.ownBlock] at hg)
  have hb1 := hb.same R.2
  have hown := R.1.weak (Nat.zero_le _)
  clear hout
  go_wp2_with (at_builtin; refine wl_appB rfl _ _ rfl _ la _ _ _ G lb rfl rfl hown hb1 ?e2 ?_)
  case e2 => omega
  intro A2 k2 cap2 w2 hout
  have R2 : Fresh w w2 (.slice A2 k2 cap2) (la ++ lb) := by
    obtain ⟨h1, h2, h3⟩ := hout
    refine ⟨h1.base_ (fun g hg => ?_), R.2.trans' h2 (fun i hi hT => ?_)⟩
    · rcases h3 g hg with h | h
      · exact (R.1.lt h).1
      · rw [h]; exact R.2.size
    · have := (R.1.lt hT).1; omega
  clear hout
  go_wp2
  go_ret
  exact ⟨_, rfl, R2⟩

set_option maxHeartbeats 800000 in
theorem wbytes_any (a : Nat) (F : Nat → Prop) (l : List UInt8) (w : World) (h : Wr w F a l) (hl : l.length ≤ 140737488355328) :
    Calls Try.prog 26 #[.pointer (some ⟨a, 0, none⟩)] w fun e w' => ∃ v', e = .returned v' ∧ Fresh w w' v' l := by
  obtain ⟨v, hW⟩ := h
  have hc0 := cell_of_one hW.blk
  have hbs := Own.bs (F := F) hW.own (fun g hg => (hW.row g hg).1)
  go_enter Try.func26, Try.ntmps26
  go_wp2_with fail
  refine (clone_any v l F w hbs hl).mono ?_
  rintro e w' ⟨v', rfl, R⟩
  go_wp2
  go_ret
  exact ⟨_, rfl, R⟩

/-- The cell of the k-th byte. -/
theorem Bs.at_ {w : World} {F : Nat → Prop} {A : Option Addr} {n c : Nat} {l : List UInt8} (h : Bs w F (.slice A n c) l) {k : Nat} (hk : k < l.length) :
    n = l.length ∧ ∃ b o x, A = some ⟨b, o, none⟩ ∧ F b ∧ l[k]? = some x ∧ w.cell? ⟨b, o + k, none⟩ = some (.int .u8 (x.toNat : Int)) := by
  obtain ⟨A1, c1, hv, h1, h2, h3⟩ := h
  injection hv with e1 e2 e3
  subst e1; subst e2; subst e3
  obtain ⟨b, o, hA, hF, hx⟩ := h3 (by omega)
  exact ⟨rfl, b, o, l[k], hA, hF, List.getElem?_eq_getElem hk, hx k _ (List.getElem?_eq_getElem hk)⟩

theorem ret_bool {a b : Bool} (h : a = b) : Ending.returned (.bool a) = .returned (.bool b) := by rw [h]
theorem ret_int {k : IntKind} {a b : Int} (h : a = b) : Ending.returned (.int k a) = .returned (.int k b) := by rw [h]

def SameTo (la lb : List UInt8) (k : Nat) : Prop := la.take k = lb.take k
theorem SameTo.zero (la lb : List UInt8) : SameTo la lb 0 := by simp [SameTo]
theorem SameTo.succ {la lb : List UInt8} {k : Nat} {x : UInt8} (h : SameTo la lb k) (ha : la[k]? = some x) (hb : lb[k]? = some x) : SameTo la lb (k + 1) := by
  unfold SameTo at *
  rw [List.take_add_one, List.take_add_one, h, ha, hb]
theorem SameTo.all {la lb : List UInt8} (h : SameTo la lb la.length) (hl : la.length = lb.length) : la = lb := by
  unfold SameTo at h
  rwa [List.take_length, hl, List.take_length] at h

/-- Are two lists alike? -/
def sameB (la lb : List UInt8) : Bool := decide (la = lb)

set_option maxHeartbeats 1600000 in
theorem alike_any (va vb : Value) (la lb : List UInt8) (F G : Nat → Prop) (w : World) (ha : Bs w F va la) (hb : Bs w G vb lb) :
    Calls Try.prog 14 #[va, vb] w fun e w' => e = .returned (.bool (sameB la lb)) ∧ ∃ n, w' = w.drewN n := by
  obtain ⟨A, c1, e1, ha1, ha2, -⟩ := id ha
  obtain ⟨B, c2, e2, hb1, hb2, -⟩ := id hb
  subst e1; subst e2
  unfold maxLen at ha2 hb2
  by_cases hl : la.length = lb.length
  · have hl1 : la.length ≤ lb.length := by omega
    have hl2 : lb.length ≤ la.length := by omega
    have HL := Lib.hid hl
    have hd : ((la.length : Int) != (lb.length : Int)) = false := by simp [hl]
    clear hl
    go_enter Try.func14, Try.ntmps14
    go_wp2_with fail
    go_loopw [5] (fun i wr => ∃ k : Nat, k ≤ la.length ∧ i = .int .i64 k ∧ SameTo la lb k ∧ ∃ n, wr = w.drewN n) (fun i _ => la.length - (intOf i).toNat)
    case atStart => exact ⟨0, Nat.zero_le _, rfl, SameTo.zero _ _, 0, rfl⟩
    case round =>
      obtain ⟨k, hk, rfl, hs, n, rfl⟩ := hrel
      by_cases hlt : k < la.length
      · obtain ⟨-, b1, o1, x, rfl, -, hx, hcx⟩ := ha.at_ hlt
        obtain ⟨-, b2, o2, y, rfl, -, hy, hcy⟩ := hb.at_ (show k < lb.length by omega)
        have hlt2 : (k : Int) < (lb.length : Int) := by omega
        have hlt1 : (k : Int) < (la.length : Int) := by omega
        have HX := Lib.hid hx
        have HY := Lib.hid hy
        clear hx hy
        by_cases hxy : x = y
        · subst hxy
          go_wp2_with fail
          go_quiet (fail)
          go_wp2
          go_roundw
          case rel => exact ⟨k + 1, by omega, by go_num, hs.succ HX.out HY.out, _, rfl⟩
          case measure => simp [intOf]; omega
        · have hne : ((x.toNat : Int) != (y.toNat : Int)) = true := by
            simp only [bne_iff_ne, ne_eq, Int.natCast_inj]
            exact fun e => hxy (UInt8.toNat_inj.1 e)
          have hfin : sameB la lb = false := by
            unfold sameB
            refine decide_eq_false fun e => hxy ?_
            have h1 := HX.out; have h2 := HY.out
            rw [e, h2] at h1
            injection h1 with h1
            exact h1.symm
          have HF := Lib.hid hfin
          clear hfin
          go_wp2_with fail
          go_quiet (fail)
          go_wp2
          go_ret
          exact ⟨ret_bool HF.out.symm, _, World.drewN_drewN _ _ _⟩
      · have hfin : sameB la lb = true := by
          unfold sameB
          have : k = la.length := by omega
          subst this
          exact decide_eq_true (hs.all HL.out)
        have HF := Lib.hid hfin
        clear hfin
        go_wp2
        go_ret
        exact ⟨ret_bool HF.out.symm, _, rfl⟩
  · have hd : ((la.length : Int) != (lb.length : Int)) = true := by simp; omega
    have hfin : sameB la lb = false := decide_eq_false fun e => hl (by rw [e])
    have HF := Lib.hid hfin
    clear hfin hl
    go_enter Try.func14, Try.ntmps14
    go_wp2
    go_ret
    exact ⟨ret_bool HF.out.symm, 0, rfl⟩

theorem Fresh.app {w wr wx w1 : World} {v v' : Value} {l lx : List UInt8} (h : Fresh w wr v l) (hs : Same wr wx) (ho : AppOut wx w1 v v' l lx) : Fresh w w1 v' (l ++ lx) := by
  obtain ⟨h1, h2, h3⟩ := ho
  refine ⟨h1.base_ (fun g hg => ?_), (h.2.trans hs).trans' h2 (fun i hi hT => ?_)⟩
  · rcases h3 g hg with k | k
    · exact (h.1.lt k).1
    · rw [k]; exact Nat.le_trans h.2.size hs.size
  · have := (h.1.lt hT).1; omega
theorem Fresh.nil_ (w : World) : Fresh w w (.slice none 0 0) [] := ⟨Own.nil_ _ _, Chg.refl _ _⟩
theorem Fresh.own {w wr wx : World} {v : Value} {l : List UInt8} (h : Fresh w wr v l) (hs : Same wr wx) : Own wx 0 v l := (h.1.weak (Nat.zero_le _)).keep hs (fun _ _ h => h)
theorem Fresh.bs {w w' : World} {v : Value} {l : List UInt8} (h : Fresh w w' v l) : Bs w' (fun k => w.heap.size ≤ k) v l := Own.bs h.1 (fun _ hg => (h.1.lt hg).1)

def RNumRel (w wr : World) (v : Value) (all : List UInt8) (n : Int) : Prop :=
  ∃ l, 0 ≤ n ∧ n ≤ 18446744073709551615 ∧ Fresh w wr v l ∧ l ++ numB n.toNat = all ∧ l.length + (numB n.toNat).length ≤ 10

theorem byte_mod (m : Int) (h0 : 0 ≤ m) : (m % 128 + 128) = ((dMore m.toNat).toNat : Int) := by
  unfold dMore
  rw [UInt8.toNat_ofNat']; omega

set_option maxHeartbeats 800000 in
set_option maxRecDepth 100000 in
theorem rnum_any (n : Int) (h0 : 0 ≤ n) (h1 : n ≤ 18446744073709551615) (w : World) :
    Calls Try.prog 19 #[.int .u64 n] w fun e w' => ∃ v', e = .returned v' ∧ Fresh w w' v' (numB n.toNat) := by
  go_enter Try.func19, Try.ntmps19
  go_wp2_with fail
  go_loopw [0, 3] (fun s v wr => ∃ m : Int, s = .int .u64 m ∧ RNumRel w wr v (numB n.toNat) m) (fun s _ _ => (intOf s).toNat)
  case atStart => exact ⟨n, rfl, [], h0, h1, Fresh.nil_ _, rfl, by have := numB_len10 h1; simpa using this⟩
  case round =>
    obtain ⟨m, rfl, l1, hm0, hm1, hF, heq, hlen⟩ := hrel
    have HE := Lib.hid heq
    clear heq
    by_cases hbig : m ≤ 127
    · have hn1 : numB m.toNat = [dLast m.toNat] := numB_small (by omega)
      have HN := Lib.hid hn1
      rw [hn1] at hlen
      clear hn1
      go_wp2_with (at_builtin; refine wl_appB rfl _ _ rfl _ l1 _ _ _ (fun _ => True) [dLast m.toNat] rfl rfl (hF.own (Chg.alloc_ _ _ _)) (bs_one _ _ _ _ ?e1) ?e2 ?_)
      case e1 => rw [← byte_small m hm0 (by omega)]
      case e2 => simp at hlen; first | omega | (simp; omega)
      intro A' k cap' w1 hout
      have R := hF.app (Chg.alloc_ _ _ _) hout
      rw [← HN.out, HE.out] at R
      clear hout
      go_wp2
      go_ret
      exact ⟨_, rfl, R⟩
    · have hn1 : numB m.toNat = dMore m.toNat :: numB (m.toNat / 128) := numB_big (by omega)
      have HN := Lib.hid hn1
      rw [hn1, List.length_cons] at hlen
      clear hn1
      go_wp2_with (at_builtin; refine wl_appB rfl _ _ rfl _ l1 _ _ _ (fun _ => True) [dMore m.toNat] rfl rfl (hF.own (Chg.alloc_ _ _ _)) (bs_one _ _ _ _ ?e1) ?e2 ?_)
      case e1 => rw [← byte_mod m hm0]
      case e2 => first | omega | (simp; omega)
      intro A' k cap' w1 hout
      have R := hF.app (Chg.alloc_ _ _ _) hout
      clear hout
      go_wp2
      go_roundw
      case rel =>
        refine ⟨m / 128, rfl, _, by omega, by omega, R, ?_, ?_⟩
        · rw [← HE.out, HN.out, show (m / 128).toNat = m.toNat / 128 by omega]; simp
        · rw [show (m / 128).toNat = m.toNat / 128 by omega]; simp; omega
      case measure => simp [intOf]; omega
end Go.Proofs.Ytpommgohciigoaa
