/- The walks of carrierref02's ReadNum, ReadInt, ReadText, End. -/
import Derived.Test.YtdkankiohoocaaaQCode2
import Derived.BigRegion
namespace Go.Proofs.Ytdkankiohoocaaa
set_option linter.unusedSimpArgs false
set_option linter.unusedVariables false
open Go Go.RowKit Go.Proofs

/-- The document's reader, as a value. -/
abbrev rdr (v : Value) (e : Int) : Value := .agg #[v, .int .i64 e]

theorem dig_sum (acc x k sc : Nat) (hs : sc = 128 ^ k) (hb : acc + x % 128 * 128 ^ k < 18446744073709551616) :
    IntKind.u64.wrap ((acc : Int) + IntKind.u64.wrap ((x : Int) % 128 * (sc : Int))) = ((acc + x % 128 * 128 ^ k : Nat) : Int) := by
  subst hs
  have e : (x : Int) % 128 * ((128 ^ k : Nat) : Int) = ((x % 128 * 128 ^ k : Nat) : Int) := by
    rw [Int.natCast_mul]; congr 1
  rw [e]
  generalize x % 128 * 128 ^ k = y at *
  simp only [IntKind.wrap_u64]
  omega
theorem Bs.cut {w : World} {F : Nat → Prop} {b o cap k : Nat} {l : List UInt8} (h : Bs w F (.slice (some ⟨b, o, none⟩) l.length cap) l) (hk : k ≤ l.length) :
    Bs w F (.slice (some ⟨b, o + k, none⟩) (l.length - k) (cap - k)) (l.drop k) := by
  obtain ⟨A, c, hv, h1, h2, h3⟩ := h
  injection hv with e1 e2 e3
  subst e1; subst e3
  refine ⟨_, _, by rw [List.length_drop], by rw [List.length_drop]; omega, by omega, fun h0 => ?_⟩
  rw [List.length_drop] at h0
  obtain ⟨b', o', hA, hF, hx⟩ := h3 (by omega)
  injection hA with hA
  injection hA with hb ho
  subst hb; subst ho
  refine ⟨b, o + k, rfl, hF, fun i x hi => ?_⟩
  rw [List.getElem?_drop] at hi
  rw [Nat.add_assoc]
  exact hx _ x hi
theorem Bs.over {w : World} {F : Nat → Prop} {k c : Nat} {A : Option Addr} {l : List UInt8} (hk : l.length ≤ k) (hc : c ≤ maxLen) : Bs w F (.slice A (l.length - k) c) (l.drop k) :=
  ⟨A, c, by rw [List.length_drop], by rw [List.length_drop]; omega, hc, fun h0 => by rw [List.length_drop] at h0; omega⟩

theorem scale_up (k sc : Nat) (hs : sc = 128 ^ k) (hk : k ≤ 8) : IntKind.u64.wrap ((sc : Int) * 128) = ((128 ^ (k + 1) : Nat) : Int) := by
  have := pow128_le8 hk
  rw [Nat.pow_succ, ← hs]
  rw [← hs] at this
  simp only [IntKind.wrap_u64]
  omega

set_option maxHeartbeats 800000 in
set_option maxRecDepth 100000 in
theorem pnum_ok (v : Value) (F : Nat → Prop) (l : List UInt8) (w : World) (h : Bs w F v l) :
    Calls Try.prog 73 #[rdr v 0] w fun en w' => ∃ v', en = .returned (.tuple #[.int .u64 (rdNum 0 0 l).1, rdr v' (rdNum 0 0 l).2.2]) ∧ Bs w' F v' (rdNum 0 0 l).2.1 ∧ Same w w' := by
  obtain ⟨A, cap, hv, hlc, hcm, hcell⟩ := id h
  subst hv
  unfold maxLen at hcm
  go_enter Try.func73, Try.ntmps73
  go_wp2_with fail
  go_loop [4, 5, 6] (fun n s i => ∃ k acc sc : Nat, n = .int .u64 acc ∧ s = .int .u64 sc ∧ i = .int .i64 k ∧ NumAt l k acc ∧ sc = 128 ^ k) (fun _ _ i => (10 - (intOf i).toNat))
  case atStart => exact ⟨0, 0, 1, rfl, rfl, rfl, ⟨Nat.zero_le _, by omega, by simp, rfl⟩, rfl⟩
  case round =>
    obtain ⟨k, acc, sc, rfl, rfl, rfl, ⟨hk, hk9, hacc, hrd⟩, hsc⟩ := hrel
    have HR := Lib.hid hrd
    have HA := Lib.hid hacc
    have HS := Lib.hid hsc
    clear hrd hacc hsc
    by_cases hlt : k < l.length
    · obtain ⟨-, b, o, x, hA, -, hx, hcx⟩ := h.at_ hlt
      subst hA
      have hx256 := UInt8.toNat_lt x
      have hbl : b < w.heap.size := cell_lt hcx
      have HX := Lib.hid hx
      clear hx hcell
      by_cases h9 : k = 9
      · have hk9' : ((k : Int) == 9) = true := by simp; omega
        have hk9l : 9 ≤ k := by omega
        have hp := pow128_le hk9
        have hk0 : (0 : Int) < (k : Int) := by omega
        clear h9
        by_cases hbig : 1 < x.toNat
        · have hb1 : (1 : Int) < (x.toNat : Int) := by omega
          clear hp
          have HD : Hid (rdNum 0 0 l = (0, [], 2)) := by show _ = _; rw [← HR.out, drop_at HX.out, rdNum_bad (by omega)]
          go_wp2_with fail
          refine bodyPost_ret (v := .tuple #[.int .u64 0, rdr (.slice none 0 0) 2]) (by simp [results, Try.results73, go_sem]) rfl ?_
          rw [HD.out]
          exact ⟨_, rfl, Bs.nil_ _ _, (Chg.alloc_ _ _ _).alloc _⟩
        · have hb1 : (x.toNat : Int) ≤ 1 := by omega
          by_cases hz : x.toNat = 0
          · have hx0 : ((x.toNat : Int) == 0) = true := by simp; omega
            have hxz : x.toNat ≤ 0 := by omega
            clear hz hp
            have HD : Hid (rdNum 0 0 l = (0, [], 2)) := by show _ = _; rw [← HR.out, drop_at HX.out, rdNum_bad (by omega)]
            go_wp2_with fail
            refine bodyPost_ret (v := .tuple #[.int .u64 0, rdr (.slice none 0 0) 2]) (by simp [results, Try.results73, go_sem]) rfl ?_
            rw [HD.out]
            exact ⟨_, rfl, Bs.nil_ _ _, (Chg.alloc_ _ _ _).alloc _⟩
          · have hx0 : ((x.toNat : Int) == 0) = false := by simp; omega
            have hx1 : 1 ≤ x.toNat := by omega
            clear hz
            have hw1 : IntKind.i64.wrap ((k : Int) + 1) = (k : Int) + 1 := by rw [IntKind.wrap_i64]; omega
            have hw2 : (0 : Int) ≤ (k : Int) + 1 := by omega
            have hw3 : ((k : Int) + 1).toNat = k + 1 := by omega
            have hw4 : (k : Int) + 1 ≤ (l.length : Int) := by omega
            have HD : Hid (rdNum 0 0 l = (acc + x.toNat * 128 ^ k, l.drop (k + 1), 0)) := by show _ = _; rw [← HR.out, drop_at HX.out, rdNum_last (by omega) (by omega)]
            have E := dig_sum acc x.toNat k sc HS.out (by have := HA.out; have := Nat.mul_le_mul (show x.toNat % 128 ≤ 1 by omega) hp; omega)
            rw [Nat.mod_eq_of_lt (show x.toNat < 128 by omega)] at E
            have HE := Lib.hid E
            clear E hp
            by_cases hcap : cap = k + 1
            · subst hcap
              have HB : Hid (Bs w F (.slice (some ⟨b, o, none⟩) 0 0) (l.drop (k + 1))) := by
                have h0 : Bs w F (.slice (some ⟨b, o, none⟩) (l.length - (k + 1)) 0) (l.drop (k + 1)) := Bs.over (by omega) (Nat.zero_le _)
                rw [show l.length - (k + 1) = 0 by omega] at h0
                exact h0
              go_wp2_with fail
              all_goals
                go_region
                all_goals
                  go_wp2_with fail
                  refine bodyPost_ret (v := .tuple #[.int .u64 (IntKind.u64.wrap ((acc : Int) + IntKind.u64.wrap ((x.toNat : Int) % 128 * (sc : Int)))), rdr (.slice (some ⟨b, o, none⟩) 0 0) 0]) (by simp [results, Try.results73, go_sem]) rfl ?_
                  rw [HD.out, HE.out]
                  exact ⟨_, rfl, HB.out.same (((Chg.refl _ w).alloc _).alloc _).drew, (((Chg.refl _ w).alloc _).alloc _).drew⟩
            · have HB := Lib.hid (h.cut (k := k + 1) (by omega))
              go_wp2_with fail
              all_goals
                go_region
                all_goals
                  go_wp2_with fail
                  refine bodyPost_ret (v := .tuple #[.int .u64 (IntKind.u64.wrap ((acc : Int) + IntKind.u64.wrap ((x.toNat : Int) % 128 * (sc : Int)))), rdr (.slice (some ⟨b, o + (k + 1), none⟩) (l.length - (k + 1)) (cap - (k + 1))) 0]) (by simp [results, Try.results73, go_sem]) rfl ?_
                  rw [HD.out, HE.out]
                  exact ⟨_, rfl, HB.out.same (((Chg.refl _ w).alloc _).alloc _).drew, (((Chg.refl _ w).alloc _).alloc _).drew⟩
      · have hk9' : ((k : Int) == 9) = false := by simp; omega
        have hk8 : k ≤ 8 := by omega
        have hp := pow128_le8 hk8
        clear h9
        by_cases hb : x.toNat < 128
        · have hb' : (x.toNat : Int) < 128 := by omega
          by_cases hz : x.toNat = 0
          · have hx0 : ((x.toNat : Int) == 0) = true := by simp; omega
            have hxz : x.toNat ≤ 0 := by omega
            by_cases hk0 : k = 0
            · have hk0' : (k : Int) ≤ 0 := by omega
              have hkz : k ≤ 0 := by omega
              clear hz hk0
              have hw1 : IntKind.i64.wrap ((k : Int) + 1) = (k : Int) + 1 := by rw [IntKind.wrap_i64]; omega
              have hw2 : (0 : Int) ≤ (k : Int) + 1 := by omega
              have hw3 : ((k : Int) + 1).toNat = k + 1 := by omega
              have hw4 : (k : Int) + 1 ≤ (l.length : Int) := by omega
              have HD : Hid (rdNum 0 0 l = (acc + x.toNat * 128 ^ k, l.drop (k + 1), 0)) := by show _ = _; rw [← HR.out, drop_at HX.out, rdNum_last (by omega) (by omega)]
              have E := dig_sum acc x.toNat k sc HS.out (by have := HA.out; have := Nat.mul_le_mul (show x.toNat % 128 ≤ 127 by omega) hp; omega)
              rw [Nat.mod_eq_of_lt (show x.toNat < 128 by omega)] at E
              have HE := Lib.hid E
              clear E hp
              by_cases hcap : cap = k + 1
              · subst hcap
                have HB : Hid (Bs w F (.slice (some ⟨b, o, none⟩) 0 0) (l.drop (k + 1))) := by
                  have h0 : Bs w F (.slice (some ⟨b, o, none⟩) (l.length - (k + 1)) 0) (l.drop (k + 1)) := Bs.over (by omega) (Nat.zero_le _)
                  rw [show l.length - (k + 1) = 0 by omega] at h0
                  exact h0
                go_wp2_with fail
                all_goals
                  go_region
                  all_goals
                    go_wp2_with fail
                    refine bodyPost_ret (v := .tuple #[.int .u64 (IntKind.u64.wrap ((acc : Int) + IntKind.u64.wrap ((x.toNat : Int) % 128 * (sc : Int)))), rdr (.slice (some ⟨b, o, none⟩) 0 0) 0]) (by simp [results, Try.results73, go_sem]) rfl ?_
                    rw [HD.out, HE.out]
                    exact ⟨_, rfl, HB.out.same (((Chg.refl _ w).alloc _).alloc _).drew, (((Chg.refl _ w).alloc _).alloc _).drew⟩
              · have HB := Lib.hid (h.cut (k := k + 1) (by omega))
                go_wp2_with fail
                all_goals
                  go_region
                  all_goals
                    go_wp2_with fail
                    refine bodyPost_ret (v := .tuple #[.int .u64 (IntKind.u64.wrap ((acc : Int) + IntKind.u64.wrap ((x.toNat : Int) % 128 * (sc : Int)))), rdr (.slice (some ⟨b, o + (k + 1), none⟩) (l.length - (k + 1)) (cap - (k + 1))) 0]) (by simp [results, Try.results73, go_sem]) rfl ?_
                    rw [HD.out, HE.out]
                    exact ⟨_, rfl, HB.out.same (((Chg.refl _ w).alloc _).alloc _).drew, (((Chg.refl _ w).alloc _).alloc _).drew⟩
            · have hk0' : (0 : Int) < (k : Int) := by omega
              clear hz hk0 hp
              have HD : Hid (rdNum 0 0 l = (0, [], 2)) := by show _ = _; rw [← HR.out, drop_at HX.out, rdNum_bad (by omega)]
              go_wp2_with fail
              refine bodyPost_ret (v := .tuple #[.int .u64 0, rdr (.slice none 0 0) 2]) (by simp [results, Try.results73, go_sem]) rfl ?_
              rw [HD.out]
              exact ⟨_, rfl, Bs.nil_ _ _, (Chg.alloc_ _ _ _).alloc _⟩
          · have hx0 : ((x.toNat : Int) == 0) = false := by simp; omega
            have hx1 : 1 ≤ x.toNat := by omega
            clear hz
            have hw1 : IntKind.i64.wrap ((k : Int) + 1) = (k : Int) + 1 := by rw [IntKind.wrap_i64]; omega
            have hw2 : (0 : Int) ≤ (k : Int) + 1 := by omega
            have hw3 : ((k : Int) + 1).toNat = k + 1 := by omega
            have hw4 : (k : Int) + 1 ≤ (l.length : Int) := by omega
            have HD : Hid (rdNum 0 0 l = (acc + x.toNat * 128 ^ k, l.drop (k + 1), 0)) := by show _ = _; rw [← HR.out, drop_at HX.out, rdNum_last (by omega) (by omega)]
            have E := dig_sum acc x.toNat k sc HS.out (by have := HA.out; have := Nat.mul_le_mul (show x.toNat % 128 ≤ 127 by omega) hp; omega)
            rw [Nat.mod_eq_of_lt (show x.toNat < 128 by omega)] at E
            have HE := Lib.hid E
            clear E hp
            by_cases hcap : cap = k + 1
            · subst hcap
              have HB : Hid (Bs w F (.slice (some ⟨b, o, none⟩) 0 0) (l.drop (k + 1))) := by
                have h0 : Bs w F (.slice (some ⟨b, o, none⟩) (l.length - (k + 1)) 0) (l.drop (k + 1)) := Bs.over (by omega) (Nat.zero_le _)
                rw [show l.length - (k + 1) = 0 by omega] at h0
                exact h0
              go_wp2_with fail
              all_goals
                go_region
                all_goals
                  go_wp2_with fail
                  refine bodyPost_ret (v := .tuple #[.int .u64 (IntKind.u64.wrap ((acc : Int) + IntKind.u64.wrap ((x.toNat : Int) % 128 * (sc : Int)))), rdr (.slice (some ⟨b, o, none⟩) 0 0) 0]) (by simp [results, Try.results73, go_sem]) rfl ?_
                  rw [HD.out, HE.out]
                  exact ⟨_, rfl, HB.out.same (((Chg.refl _ w).alloc _).alloc _).drew, (((Chg.refl _ w).alloc _).alloc _).drew⟩
            · have HB := Lib.hid (h.cut (k := k + 1) (by omega))
              go_wp2_with fail
              all_goals
                go_region
                all_goals
                  go_wp2_with fail
                  refine bodyPost_ret (v := .tuple #[.int .u64 (IntKind.u64.wrap ((acc : Int) + IntKind.u64.wrap ((x.toNat : Int) % 128 * (sc : Int)))), rdr (.slice (some ⟨b, o + (k + 1), none⟩) (l.length - (k + 1)) (cap - (k + 1))) 0]) (by simp [results, Try.results73, go_sem]) rfl ?_
                  rw [HD.out, HE.out]
                  exact ⟨_, rfl, HB.out.same (((Chg.refl _ w).alloc _).alloc _).drew, (((Chg.refl _ w).alloc _).alloc _).drew⟩
        · have hb' : (128 : Int) ≤ (x.toNat : Int) := by omega
          have E := dig_sum acc x.toNat k sc HS.out (by have := HA.out; have := Nat.mul_le_mul (show x.toNat % 128 ≤ 127 by omega) hp; omega)
          have HE := Lib.hid E
          clear E hp
          go_wp2_with fail
          all_goals
            go_round
            case rel => exact ⟨k + 1, _, _, congrArg (Value.int .u64) HE.out, congrArg (Value.int .u64) (scale_up k sc HS.out hk8), rfl, NumAt.step HX.out (by omega) hk8 HA.out HR.out, rfl⟩
            case measure => simp [intOf]; omega
    · have HD : Hid (rdNum 0 0 l = (0, [], 3)) := by show _ = _; rw [← HR.out, List.drop_eq_nil_of_le (by omega)]; rfl
      go_wp2_with fail
      refine bodyPost_ret (v := .tuple #[.int .u64 0, rdr (.slice none 0 0) 3]) (by simp [results, Try.results73, go_sem]) rfl ?_
      rw [HD.out]
      exact ⟨_, rfl, Bs.nil_ _ _, (Chg.alloc_ _ _ _).alloc _⟩
end Go.Proofs.Ytdkankiohoocaaa
/- The walks of carrierref02's ReadNum (at any error), ReadInt, ReadText, End. -/
namespace Go.Proofs.Ytdkankiohoocaaa
set_option linter.unusedSimpArgs false
set_option linter.unusedVariables false
open Go Go.RowKit Go.Proofs

set_option maxHeartbeats 400000 in
theorem pnum_any (v : Value) (F : Nat → Prop) (l : List UInt8) (e : Int) (w : World) (h : Bs w F v l) :
    Calls Try.prog 73 #[rdr v e] w fun en w' => ∃ v', en = .returned (.tuple #[.int .u64 (readNum l e).1, rdr v' (readNum l e).2.2]) ∧ Bs w' F v' (readNum l e).2.1 ∧ Same w w' := by
  by_cases he : e = 0
  · subst he
    exact pnum_ok v F l w h
  · have HD : Hid (readNum l e = (0, l, e)) := by show _ = _; unfold readNum; rw [if_neg he]
    have he' : (e != 0) = true := by simp; exact he
    clear he
    obtain ⟨A, cap, hv, -, -, -⟩ := id h
    subst hv
    go_enter Try.func73, Try.ntmps73
    go_wp2_with fail
    go_region
    all_goals
      go_wp2_with fail
      refine bodyPost_ret (v := .tuple #[.int .u64 0, rdr (.slice A l.length cap) e]) (by simp [results, Try.results73, go_sem]) rfl ?_
      rw [HD.out]
      exact ⟨_, rfl, h.same (((Chg.refl _ w).alloc _).alloc _).drew, (((Chg.refl _ w).alloc _).alloc _).drew⟩

/-- The blocks that a call has laid ahead of another one. -/
theorem two_new {w w1 : World} {o1 o2 : Obj} (h : Same ((w.alloc o1).alloc o2) w1) : w1.heap[w.heap.size]? = some o1 ∧ w1.heap[w.heap.size + 1]? = some o2 ∧ w.heap.size + 1 < w1.heap.size ∧ Same w w1 := by
  have h1 : ((w.alloc o1).alloc o2).heap[w.heap.size]? = some o1 := by
    rw [Below.heap_alloc _ _ _ (by simp)]; exact heap_alloc_new w o1
  have h2 : ((w.alloc o1).alloc o2).heap[w.heap.size + 1]? = some o2 := by
    have := heap_alloc_new (w.alloc o1) o2
    simpa using this
  have hs := h.size
  simp at hs
  exact ⟨h.at_ h1 (fun h => h), h.at_ h2 (fun h => h), by omega, ((Chg.refl _ w).alloc _).alloc _ |>.trans h⟩

set_option maxHeartbeats 400000 in
theorem pend_any (v : Value) (F : Nat → Prop) (l : List UInt8) (e : Int) (w : World) (h : Bs w F v l) :
    Calls Try.prog 53 #[rdr v e] w fun en w' => en = .returned (.int .i64 (endErr l e)) ∧ Same w w' := by
  obtain ⟨A, cap, hv, -, -, -⟩ := id h
  subst hv
  by_cases he : e = 0
  · have he0 : (e == 0) = true := by simp [he]
    by_cases hl : 0 < l.length
    · have HE : Hid (endErr l e = 2) := by show _ = _; unfold endErr; rw [if_pos ⟨he, hl⟩]
      have hl0 : (0 : Int) < (l.length : Int) := by omega
      clear he h
      go_enter Try.func53, Try.ntmps53
      go_wp2_with fail
      go_ret
      exact ⟨ret_int HE.out.symm, Chg.alloc_ _ _ _⟩
    · have HE : Hid (endErr l e = e) := by show _ = _; unfold endErr; rw [if_neg (fun h => hl h.2)]
      have hl0 : (l.length : Int) ≤ 0 := by omega
      clear he h
      go_enter Try.func53, Try.ntmps53
      go_wp2_with fail
      go_ret
      exact ⟨ret_int HE.out.symm, Chg.alloc_ _ _ _⟩
  · have he0 : (e == 0) = false := by simp [he]
    have HE : Hid (endErr l e = e) := by show _ = _; unfold endErr; rw [if_neg (fun h => he h.1)]
    clear he h
    go_enter Try.func53, Try.ntmps53
    go_wp2_with fail
    go_ret
    exact ⟨ret_int HE.out.symm, Chg.alloc_ _ _ _⟩

theorem Bs.old {w : World} {F : Nat → Prop} {v : Value} {l : List UInt8} (h : Bs w F v l) : Bs w (fun k => F k ∧ k < w.heap.size) v l := h.mono (fun _ hk hF => ⟨hF, hk⟩)
theorem Bs.all {w : World} {F : Nat → Prop} {v : Value} {l : List UInt8} {B : Nat} (h : Bs w (fun k => F k ∧ k < B) v l) : Bs w F v l := h.mono (fun _ _ hF => hF.1)
theorem Bs.far {w : World} {F : Nat → Prop} {v : Value} {l : List UInt8} {B : Nat} (h : Bs w (fun k => F k ∧ k < B) v l) {p : Addr} (hp : B ≤ p.block) (u : Value) : Bs (w.setCell p u) (fun k => F k ∧ k < B) v l :=
  h.keep (S := fun k => B ≤ k) ((Chg.refl _ w).setCell (fun _ => hp) u) (fun k hk h => by omega)
theorem Bs.alloc {w : World} {F : Nat → Prop} {v : Value} {l : List UInt8} (h : Bs w F v l) (o : Obj) : Bs (w.alloc o) F v l := h.same (Chg.alloc_ _ _ _)
theorem Chg.far {S : Nat → Prop} {w w' : World} (h : Chg S w w') {p : Addr} (hp : w.heap.size ≤ p.block) (u : Value) : Chg S w (w'.setCell p u) := h.setCell (fun h => absurd h (by omega)) u
theorem Bs.takeN {w : World} {F : Nat → Prop} {l : List UInt8} {A : Option Addr} {n c k : Nat} (h : Bs w F (.slice A n c) l) (hk : k ≤ l.length) : Bs w F (.slice A k c) (l.take k) := by
  obtain ⟨A', c', hv', h1, h2, h3⟩ := h
  injection hv' with e1 e2 e3
  subst e1; subst e3
  have hl : (l.take k).length = k := by rw [List.length_take]; omega
  refine ⟨_, _, by rw [hl], by omega, h2, fun h0 => ?_⟩
  obtain ⟨b, o, hA, hF, hx⟩ := h3 (by omega)
  refine ⟨b, o, hA, hF, fun i x hi => hx i x ?_⟩
  rw [List.getElem?_take] at hi
  split at hi
  · exact hi
  · cases hi
theorem Bs.cutm {w : World} {F : Nat → Prop} {cap k : Nat} {A : Option Addr} {l : List UInt8} (h : Bs w F (.slice A l.length cap) l) (hk : k ≤ l.length) :
    Bs w F (.slice (Option.map (fun x => x.add k) A) (l.length - k) (cap - k)) (l.drop k) := by
  obtain ⟨A', c, hv, h1, h2, h3⟩ := h
  injection hv with e1 e2 e3
  subst e1; subst e3
  refine ⟨_, _, by rw [List.length_drop], by rw [List.length_drop]; omega, by omega, fun h0 => ?_⟩
  rw [List.length_drop] at h0
  obtain ⟨b', o', hA, hF, hx⟩ := h3 (by omega)
  subst hA
  refine ⟨b', o' + k, by rw [← addr_add]; rfl, hF, fun i x hi => ?_⟩
  rw [List.getElem?_drop] at hi
  rw [Nat.add_assoc]
  exact hx _ x hi

set_option maxHeartbeats 400000 in
theorem pint_any (v : Value) (F : Nat → Prop) (l : List UInt8) (e : Int) (w : World) (h : Bs w F v l) :
    Calls Try.prog 50 #[rdr v e] w fun en w' => ∃ v', en = .returned (.tuple #[.int .i64 (readInt l e).1, rdr v' (readInt l e).2.2]) ∧ Bs w' F v' (readInt l e).2.1 ∧ Same w w' := by
  obtain ⟨A, cap, hv, -, -, -⟩ := id h
  have hle := readNum_le l e
  have hI : readInt l e = (unzig (readNum l e).1, (readNum l e).2) := rfl
  have HC := fun W hW => pnum_any v (fun k => F k ∧ k < w.heap.size) l e W hW
  generalize readNum l e = q at *
  obtain ⟨n, l1, e1⟩ := q
  simp only at hle hI HC
  subst hv
  have HC' := Lib.hid HC
  clear HC
  by_cases ho : n % 2 = 1
  · have HI : Hid (readInt l e = (-((n : Int) / 2) - 1, l1, e1)) := by show _ = _; rw [hI]; unfold unzig; rw [if_pos ho]; congr 1
    have ho' : ((n : Int) % 2 == 1) = true := by simp; omega
    clear hI
    go_enter Try.func50, Try.ntmps50
    go_wp2_with fail
    refine (HC'.out _ ((h.old.alloc _).alloc _)).mono ?_
    rintro _ w1 ⟨v1, rfl, hb1, hs1⟩
    obtain ⟨n1, n2, n3, hsame⟩ := two_new hs1
    obtain ⟨c0, c1, f0, f1⟩ := two_cells n2
    obtain ⟨A1, cap1, hv1, -, -, -⟩ := id hb1
    subst hv1
    clear n1 n2
    go_wp2_with fail
    go_region
    all_goals
      go_wp2_with fail
      refine bodyPost_ret (v := .tuple #[.int .i64 (-((n : Int) / 2) - 1), rdr (.slice A1 l1.length cap1) e1]) (by simp [results, Try.results50, go_sem, c0, c1, n3]) rfl ?_
      rw [HI.out]
      refine ⟨_, rfl, Bs.all (Bs.drewN (Bs.alloc ((hb1.far (by simp) _).far (by simp) _) _) 1), ((((hsame.far (by simp) _).far (by simp) _).alloc _).drew)⟩
  · have HI : Hid (readInt l e = ((n : Int) / 2, l1, e1)) := by show _ = _; rw [hI]; unfold unzig; rw [if_neg ho]; congr 1
    have ho' : ((n : Int) % 2 == 1) = false := by simp; omega
    clear hI
    go_enter Try.func50, Try.ntmps50
    go_wp2_with fail
    refine (HC'.out _ ((h.old.alloc _).alloc _)).mono ?_
    rintro _ w1 ⟨v1, rfl, hb1, hs1⟩
    obtain ⟨n1, n2, n3, hsame⟩ := two_new hs1
    obtain ⟨c0, c1, f0, f1⟩ := two_cells n2
    obtain ⟨A1, cap1, hv1, -, -, -⟩ := id hb1
    subst hv1
    clear n1 n2
    go_wp2_with fail
    go_region
    all_goals
      go_wp2_with fail
      refine bodyPost_ret (v := .tuple #[.int .i64 ((n : Int) / 2), rdr (.slice A1 l1.length cap1) e1]) (by simp [results, Try.results50, go_sem, c0, c1, n3]) rfl ?_
      rw [HI.out]
      refine ⟨_, rfl, Bs.all (Bs.drewN (Bs.alloc ((hb1.far (by simp) _).far (by simp) _) _) 1), ((((hsame.far (by simp) _).far (by simp) _).alloc _).drew)⟩

set_option maxHeartbeats 800000 in
set_option maxRecDepth 100000 in
theorem ptext_any (v : Value) (F : Nat → Prop) (l : List UInt8) (e most : Int) (w : World) (h : Bs w F v l) (hl : l.length ≤ 140737488355328) (hm0 : -9223372036854775808 ≤ most) (hm1 : most ≤ 9223372036854775807) :
    Calls Try.prog 52 #[rdr v e, .int .i64 most] w fun en w' => ∃ v', en = .returned (.tuple #[.string ⟨(readText l e most).1.toArray⟩, rdr v' (readText l e most).2.2]) ∧ Bs w' F v' (readText l e most).2.1 ∧ Same w w' := by
  obtain ⟨A, cap, hv, -, -, -⟩ := id h
  have hle := readNum_le l e
  have hll := readNum_len l e
  have hT : readText l e most = rdText most (readNum l e) := rfl
  have HC := fun W hW => pnum_any v (fun k => F k ∧ k < w.heap.size) l e W hW
  generalize readNum l e = q at *
  obtain ⟨n, l1, e1⟩ := q
  simp only at hle hll HC
  subst hv
  have HC' := Lib.hid HC
  clear HC
  have hl1 : l1.length ≤ 140737488355328 := by omega
  by_cases he : e1 = 0
  · subst he
    by_cases hn : most.toNat < n
    · have HD : Hid (readText l e most = ([], [], 2)) := by show _ = _; rw [hT]; unfold rdText; simp [hn]
      have hn' : most < (n : Int) := by omega
      have hn0 : (0 : Int) < (n : Int) := by omega
      clear hT hn
      go_enter Try.func52, Try.ntmps52
      go_wp2_with fail
      refine (HC'.out _ ((h.old.alloc _).alloc _)).mono ?_
      rintro _ w1 ⟨v1, rfl, hb1, hs1⟩
      obtain ⟨n1, n2, n3, hsame⟩ := two_new hs1
      obtain ⟨c0, c1, f0, f1⟩ := two_cells n2
      obtain ⟨A1, cap1, hv1, -, -, -⟩ := id hb1
      subst hv1
      clear n1 n2
      by_cases hm : most < 0
      all_goals
        go_wp2_with fail
        refine bodyPost_ret (v := .tuple #[.string ⟨#[]⟩, rdr (.slice none 0 0) 2]) (by simp [results, Try.results52, go_sem, c0, c1, n3]) rfl ?_
        rw [HD.out]
        exact ⟨_, rfl, Bs.nil_ _ _, (((hsame.far (by simp) _).far (by simp) _).alloc _)⟩
    · have hn' : 0 ≤ most → (n : Int) ≤ most := by omega
      have hn0 : most < 0 → (n : Int) ≤ 0 := by omega
      by_cases hn2 : l1.length < n
      · have HD : Hid (readText l e most = ([], [], 3)) := by show _ = _; rw [hT]; unfold rdText; simp [hn, hn2]
        have hn3 : (l1.length : Int) < (n : Int) := by omega
        have hm : 0 ≤ most := by omega
        have hnm : (n : Int) ≤ most := by omega
        clear hT hn hn2
        go_enter Try.func52, Try.ntmps52
        go_wp2_with fail
        refine (HC'.out _ ((h.old.alloc _).alloc _)).mono ?_
        rintro _ w1 ⟨v1, rfl, hb1, hs1⟩
        obtain ⟨n1, n2, n3, hsame⟩ := two_new hs1
        obtain ⟨c0, c1, f0, f1⟩ := two_cells n2
        obtain ⟨A1, cap1, hv1, -, -, -⟩ := id hb1
        subst hv1
        clear n1 n2
        · go_wp2_with fail
          refine bodyPost_ret (v := .tuple #[.string ⟨#[]⟩, rdr (.slice none 0 0) 3]) (by simp [results, Try.results52, go_sem, c0, c1, n3]) rfl ?_
          rw [HD.out]
          exact ⟨_, rfl, Bs.nil_ _ _, (((hsame.far (by simp) _).far (by simp) _).alloc _)⟩
      · have HD : Hid (readText l e most = (l1.take n, l1.drop n, 0)) := by show _ = _; rw [hT]; unfold rdText; simp [hn, hn2]
        have hn3 : (n : Int) ≤ (l1.length : Int) := by omega
        have hn4 : n ≤ l1.length := by omega
        clear hT hn hn2
        go_enter Try.func52, Try.ntmps52
        go_wp2_with fail
        refine (HC'.out _ ((h.old.alloc _).alloc _)).mono ?_
        rintro _ w1 ⟨v1, rfl, hb1, hs1⟩
        obtain ⟨n1, n2, n3, hsame⟩ := two_new hs1
        obtain ⟨c0, c1, f0, f1⟩ := two_cells n2
        obtain ⟨A1, cap1, hv1, hlc, hcm, -⟩ := id hb1
        subst hv1
        unfold maxLen at hcm
        clear n1 n2
        have hcv := run_toS (w1.alloc (.cells #[.slice A1 l1.length cap1, .int .i64 0] 107)).drew _ (.slice A1 n cap1) _ (Bs.drewN ((hb1.takeN hn4).alloc _) 1)
        by_cases hcap : cap1 = n
        · subst hcap
          have hB : Hid (Bs w1 (fun k => F k ∧ k < w.heap.size) (.slice A1 0 0) (l1.drop cap1)) := by
            have h0 : Bs w1 (fun k => F k ∧ k < w.heap.size) (.slice A1 (l1.length - cap1) 0) (l1.drop cap1) := Bs.over (by omega) (Nat.zero_le _)
            rw [show l1.length - cap1 = 0 by omega] at h0
            exact h0
          by_cases hm : most < 0
          all_goals
            go_wp2_with fail
            go_region
            all_goals
              go_wp2_with fail
              refine bodyPost_ret (v := .tuple #[.string ⟨(l1.take cap1).toArray⟩, rdr (.slice A1 0 0) 0]) (by simp [results, Try.results52, go_sem, c0, c1, n3]) rfl ?_
              rw [HD.out]
              exact ⟨_, rfl, Bs.all (Bs.drewN (Bs.alloc ((hB.out.far (by simp) _).far (by simp) _) _) 1), (((hsame.far (by simp) _).far (by simp) _).alloc _).drew⟩
        · have hB := Lib.hid (hb1.cutm hn4)
          by_cases hm : most < 0
          all_goals
            go_wp2_with fail
            go_region
            all_goals
              go_wp2_with fail
              refine bodyPost_ret (v := .tuple #[.string ⟨(l1.take n).toArray⟩, rdr (.slice (Option.map (fun x => x.add n) A1) (l1.length - n) (cap1 - n)) 0]) (by simp [results, Try.results52, go_sem, c0, c1, n3]) rfl ?_
              rw [HD.out]
              exact ⟨_, rfl, Bs.all (Bs.drewN (Bs.alloc ((hB.out.far (by simp) _).far (by simp) _) _) 1), (((hsame.far (by simp) _).far (by simp) _).alloc _).drew⟩
  · have HD : Hid (readText l e most = ([], l1, e1)) := by show _ = _; rw [hT]; unfold rdText; simp [he]
    have he' : (e1 != 0) = true := by simp; exact he
    clear hT he
    go_enter Try.func52, Try.ntmps52
    go_wp2_with fail
    refine (HC'.out _ ((h.old.alloc _).alloc _)).mono ?_
    rintro _ w1 ⟨v1, rfl, hb1, hs1⟩
    obtain ⟨n1, n2, n3, hsame⟩ := two_new hs1
    obtain ⟨c0, c1, f0, f1⟩ := two_cells n2
    obtain ⟨A1, cap1, hv1, -, -, -⟩ := id hb1
    subst hv1
    clear n1 n2
    go_wp2_with fail
    go_region
    all_goals
      go_wp2_with fail
      refine bodyPost_ret (v := .tuple #[.string ⟨#[]⟩, rdr (.slice A1 l1.length cap1) e1]) (by simp [results, Try.results52, go_sem, c0, c1, n3]) rfl ?_
      rw [HD.out]
      exact ⟨_, rfl, Bs.all (Bs.drewN (Bs.alloc ((hb1.far (by simp) _).far (by simp) _) _) 1), (((hsame.far (by simp) _).far (by simp) _).alloc _).drew⟩
end Go.Proofs.Ytdkankiohoocaaa
/- Contracts of package code's functions at a written answer; steps between worlds. -/
namespace Go.Proofs.Ytdkankiohoocaaa
set_option linter.unusedSimpArgs false
set_option linter.unusedVariables false
open Go Go.RowKit Go.Proofs

theorem Chg.since {F : Nat → Prop} {w w1 w2 : World} (h : Same w w1) (hc : Chg F w1 w2) (hF : ∀ k, F k → w.heap.size ≤ k) : Same w w2 := h.trans' hc (fun i hi hf => by have := hF i hf; omega)
theorem New.since {F F' : Nat → Prop} {w1 w2 : World} {n : Nat} (h : New F F' w1 w2) (hF : ∀ k, F k → n ≤ k) (hn : n ≤ w1.heap.size) : ∀ k, F' k → n ≤ k := fun k hk => by
  rcases h k hk with h | h
  · exact hF k h
  · omega

theorem Rd.mine {w : World} {F : Nat → Prop} {a : Nat} {l : List UInt8} {e : Int} (h : Rd w F a l e) : F a := by obtain ⟨v, h⟩ := h; exact h.mine
theorem alike_true (va vb : Value) (l : List UInt8) (F G : Nat → Prop) (w : World) (ha : Bs w F va l) (hb : Bs w G vb l) :
    Calls Try.prog 17 #[va, vb] w fun e w' => e = .returned (.bool true) ∧ ∃ n, w' = w.drewN n :=
  (alike_any va vb l l F G w ha hb).mono fun e w' h => by
    have e1 : sameB l l = true := by unfold sameB; simp
    rw [e1] at h; exact h
theorem alike_same (va vb : Value) (l : List UInt8) (F G : Nat → Prop) (w : World) (ha : Bs w F va l) (hb : Bs w G vb l) :
    Calls Try.prog 17 #[va, vb] w fun e w' => e = .returned (.bool true) ∧ Same w w' :=
  (alike_true va vb l F G w ha hb).mono fun e w' h => by
    obtain ⟨h1, n, rfl⟩ := h
    exact ⟨h1, (Chg.refl _ w).drewN n⟩
theorem rnum_is (a : Nat) (F : Nat → Prop) (l : List UInt8) (e : Int) (w : World) (h : Rd w F a l e) (n : Nat) (l1 : List UInt8) (e1 : Int) (hq : readNum l e = (n, l1, e1)) :
    Calls Try.prog 81 #[.pointer (some ⟨a, 0, none⟩)] w fun en w' => en = .returned (.int .u64 n) ∧ RdPost w w' F a l1 e1 :=
  (rnum_any' a F l e w h).mono fun e w' h => by rw [hq] at h; exact h

theorem Bs.bounds {w : World} {F : Nat → Prop} {A : Option Addr} {n c : Nat} {l : List UInt8} (h : Bs w F (.slice A n c) l) : n = l.length ∧ l.length ≤ c ∧ c ≤ 9223372036854775807 := by
  obtain ⟨A', c', h0, h1, h2, _⟩ := h
  injection h0 with _ e1 e2
  subst e1; subst e2
  refine ⟨rfl, h1, ?_⟩
  have : maxLen = 9223372036854775807 := by decide +kernel
  omega
theorem Rd.drew {w : World} {F : Nat → Prop} {a : Nat} {l : List UInt8} {e : Int} (h : Rd w F a l e) : Rd w.drew F a l e := h.keep (Chg.refl (fun _ => False) w).drew (fun _ _ h => h)
theorem Rd.drewN {w : World} {F : Nat → Prop} {a : Nat} {l : List UInt8} {e : Int} (h : Rd w F a l e) (n : Nat) : Rd (w.drewN n) F a l e := h.keep ((Chg.refl (fun _ => False) w).drewN n) (fun _ _ h => h)
theorem Wr.drew {w : World} {F : Nat → Prop} {a : Nat} {l : List UInt8} (h : Wr w F a l) : Wr w.drew F a l := h.keep (Chg.refl (fun _ => False) w).drew (fun _ _ h => h)
theorem join_nil (va : Value) (l : List UInt8) (F : Nat → Prop) (w : World) (ha : Bs w F va l) (hl : l.length ≤ 140737488355328) :
    Calls Try.prog 22 #[va, .slice none 0 0] w fun e w' => ∃ v', e = .returned v' ∧ Fresh w w' v' l :=
  (join_any va (.slice none 0 0) l [] F F w ha (Bs.nil_ _ _) (by simpa using hl)).mono fun e w' h => by rw [List.append_nil] at h; exact h
theorem pnum_is (v : Value) (F : Nat → Prop) (l : List UInt8) (e : Int) (w : World) (h : Bs w F v l) (n : Nat) (l1 : List UInt8) (e1 : Int) (hq : readNum l e = (n, l1, e1)) :
    Calls Try.prog 73 #[rdr v e] w fun en w' => ∃ v', en = .returned (.tuple #[.int .u64 n, rdr v' e1]) ∧ Bs w' F v' l1 ∧ Same w w' :=
  (pnum_any v F l e w h).mono fun en w' h => by rw [hq] at h; exact h
theorem rnumb_is (n : Int) (h0 : 0 ≤ n) (h1 : n ≤ 18446744073709551615) (w : World) (l : List UInt8) (hq : numB n.toNat = l) :
    Calls Try.prog 70 #[.int .u64 n] w fun e w' => ∃ v', e = .returned v' ∧ Fresh w w' v' l :=
  (rnum_any n h0 h1 w).mono fun en w' h => by rw [hq] at h; exact h
theorem bs_lit (w : World) (t : TypeId) (cs : Array Value) (l : List UInt8) (n : Nat) (hn : l.length = n) (hm : n ≤ maxLen) (hx : cs.toList = bvs l) :
    Bs (w.alloc (.cells cs t)) (fun k => k = w.heap.size) (.slice (some ⟨w.heap.size, 0, none⟩) n n) l := by
  subst hn
  refine ⟨_, _, rfl, Nat.le_refl _, hm, fun _ => ⟨_, 0, rfl, rfl, fun i x hi => ?_⟩⟩
  rw [World.cell?_alloc_at _ _ _ _ rfl, Nat.zero_add, ← Array.getElem?_toList, hx, bvs_get, hi]
  rfl

end Go.Proofs.Ytdkankiohoocaaa
