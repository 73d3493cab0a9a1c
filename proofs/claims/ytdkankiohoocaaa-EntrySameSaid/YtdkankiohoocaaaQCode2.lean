/- The walks of code.Reader. -/
import Derived.Test.YtdkankiohoocaaaQCode1
namespace Go.Proofs.Ytdkankiohoocaaa
set_option linter.unusedSimpArgs false
set_option linter.unusedVariables false
open Go Go.RowKit Go.Proofs

/-- A code.Reader behind a pointer to block a: the bytes l that are left, and the error e; F: the blocks that are its own. -/
structure RdV (w : World) (F : Nat → Prop) (a : Nat) (v : Value) (l : List UInt8) (e : Int) : Prop where
  blk : w.heap[a]? = some (.cells #[v, .int .i64 e] 126 (0, 0))
  bs : Bs w (fun k => F k ∧ k ≠ a) v l
  mine : F a
  lt : Lt F w
def Rd (w : World) (F : Nat → Prop) (a : Nat) (l : List UInt8) (e : Int) : Prop := ∃ v, RdV w F a v l e
/-- What a call leaves of it: nothing but its own block has turned. -/
def RdPost (w w' : World) (F : Nat → Prop) (a : Nat) (l : List UInt8) (e : Int) : Prop := Rd w' F a l e ∧ Chg (fun k => k = a) w w'

theorem Rd.keep {w w' : World} {F S : Nat → Prop} {a : Nat} {l : List UInt8} {e : Int} (h : Rd w F a l e) (hc : Chg S w w') (hd : ∀ k, F k → ¬ S k) : Rd w' F a l e := by
  obtain ⟨v, h1, h2, h3, h4⟩ := h
  exact ⟨v, hc.at_ h1 (hd a h3), h2.keep hc (fun k hk => hd k hk.1), h3, h4.mono hc.size⟩
theorem RdPost.trans {w w1 w2 : World} {F : Nat → Prop} {a : Nat} {l : List UInt8} {e : Int} (hc : Chg (fun k => k = a) w w1) (h : RdPost w1 w2 F a l e) : RdPost w w2 F a l e := ⟨h.1, hc.trans h.2⟩
theorem RdPost.refl {w : World} {F : Nat → Prop} {a : Nat} {l : List UInt8} {e : Int} (h : Rd w F a l e) : RdPost w w F a l e := ⟨h, Chg.refl _ _⟩

theorem two_cells {w : World} {b : Nat} {v u : Value} {t : TypeId} (h : w.heap[b]? = some (.cells #[v, u] t (0, 0))) :
    w.cell? ⟨b, 0, none⟩ = some v ∧ w.cell? ⟨b, 1, none⟩ = some u ∧ w.frozen? ⟨b, 0, none⟩ = false ∧ w.frozen? ⟨b, 1, none⟩ = false := by
  simp [World.cell?, World.frozen?, h]
theorem two_set0 {w : World} {b : Nat} {v u x : Value} {t : TypeId} (h : w.heap[b]? = some (.cells #[v, u] t (0, 0))) : (w.setCell ⟨b, 0, none⟩ x).heap[b]? = some (.cells #[x, u] t (0, 0)) := by
  simp [World.setCell, Array.getElem?_modify, h]
theorem two_set1 {w : World} {b : Nat} {v u x : Value} {t : TypeId} (h : w.heap[b]? = some (.cells #[v, u] t (0, 0))) : (w.setCell ⟨b, 1, none⟩ x).heap[b]? = some (.cells #[v, x] t (0, 0)) := by
  simp [World.setCell, Array.getElem?_modify, h]

/-- The field p is another piece of the same bytes, or nil; the error is told anew. -/
theorem RdV.set {w : World} {F : Nat → Prop} {a : Nat} {v v' : Value} {l l' : List UInt8} {e : Int} (h : RdV w F a v l e) (hb : Bs w (fun k => F k ∧ k ≠ a) v' l') :
    RdPost w (w.setCell ⟨a, 0, none⟩ v') F a l' e := by
  have hc : Chg (fun k => k = a) w (w.setCell ⟨a, 0, none⟩ v') := Chg.setCell (S := fun k => k = a) (Chg.refl _ w) (p := ⟨a, 0, none⟩) (fun _ => rfl) v'
  exact ⟨⟨v', two_set0 h.blk, hb.keep hc (fun k hk => hk.2), h.mine, h.lt.mono hc.size⟩, hc⟩
theorem RdV.fail {w : World} {F : Nat → Prop} {a : Nat} {v : Value} {l : List UInt8} {e : Int} (h : RdV w F a v l e) (e' : Int) :
    RdPost w ((w.setCell ⟨a, 0, none⟩ (.slice none 0 0)).setCell ⟨a, 1, none⟩ (.int .i64 e')) F a [] e' := by
  have hc : Chg (fun k => k = a) w ((w.setCell ⟨a, 0, none⟩ (.slice none 0 0)).setCell ⟨a, 1, none⟩ (.int .i64 e')) :=
    Chg.setCell (S := fun k => k = a) (Chg.setCell (S := fun k => k = a) (Chg.refl _ w) (p := ⟨a, 0, none⟩) (fun _ => rfl) _) (p := ⟨a, 1, none⟩) (fun _ => rfl) _
  exact ⟨⟨.slice none 0 0, two_set1 (two_set0 h.blk), Bs.nil_ _ _, h.mine, h.lt.mono hc.size⟩, hc⟩

set_option maxHeartbeats 800000 in
theorem newr_any (v : Value) (l : List UInt8) (F : Nat → Prop) (w : World) (h : Bs w F v l) (hl : l.length ≤ 140737488355328) :
    Calls Try.prog 38 #[v] w fun e w' => ∃ a F', e = .returned (.pointer (some ⟨a, 0, none⟩)) ∧ Rd w' F' a l 0 ∧ Same w w' ∧ ∀ k, F' k → w.heap.size ≤ k := by
  go_enter Try.func38, Try.ntmps38
  go_wp2_with fail
  refine (clone_any v l F w h hl).mono ?_
  rintro e w1 ⟨v1, rfl, R1⟩
  obtain ⟨A1, cap1, rfl⟩ := R1.form
  go_wp2
  go_ret
  refine ⟨w1.heap.size, fun k => w.heap.size ≤ k ∧ k < w1.heap.size + 1, rfl, ⟨_, heap_alloc_new w1 _, ?_, ?_, ?_⟩, R1.2.alloc _, fun k hk => hk.1⟩
  · have hb := Own.bs (F := fun k => (w.heap.size ≤ k ∧ k < w1.heap.size + 1) ∧ k ≠ w1.heap.size) R1.1 (fun g hg => by have := R1.1.lt hg; omega)
    exact hb.same (Chg.alloc_ _ _ _)
  · have := R1.2.size; omega
  · intro k hk; simpa using hk.2

set_option maxHeartbeats 800000 in
theorem rerr_any (a : Nat) (F : Nat → Prop) (l : List UInt8) (e : Int) (w : World) (h : Rd w F a l e) :
    Calls Try.prog 68 #[.pointer (some ⟨a, 0, none⟩)] w fun en w' => en = .returned (.int .i64 e) ∧ w = w' := by
  obtain ⟨v, hR⟩ := h
  obtain ⟨c0, c1, f0, f1⟩ := two_cells hR.blk
  go_enter Try.func68, Try.ntmps68
  go_wp2
  go_ret
  exact ⟨rfl, rfl⟩

set_option maxHeartbeats 800000 in
theorem rleft_any (a : Nat) (F : Nat → Prop) (l : List UInt8) (e : Int) (w : World) (h : Rd w F a l e) :
    Calls Try.prog 69 #[.pointer (some ⟨a, 0, none⟩)] w fun en w' => en = .returned (.int .i64 l.length) ∧ w = w' := by
  obtain ⟨v, hR⟩ := h
  obtain ⟨c0, c1, f0, f1⟩ := two_cells hR.blk
  obtain ⟨A, cap, rfl, -, -, -⟩ := id hR.bs
  go_enter Try.func69, Try.ntmps69
  go_wp2
  go_ret
  exact ⟨rfl, rfl⟩

set_option maxHeartbeats 800000 in
theorem rfail_any (a : Nat) (F : Nat → Prop) (l : List UInt8) (e e' : Int) (w : World) (h : Rd w F a l e) :
    Calls Try.prog 83 #[.pointer (some ⟨a, 0, none⟩), .int .i64 e'] w fun en w' => en = .returned (.tuple #[]) ∧ RdPost w w' F a [] e' := by
  obtain ⟨v, hR⟩ := h
  obtain ⟨c0, c1, f0, f1⟩ := two_cells hR.blk
  go_enter Try.func83, Try.ntmps83
  go_wp2
  go_end0
  exact ⟨rfl, hR.fail e'⟩

set_option maxHeartbeats 800000 in
theorem rend_any (a : Nat) (F : Nat → Prop) (l : List UInt8) (e : Int) (w : World) (h : Rd w F a l e) :
    Calls Try.prog 41 #[.pointer (some ⟨a, 0, none⟩)] w fun en w' => en = .returned (.int .i64 (endErr l e)) ∧ w = w' := by
  by_cases he : e = 0
  · have he0 : (e == 0) = true := by simp [he]
    by_cases hl : 0 < l.length
    · have HE : Hid (endErr l e = 2) := by show _ = _; unfold endErr; rw [if_pos ⟨he, hl⟩]
      have hl0 : (0 : Int) < (l.length : Int) := by omega
      clear he
      go_enter Try.func41, Try.ntmps41
      go_wp2_with fail
      refine (rerr_any a F l e w h).mono ?_
      rintro _ _ ⟨rfl, rfl⟩
      go_wp2_with fail
      refine (rleft_any a F l e w h).mono ?_
      rintro _ _ ⟨rfl, rfl⟩
      go_wp2_with fail
      go_ret
      exact ⟨ret_int HE.out.symm, rfl⟩
    · have HE : Hid (endErr l e = e) := by show _ = _; unfold endErr; rw [if_neg (fun h => hl h.2)]
      have hl0 : (l.length : Int) ≤ 0 := by omega
      clear he
      go_enter Try.func41, Try.ntmps41
      go_wp2_with fail
      refine (rerr_any a F l e w h).mono ?_
      rintro _ _ ⟨rfl, rfl⟩
      go_wp2_with fail
      refine (rleft_any a F l e w h).mono ?_
      rintro _ _ ⟨rfl, rfl⟩
      go_wp2_with fail
      refine (rerr_any a F l e w h).mono ?_
      rintro _ _ ⟨rfl, rfl⟩
      go_wp2
      go_ret
      exact ⟨ret_int HE.out.symm, rfl⟩
  · have he0 : (e == 0) = false := by simp [he]
    have HE : Hid (endErr l e = e) := by show _ = _; unfold endErr; rw [if_neg (fun h => he h.1)]
    clear he
    go_enter Try.func41, Try.ntmps41
    go_wp2_with fail
    refine (rerr_any a F l e w h).mono ?_
    rintro _ _ ⟨rfl, rfl⟩
    go_wp2_with fail
    refine (rerr_any a F l e w h).mono ?_
    rintro _ _ ⟨rfl, rfl⟩
    go_wp2
    go_ret
    exact ⟨ret_int HE.out.symm, rfl⟩
end Go.Proofs.Ytdkankiohoocaaa
/- The walk of code.Reader's Num. -/
namespace Go.Proofs.Ytdkankiohoocaaa
set_option linter.unusedSimpArgs false
set_option linter.unusedVariables false
open Go Go.RowKit Go.Proofs

/-- Where the loop of Num stands: k digits are read, and make acc. -/
def NumAt (l : List UInt8) (k acc : Nat) : Prop := k ≤ l.length ∧ k ≤ 9 ∧ acc < 128 ^ k ∧ rdNum k acc (l.drop k) = rdNum 0 0 l

theorem pow7 (k : Nat) : (2 : Nat) ^ (7 * k) = 128 ^ k := by rw [Nat.pow_mul]
theorem dig_bits (acc x k : Nat) (hacc : acc < 128 ^ k) (hx : x < 256) (hb : x % 128 * 128 ^ k < 18446744073709551616) (hac : acc < 18446744073709551616) :
    bits BinOp.or IntKind.u64 (acc : Int) (IntKind.u64.wrap (IntKind.u64.wrap (bits BinOp.and IntKind.u8 (x : Int) 127) * 2 ^ (7 * k))) = ((acc + x % 128 * 128 ^ k : Nat) : Int) := by
  have e1 : bits BinOp.and IntKind.u8 (x : Int) 127 = ((x % 128 : Nat) : Int) := by
    have := u8_and_nat x 127 hx (by omega)
    rw [nat_mask7] at this
    exact this
  have e2 : IntKind.u64.wrap ((x % 128 : Nat) : Int) = ((x % 128 : Nat) : Int) := by rw [IntKind.wrap_u64]; omega
  have e3 : ((x % 128 : Nat) : Int) * 2 ^ (7 * k) = ((x % 128 * 128 ^ k : Nat) : Int) := by
    rw [← pow7, Int.natCast_mul, Int.natCast_pow]; rfl
  have e4 : IntKind.u64.wrap ((x % 128 * 128 ^ k : Nat) : Int) = ((x % 128 * 128 ^ k : Nat) : Int) := by rw [IntKind.wrap_u64]; omega
  rw [e1, e2, e3, e4, u64_or_nat _ _ hac hb, Nat.or_comm, nat_join (7 * k) _ _ (by rw [pow7]; exact Nat.mul_mod_left _ _) (by rw [pow7]; exact hacc), Nat.add_comm]
theorem pow128_le {k : Nat} (h : k ≤ 9) : 128 ^ k ≤ 9223372036854775808 := Nat.le_trans (Nat.pow_le_pow_right (by omega) h) (by decide)
theorem pow128_le8 {k : Nat} (h : k ≤ 8) : 128 ^ k ≤ 72057594037927936 := Nat.le_trans (Nat.pow_le_pow_right (by omega) h) (by decide)

theorem drop_at {l : List UInt8} {k : Nat} {x : UInt8} (h : l[k]? = some x) : l.drop k = x :: l.drop (k + 1) := by
  obtain ⟨h1, h2⟩ := List.getElem?_eq_some_iff.1 h
  rw [List.drop_eq_getElem_cons h1, h2]
theorem rdNum_more {k acc : Nat} {x : UInt8} {r : List UInt8} (hb : 128 ≤ x.toNat) (hk : k ≤ 8) : rdNum k acc (x :: r) = rdNum (k + 1) (acc + x.toNat % 128 * 128 ^ k) r := by
  rw [rdNum, if_neg (by omega), if_neg (by omega)]
theorem rdNum_bad {k acc : Nat} {x : UInt8} {r : List UInt8} (h : (k = 9 ∧ 1 < x.toNat) ∨ (0 < k ∧ x.toNat = 0)) : rdNum k acc (x :: r) = (0, [], 2) := by rw [rdNum, if_pos h]
theorem rdNum_last {k acc : Nat} {x : UInt8} {r : List UInt8} (h : ¬ ((k = 9 ∧ 1 < x.toNat) ∨ (0 < k ∧ x.toNat = 0))) (hb : x.toNat < 128) : rdNum k acc (x :: r) = (acc + x.toNat * 128 ^ k, r, 0) := by
  rw [rdNum, if_neg h, if_pos hb]
/-- One digit more. -/
theorem NumAt.step {l : List UInt8} {k acc : Nat} {x : UInt8} (hx : l[k]? = some x) (hb : 128 ≤ x.toNat) (hk : k ≤ 8) (hacc : acc < 128 ^ k) (hr : rdNum k acc (l.drop k) = rdNum 0 0 l) :
    NumAt l (k + 1) (acc + x.toNat % 128 * 128 ^ k) := by
  have hl : k < l.length := (List.getElem?_eq_some_iff.1 hx).1
  refine ⟨by omega, by omega, ?_, by rw [← hr, drop_at hx, rdNum_more hb hk]⟩
  have h1 : x.toNat % 128 ≤ 127 := by omega
  have h2 := Nat.mul_le_mul_right (128 ^ k) h1
  rw [Nat.pow_succ]
  omega

/-- The bytes from the k-th on. -/
theorem RdV.cut {w : World} {F : Nat → Prop} {a b o cap k : Nat} {l : List UInt8} {e : Int} (h : RdV w F a (.slice (some ⟨b, o, none⟩) l.length cap) l e) (hk : k ≤ l.length) :
    RdPost w (w.setCell ⟨a, 0, none⟩ (.slice (some ⟨b, o + k, none⟩) (l.length - k) (cap - k))) F a (l.drop k) e := by
  refine h.set ?_
  obtain ⟨A, c, hv, h1, h2, h3⟩ := h.bs
  injection hv with e1 e2 e3
  subst e1; subst e3
  refine ⟨_, _, by rw [List.length_drop], by rw [List.length_drop]; omega, by omega, fun h0 => ?_⟩
  rw [List.length_drop] at h0
  obtain ⟨b', o', hA, hF, hx⟩ := h3 (by omega)
  injection hA with hA
  injection hA with hb ho
  subst hb; subst ho
  refine ⟨b, o + k, rfl, hF, fun i x hi => ?_⟩
  rw [List.getElem?_drop] at hi
  rw [Nat.add_assoc]
  exact hx _ x hi
theorem RdV.over {w : World} {F : Nat → Prop} {a k c : Nat} {v : Value} {A : Option Addr} {l : List UInt8} {e : Int} (h : RdV w F a v l e) (hk : l.length ≤ k) (hc : c ≤ maxLen) :
    RdPost w (w.setCell ⟨a, 0, none⟩ (.slice A (l.length - k) c)) F a (l.drop k) e :=
  h.set ⟨A, c, by rw [List.length_drop], by rw [List.length_drop]; omega, hc, fun h0 => by rw [List.length_drop] at h0; omega⟩

set_option maxHeartbeats 400000 in
set_option maxRecDepth 100000 in
theorem rnum_any_ok (a : Nat) (F : Nat → Prop) (l : List UInt8) (w : World) (h : Rd w F a l 0) :
    Calls Try.prog 81 #[.pointer (some ⟨a, 0, none⟩)] w fun en w' => en = .returned (.int .u64 (rdNum 0 0 l).1) ∧ RdPost w w' F a (rdNum 0 0 l).2.1 (rdNum 0 0 l).2.2 := by
  have h' := h
  obtain ⟨v, hR⟩ := h'
  obtain ⟨c0, c1, f0, f1⟩ := two_cells hR.blk
  obtain ⟨A, cap, hv, hlc, hcm, hcell⟩ := id hR.bs
  subst hv
  unfold maxLen at hcm
  go_enter Try.func81, Try.ntmps81
  go_wp2_with fail
  refine (rerr_any a F l 0 w h).mono ?_
  rintro _ _ ⟨rfl, rfl⟩
  go_wp2_with fail
  go_loop [3, 15] (fun n i => ∃ k acc : Nat, n = .int .u64 acc ∧ i = .int .i64 k ∧ NumAt l k acc) (fun _ i => (l.length - (intOf i).toNat))
  case atStart => exact ⟨0, 0, rfl, rfl, Nat.zero_le _, by omega, by simp, rfl⟩
  case round =>
    obtain ⟨k, acc, rfl, rfl, hk, hk9, hacc, hrd⟩ := hrel
    have HR := Lib.hid hrd
    have HA := Lib.hid hacc
    clear hrd hacc
    by_cases hlt : k < l.length
    · obtain ⟨-, b, o, x, hA, -, hx, hcx⟩ := hR.bs.at_ hlt
      subst hA
      have hx256 := UInt8.toNat_lt x
      have HX := Lib.hid hx
      clear hx hcell
      by_cases h9 : k = 9
      · have hk9' : ((k : Int) == 9) = true := by simp; omega
        have hk9l : 9 ≤ k := by omega
        have hp := pow128_le hk9
        clear h9
        by_cases hbig : 1 < x.toNat
        · have hb1 : (1 : Int) < (x.toNat : Int) := by omega
          clear hp
          have HD : Hid (rdNum 0 0 l = (0, [], 2)) := by show _ = _; rw [← HR.out, drop_at HX.out, rdNum_bad (by omega)]
          go_wp2_with fail
          refine (rfail_any a F l 0 2 w h).mono ?_
          rintro _ w1 ⟨rfl, R⟩
          go_wp2
          go_ret
          rw [HD.out]
          exact ⟨rfl, R⟩
        · have hb1 : (x.toNat : Int) ≤ 1 := by omega
          have hb2 : (x.toNat : Int) < 128 := by omega
          have hk0 : (0 : Int) < (k : Int) := by omega
          by_cases hz : x.toNat = 0
          · have hx0 : ((x.toNat : Int) == 0) = true := by simp; omega
            have hxz : x.toNat ≤ 0 := by omega
            clear hz hp
            have HD : Hid (rdNum 0 0 l = (0, [], 2)) := by show _ = _; rw [← HR.out, drop_at HX.out, rdNum_bad (by omega)]
            go_wp2_with fail
            refine (rfail_any a F l 0 2 w h).mono ?_
            rintro _ w1 ⟨rfl, R⟩
            go_wp2
            go_ret
            rw [HD.out]
            exact ⟨rfl, R⟩
          · have hx0 : ((x.toNat : Int) == 0) = false := by simp; omega
            have hx1 : 1 ≤ x.toNat := by omega
            clear hz
            have HD : Hid (rdNum 0 0 l = (acc + x.toNat * 128 ^ k, l.drop (k + 1), 0)) := by show _ = _; rw [← HR.out, drop_at HX.out, rdNum_last (by omega) (by omega)]
            have E := dig_bits acc x.toNat k HA.out hx256 (by have := Nat.mul_le_mul (show x.toNat % 128 ≤ 1 by omega) hp; omega) (by have := HA.out; omega)
            rw [Nat.mod_eq_of_lt (show x.toNat < 128 by omega)] at E
            have HE := Lib.hid E
            clear E hp
            go_wp2_with fail
            all_goals
              go_ret
              rw [HD.out]
              refine ⟨ret_int HE.out, ?_⟩
              first | exact hR.cut (by omega) | exact hR.over (by omega) (by unfold maxLen; omega)
      · have hk9' : ((k : Int) == 9) = false := by simp; omega
        have hk8 : k ≤ 8 := by omega
        have hp := pow128_le8 hk8
        clear h9
        by_cases hb : x.toNat < 128
        · have hb' : (x.toNat : Int) < 128 := by omega
          by_cases hz : x.toNat = 0
          · have hx0 : ((x.toNat : Int) == 0) = true := by simp; omega
            have hxz : x.toNat ≤ 0 := by omega
            by_cases hk0 : k = 0
            · have hk0' : (k : Int) ≤ 0 := by omega
              clear hz
              have hkz : k ≤ 0 := by omega
              clear hk0
              have HD : Hid (rdNum 0 0 l = (acc + x.toNat * 128 ^ k, l.drop (k + 1), 0)) := by show _ = _; rw [← HR.out, drop_at HX.out, rdNum_last (by omega) (by omega)]
              have E := dig_bits acc x.toNat k HA.out hx256 (by have := Nat.mul_le_mul (show x.toNat % 128 ≤ 127 by omega) hp; omega) (by have := HA.out; omega)
              rw [Nat.mod_eq_of_lt (show x.toNat < 128 by omega)] at E
              have HE := Lib.hid E
              clear E hp
              go_wp2_with fail
              all_goals
                go_ret
                rw [HD.out]
                refine ⟨ret_int HE.out, ?_⟩
                first | exact hR.cut (by omega) | exact hR.over (by omega) (by unfold maxLen; omega)
            · have hk0' : (0 : Int) < (k : Int) := by omega
              clear hz hk0 hp
              have HD : Hid (rdNum 0 0 l = (0, [], 2)) := by show _ = _; rw [← HR.out, drop_at HX.out, rdNum_bad (by omega)]
              go_wp2_with fail
              refine (rfail_any a F l 0 2 w h).mono ?_
              rintro _ w1 ⟨rfl, R⟩
              go_wp2
              go_ret
              rw [HD.out]
              exact ⟨rfl, R⟩
          · have hx0 : ((x.toNat : Int) == 0) = false := by simp; omega
            have hx1 : 1 ≤ x.toNat := by omega
            clear hz
            have HD : Hid (rdNum 0 0 l = (acc + x.toNat * 128 ^ k, l.drop (k + 1), 0)) := by show _ = _; rw [← HR.out, drop_at HX.out, rdNum_last (by omega) (by omega)]
            have E := dig_bits acc x.toNat k HA.out hx256 (by have := Nat.mul_le_mul (show x.toNat % 128 ≤ 127 by omega) hp; omega) (by have := HA.out; omega)
            rw [Nat.mod_eq_of_lt (show x.toNat < 128 by omega)] at E
            have HE := Lib.hid E
            clear E hp
            go_wp2_with fail
            all_goals
              go_ret
              rw [HD.out]
              refine ⟨ret_int HE.out, ?_⟩
              first | exact hR.cut (by omega) | exact hR.over (by omega) (by unfold maxLen; omega)
        · have hb' : (128 : Int) ≤ (x.toNat : Int) := by omega
          have E := dig_bits acc x.toNat k HA.out hx256 (by have := Nat.mul_le_mul (show x.toNat % 128 ≤ 127 by omega) hp; omega) (by have := HA.out; omega)
          have HE := Lib.hid E
          clear E hp
          go_wp2_with fail
          go_round
          case rel => exact ⟨k + 1, _, congrArg (Value.int .u64) HE.out, rfl, NumAt.step HX.out (by omega) hk8 HA.out HR.out⟩
          case measure => simp [intOf]; omega
    · have HD : Hid (rdNum 0 0 l = (0, [], 3)) := by show _ = _; rw [← HR.out, List.drop_eq_nil_of_le (by omega)]; rfl
      go_wp2_with fail
      refine (rfail_any a F l 0 3 w h).mono ?_
      rintro _ w1 ⟨rfl, R⟩
      go_wp2
      go_ret
      rw [HD.out]
      exact ⟨rfl, R⟩
end Go.Proofs.Ytdkankiohoocaaa
/- The walks of code.Reader's Num (at any error), Int, Text. -/
namespace Go.Proofs.Ytdkankiohoocaaa
set_option linter.unusedSimpArgs false
set_option linter.unusedVariables false
open Go Go.RowKit Go.Proofs

theorem rdNum_le (l : List UInt8) : ∀ k acc, acc < 128 ^ k → k ≤ 9 → (rdNum k acc l).1 < 18446744073709551616 := by
  induction l with
  | nil => intro k acc _ _; simp [rdNum]
  | cons x r ih =>
    intro k acc ha hk
    have hx := UInt8.toNat_lt x
    by_cases h1 : (k = 9 ∧ 1 < x.toNat) ∨ (0 < k ∧ x.toNat = 0)
    · rw [rdNum_bad h1]; simp
    · by_cases h2 : x.toNat < 128
      · rw [rdNum_last h1 h2]
        show acc + x.toNat * 128 ^ k < 18446744073709551616
        rcases Nat.lt_or_ge 8 k with h8 | h8
        · have hk9 : k = 9 := by omega
          subst hk9
          have := Nat.mul_le_mul (show x.toNat ≤ 1 by omega) (Nat.le_refl (128 ^ 9))
          have e : 128 ^ 9 = 9223372036854775808 := by decide
          omega
        · have hp := pow128_le8 h8
          have := Nat.mul_le_mul (show x.toNat ≤ 127 by omega) hp
          omega
      · have h8 : k ≤ 8 := by omega
        rw [rdNum_more (by omega) h8]
        refine ih (k + 1) _ ?_ (by omega)
        have := Nat.mul_le_mul_right (128 ^ k) (show x.toNat % 128 ≤ 127 by omega)
        rw [Nat.pow_succ]; omega
theorem readNum_le (l : List UInt8) (e : Int) : (readNum l e).1 < 18446744073709551616 := by
  unfold readNum
  split
  · exact rdNum_le l 0 0 (by simp) (by omega)
  · simp
theorem rdNum_len (l : List UInt8) : ∀ k acc, (rdNum k acc l).2.1.length ≤ l.length := by
  induction l with
  | nil => intro k acc; simp [rdNum]
  | cons x r ih =>
    intro k acc
    rw [rdNum]
    split
    · simp
    · split
      · simp
      · have := ih (k + 1) (acc + x.toNat % 128 * 128 ^ k); simp; omega
theorem readNum_len (l : List UInt8) (e : Int) : (readNum l e).2.1.length ≤ l.length := by
  unfold readNum
  split
  · exact rdNum_len l 0 0
  · simp

set_option maxHeartbeats 400000 in
theorem rnum_any' (a : Nat) (F : Nat → Prop) (l : List UInt8) (e : Int) (w : World) (h : Rd w F a l e) :
    Calls Try.prog 81 #[.pointer (some ⟨a, 0, none⟩)] w fun en w' => en = .returned (.int .u64 (readNum l e).1) ∧ RdPost w w' F a (readNum l e).2.1 (readNum l e).2.2 := by
  by_cases he : e = 0
  · subst he
    exact rnum_any_ok a F l w h
  · have HD : Hid (readNum l e = (0, l, e)) := by show _ = _; unfold readNum; rw [if_neg he]
    have he' : (e != 0) = true := by simp; exact he
    clear he
    go_enter Try.func81, Try.ntmps81
    go_wp2_with fail
    refine (rerr_any a F l e w h).mono ?_
    rintro _ _ ⟨rfl, rfl⟩
    go_wp2_with fail
    go_ret
    rw [HD.out]
    exact ⟨rfl, RdPost.refl h⟩

theorem i64_xor_zero (n : Nat) (h : n < 9223372036854775808) : bits BinOp.xor IntKind.i64 (n : Int) 0 = (n : Int) := by
  show IntKind.i64.wrap ((BitVec.ofInt 64 (n : Int) ^^^ BitVec.ofInt 64 0).toNat : Int) = _
  have e : BitVec.ofInt 64 0 = 0#64 := by decide
  rw [e, BitVec.xor_zero, ofInt_u64 n (by omega), IntKind.wrap_i64]
  omega
theorem i64_xor_ones (n : Nat) (h : n < 9223372036854775808) : bits BinOp.xor IntKind.i64 (n : Int) (-1) = -(n : Int) - 1 := by
  show IntKind.i64.wrap ((BitVec.ofInt 64 (n : Int) ^^^ BitVec.ofInt 64 (-1)).toNat : Int) = _
  have e : BitVec.ofInt 64 (-1) = BitVec.allOnes 64 := by decide
  rw [e, BitVec.toNat_xor, ofInt_u64 n (by omega), BitVec.toNat_allOnes]
  have e2 : n ^^^ (2 ^ 64 - 1) = 18446744073709551615 - n := nat_xor_ones n (by omega)
  rw [e2, IntKind.wrap_i64]
  omega
theorem unzig_bits (n : Nat) (h : n < 18446744073709551616) : bits BinOp.xor IntKind.i64 ((n : Int) / 2) (wrap64 (-wrap64 (bits BinOp.and IntKind.u64 (n : Int) 1))) = unzig n := by
  have e1 : bits BinOp.and IntKind.u64 (n : Int) 1 = ((n % 2 : Nat) : Int) := by
    have := u64_and_nat n 1 h (by omega)
    rw [nat_mask1] at this
    exact this
  have e2 : (n : Int) / 2 = ((n / 2 : Nat) : Int) := by omega
  rw [e1, e2]
  unfold unzig
  by_cases ho : n % 2 = 1
  · have e3 : wrap64 (-wrap64 ((n % 2 : Nat) : Int)) = -1 := by rw [ho]; decide +kernel
    rw [e3, if_pos ho, i64_xor_ones _ (by omega)]
  · have e3 : wrap64 (-wrap64 ((n % 2 : Nat) : Int)) = 0 := by rw [show n % 2 = 0 by omega]; decide +kernel
    rw [e3, if_neg ho, i64_xor_zero _ (by omega)]

set_option maxHeartbeats 400000 in
theorem rint_any' (a : Nat) (F : Nat → Prop) (l : List UInt8) (e : Int) (w : World) (h : Rd w F a l e) :
    Calls Try.prog 78 #[.pointer (some ⟨a, 0, none⟩)] w fun en w' => en = .returned (.int .i64 (readInt l e).1) ∧ RdPost w w' F a (readInt l e).2.1 (readInt l e).2.2 := by
  have hle := readNum_le l e
  go_enter Try.func78, Try.ntmps78
  go_wp2_with fail
  refine (rnum_any' a F l e w h).mono ?_
  rintro _ w1 ⟨rfl, R⟩
  have HU := Lib.hid (unzig_bits (readNum l e).1 hle)
  go_wp2
  go_ret
  exact ⟨ret_int HU.out, R⟩

theorem RdV.take {w : World} {F : Nat → Prop} {a : Nat} {v : Value} {l : List UInt8} {e : Int} {A : Option Addr} {n c k : Nat} (h : RdV w F a v l e) (hv : v = .slice A n c) (hk : k ≤ l.length) :
    Bs w (fun k => F k ∧ k ≠ a) (.slice A k c) (l.take k) := by
  obtain ⟨A', c', hv', h1, h2, h3⟩ := h.bs
  rw [hv'] at hv
  injection hv with e1 e2 e3
  subst e1; subst e3
  have hl : (l.take k).length = k := by rw [List.length_take]; omega
  refine ⟨_, _, by rw [hl], by omega, h2, fun h0 => ?_⟩
  obtain ⟨b, o, hA, hF, hx⟩ := h3 (by omega)
  refine ⟨b, o, hA, hF, fun i x hi => hx i x ?_⟩
  rw [List.getElem?_take] at hi
  split at hi
  · exact hi
  · cases hi

theorem addr_add (b o k : Nat) : (⟨b, o, none⟩ : Addr).add k = ⟨b, o + k, none⟩ := by unfold Addr.add; split <;> simp_all
theorem RdV.cutm {w : World} {F : Nat → Prop} {a cap k : Nat} {A : Option Addr} {l : List UInt8} {e : Int} (h : RdV w F a (.slice A l.length cap) l e) (hk : k ≤ l.length) :
    RdPost w (w.setCell ⟨a, 0, none⟩ (.slice (Option.map (fun x => x.add k) A) (l.length - k) (cap - k))) F a (l.drop k) e := by
  refine h.set ?_
  obtain ⟨A', c, hv, h1, h2, h3⟩ := h.bs
  injection hv with e1 e2 e3
  subst e1; subst e3
  refine ⟨_, _, by rw [List.length_drop], by rw [List.length_drop]; omega, by omega, fun h0 => ?_⟩
  rw [List.length_drop] at h0
  obtain ⟨b', o', hA, hF, hx⟩ := h3 (by omega)
  subst hA
  refine ⟨b', o' + k, by rw [← addr_add]; rfl, hF, fun i x hi => ?_⟩
  rw [List.getElem?_drop] at hi
  rw [Nat.add_assoc]
  exact hx _ x hi

set_option maxHeartbeats 800000 in
set_option maxRecDepth 100000 in
theorem rtext_any' (a : Nat) (F : Nat → Prop) (l : List UInt8) (e most : Int) (w : World) (h : Rd w F a l e) (hl : l.length ≤ 140737488355328) (hm0 : -9223372036854775808 ≤ most) (hm1 : most ≤ 9223372036854775807) :
    Calls Try.prog 79 #[.pointer (some ⟨a, 0, none⟩), .int .i64 most] w fun en w' => en = .returned (.string ⟨(readText l e most).1.toArray⟩) ∧ RdPost w w' F a (readText l e most).2.1 (readText l e most).2.2 := by
  have hle := readNum_le l e
  have hll := readNum_len l e
  have hT : readText l e most = rdText most (readNum l e) := rfl
  have HC := rnum_any' a F l e w h
  generalize readNum l e = q at *
  obtain ⟨n, l1, e1⟩ := q
  simp only at hle hll HC
  have hl1 : l1.length ≤ 140737488355328 := by omega
  by_cases he : e1 = 0
  · subst he
    by_cases hn : most.toNat < n
    · have HD : Hid (readText l e most = ([], [], 2)) := by show _ = _; rw [hT]; unfold rdText; simp [hn]
      have hn' : most < (n : Int) := by omega
      have hn0 : (0 : Int) < (n : Int) := by omega
      clear hT
      have HC' := Lib.hid HC
      clear HC
      go_enter Try.func79, Try.ntmps79
      go_wp2_with fail
      refine HC'.out.mono ?_
      rintro _ w1 ⟨rfl, hR1, hchg⟩
      go_wp2_with fail
      refine (rerr_any a F l1 0 w1 hR1).mono ?_
      rintro _ _ ⟨rfl, rfl⟩
      go_wp2_with fail
      all_goals
        refine (rfail_any a F l1 0 2 w1 hR1).mono ?_
        rintro _ w2 ⟨rfl, R⟩
        go_wp2
        go_ret
        rw [HD.out]
        exact ⟨rfl, R.trans hchg⟩
    · have hn' : 0 ≤ most → (n : Int) ≤ most := by omega
      have hn0 : most < 0 → (n : Int) ≤ 0 := by omega
      by_cases hn2 : l1.length < n
      · have HD : Hid (readText l e most = ([], [], 3)) := by show _ = _; rw [hT]; unfold rdText; simp [hn, hn2]
        have hn3 : (l1.length : Int) < (n : Int) := by omega
        clear hT
        have HC' := Lib.hid HC
        clear HC
        go_enter Try.func79, Try.ntmps79
        go_wp2_with fail
        refine HC'.out.mono ?_
        rintro _ w1 ⟨rfl, hR1, hchg⟩
        go_wp2_with fail
        refine (rerr_any a F l1 0 w1 hR1).mono ?_
        rintro _ _ ⟨rfl, rfl⟩
        obtain ⟨v1, hV1⟩ := id hR1
        obtain ⟨c0, c1, f0, f1⟩ := two_cells hV1.blk
        obtain ⟨A, cap, hv, -, -, -⟩ := id hV1.bs
        subst hv
        go_wp2_with fail
        all_goals
          refine (rfail_any a F l1 0 3 w1 hR1).mono ?_
          rintro _ w2 ⟨rfl, R⟩
          go_wp2
          go_ret
          rw [HD.out]
          exact ⟨rfl, R.trans hchg⟩
      · have HD : Hid (readText l e most = (l1.take n, l1.drop n, 0)) := by show _ = _; rw [hT]; unfold rdText; simp [hn, hn2]
        have hn3 : (n : Int) ≤ (l1.length : Int) := by omega
        have hn4 : n ≤ l1.length := by omega
        clear hT hn hn2
        have HC' := Lib.hid HC
        clear HC
        go_enter Try.func79, Try.ntmps79
        go_wp2_with fail
        refine HC'.out.mono ?_
        rintro _ w1 ⟨rfl, hR1, hchg⟩
        go_wp2_with fail
        refine (rerr_any a F l1 0 w1 hR1).mono ?_
        rintro _ _ ⟨rfl, rfl⟩
        obtain ⟨v1, hV1⟩ := id hR1
        obtain ⟨c0, c1, f0, f1⟩ := two_cells hV1.blk
        obtain ⟨A, cap, hv, hlc, hcm, -⟩ := id hV1.bs
        have HB := Lib.hid (hV1.take (k := n) hv hn4)
        subst hv
        unfold maxLen at hcm
        go_wp2_with (refine wl_toS rfl _ rfl _ _ _ rfl HB.out ?_)
        all_goals
          go_ret
          rw [HD.out]
          refine ⟨rfl, RdPost.trans hchg ?_⟩
          first | exact hV1.cutm hn4 | exact hV1.over (by omega) (by unfold maxLen; omega)
  · have HD : Hid (readText l e most = ([], l1, e1)) := by show _ = _; rw [hT]; unfold rdText; simp [he]
    have he' : (e1 != 0) = true := by simp; exact he
    clear hT he
    have HC' := Lib.hid HC
    clear HC
    go_enter Try.func79, Try.ntmps79
    go_wp2_with fail
    refine HC'.out.mono ?_
    rintro _ w1 ⟨rfl, hR1, hchg⟩
    go_wp2_with fail
    refine (rerr_any a F l1 e1 w1 hR1).mono ?_
    rintro _ _ ⟨rfl, rfl⟩
    go_wp2
    go_ret
    rw [HD.out]
    exact ⟨rfl, hR1, hchg⟩
end Go.Proofs.Ytdkankiohoocaaa
