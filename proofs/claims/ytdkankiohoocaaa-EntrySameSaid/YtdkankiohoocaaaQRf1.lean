/- The walk of carrierref16.num. -/
import Derived.Test.YtdkankiohoocaaaQEnt
import Derived.Test.YtdkankiohoocaaaQApps
namespace Go.Proofs.Ytdkankiohoocaaa
set_option linter.unusedSimpArgs false
set_option linter.unusedVariables false
open Go Go.RowKit Go.Proofs

set_option maxHeartbeats 800000 in
theorem rfnum_any (v : Value) (l : List UInt8) (n : Int) (F : Nat → Prop) (w : World) (h : Bs w F v l) (hn : wholeI n) (hl : l.length ≤ 1099511620000) :
    Calls Try.prog 42 #[v, .int .i64 n] w fun en w' => ∃ v', en = .returned v' ∧ Fresh w w' v' (l ++ numB n.toNat) := by
  obtain ⟨A, cap, hv, -, -, -⟩ := id h
  subst hv
  have h0 : 0 ≤ n := hn.1
  have h1 : n ≤ 9223372036854775807 := hn.2
  have hwr : IntKind.u64.wrap n = n := by rw [IntKind.wrap_u64]; omega
  have hb := numB_len10 (n := n) (by omega)
  go_enter Try.func42, Try.ntmps42
  go_wp2_with fail
  refine (rnum_any n h0 (by omega) w).mono ?_
  rintro _ w1 ⟨v1, rfl, R1⟩
  obtain ⟨A1, cp1, hv1⟩ := R1.form
  subst hv1
  go_wp2_with fail
  refine (join_any _ _ l (numB n.toNat) F _ w1 (h.same R1.2) R1.bs (by omega)).mono ?_
  rintro _ w2 ⟨v2, rfl, R2⟩
  go_wp2_with fail
  go_ret
  exact ⟨_, rfl, fresh_since R1.2 R2⟩
end Go.Proofs.Ytdkankiohoocaaa
/- The walks of carrierref16's get and whole. -/
namespace Go.Proofs.Ytdkankiohoocaaa
set_option linter.unusedSimpArgs false
set_option linter.unusedVariables false
open Go Go.RowKit Go.Proofs

/-- What get answers. -/
def GNum (w : World) (F : Nat → Prop) (q : Nat × (List UInt8 × Int)) (en : Ending) (w' : World) : Prop :=
  ∃ A1 c1, en = .returned (.tuple #[.int .i64 q.1, rdr (.slice A1 q.2.1.length c1) q.2.2]) ∧ Bs w' F (.slice A1 q.2.1.length c1) q.2.1 ∧ Same w w'
theorem readNum_none {l : List UInt8} {e : Int} (h : (readNum l e).2.2 ≠ 0) : (readNum l e).1 = 0 := by
  unfold readNum at h ⊢
  split
  · rename_i he; rw [if_pos he] at h; exact (rdNum_em _ _ _ h).2
  · rfl

set_option maxHeartbeats 1600000 in
theorem rget_any (most : Nat) (hm : most ≤ 9223372036854775807) (A : Option Addr) (c : Nat) (F : Nat → Prop) (l : List UInt8) (e : Int) (w : World) (h : Bs w F (.slice A l.length c) l) (q : Nat × (List UInt8 × Int)) (hq : Hid (stepNum 0 most (l, e) = q)) :
    Calls Try.prog 51 #[rdr (.slice A l.length c) e, .int .u64 most] w (GNum w F q) := by
  have hle := readNum_le l e
  have hnn := readNum_none (l := l) (e := e)
  obtain ⟨n, l1, e1, HQ⟩ : ∃ n l1 e1, Hid (readNum l e = (n, l1, e1)) := ⟨_, _, _, rfl⟩
  rw [HQ.out] at hle hnn
  simp only at hle hnn
  have HD : Hid (q = if e1 = 0 ∧ most < n then (0, [], 2) else (n, l1, e1)) := by
    show _ = _
    rw [← hq.out]; unfold stepNum; simp only; rw [HQ.out]; simp
  clear hq
  have hbo := Lib.hid ((h.old.alloc (.cells #[.slice A l.length c, .int .i64 e] 107)).alloc (.cells #[.slice none 0 0, .int .i64 0] 107))
  by_cases he : e1 = 0
  · subst he
    by_cases h2 : most < n
    · have h2' : (most : Int) < (n : Int) := by omega
      have HF : Hid (q = (0, [], 2)) := by show _ = _; rw [HD.out, if_pos ⟨rfl, h2⟩]
      clear h2 HD hnn
      go_enter Try.func51, Try.ntmps51
      go_wp2_with fail
      refine (pnum_is' _ _ _ l e _ hbo.out n l1 0 HQ.out).mono ?_
      rintro _ w1 ⟨A1, c1, rfl, hb1, hs1⟩
      obtain ⟨-, n2, n3, hsame⟩ := two_new hs1
      obtain ⟨c0, c1', f0, f1⟩ := two_cells n2
      clear n2 hs1
      go_wp2_with fail
      refine bodyPost_ret (v := .tuple #[.int .i64 0, rdr (.slice none 0 0) 2]) (by simp [results, Try.results51, go_sem, rdr, c0, c1', n3]) rfl ?_
      rw [HF.out]
      exact ⟨none, 0, rfl, Bs.nil_ _ _, ((hsame.far (by simp) _).far (by simp) _).alloc _⟩
    · have h2' : (n : Int) ≤ (most : Int) := by omega
      have hw : wrap64 (n : Int) = n := by unfold wrap64; omega
      have HF : Hid (q = (n, l1, 0)) := by show _ = _; rw [HD.out, if_neg (fun h => h2 h.2)]
      clear h2 HD hnn
      go_enter Try.func51, Try.ntmps51
      go_wp2_with fail
      refine (pnum_is' _ _ _ l e _ hbo.out n l1 0 HQ.out).mono ?_
      rintro _ w1 ⟨A1, c1, rfl, hb1, hs1⟩
      obtain ⟨-, n2, n3, hsame⟩ := two_new hs1
      obtain ⟨c0, c1', f0, f1⟩ := two_cells n2
      clear n2 hs1
      go_wp2_with fail
      go_region
      all_goals
        go_wp2_with fail
        refine bodyPost_ret (v := .tuple #[.int .i64 n, rdr (.slice A1 l1.length c1) 0]) (by simp [results, Try.results51, go_sem, rdr, c0, c1', n3, hw]) rfl ?_
        rw [HF.out]
        exact ⟨A1, c1, rfl, Bs.all (Bs.drewN (Bs.alloc ((hb1.far (by simp) _).far (by simp) _) _) 1), (((hsame.far (by simp) _).far (by simp) _).alloc _).drew⟩
  · have he0 : (e1 == 0) = false := by simp [he]
    have HF : Hid (q = (n, l1, e1)) := by show _ = _; rw [HD.out, if_neg (fun h => he h.1)]
    have hn0 := hnn he
    subst hn0
    clear he HD hnn
    go_enter Try.func51, Try.ntmps51
    go_wp2_with fail
    refine (pnum_is' _ _ _ l e _ hbo.out 0 l1 e1 HQ.out).mono ?_
    rintro _ w1 ⟨A1, c1, rfl, hb1, hs1⟩
    obtain ⟨-, n2, n3, hsame⟩ := two_new hs1
    obtain ⟨c0, c1', f0, f1⟩ := two_cells n2
    clear n2 hs1
    go_wp2_with fail
    go_region
    all_goals
      go_wp2_with fail
      refine bodyPost_ret (v := .tuple #[.int .i64 0, rdr (.slice A1 l1.length c1) e1]) (by simp [results, Try.results51, go_sem, rdr, c0, c1', n3]) rfl ?_
      rw [HF.out]
      exact ⟨A1, c1, rfl, Bs.all (Bs.drewN (Bs.alloc ((hb1.far (by simp) _).far (by simp) _) _) 1), (((hsame.far (by simp) _).far (by simp) _).alloc _).drew⟩

set_option maxHeartbeats 1600000 in
theorem rwhole_any (A : Option Addr) (c : Nat) (F : Nat → Prop) (l : List UInt8) (e : Int) (w : World) (h : Bs w F (.slice A l.length c) l) (q : Nat × (List UInt8 × Int)) (hq : Hid (wholeN (l, e) = q)) :
    Calls Try.prog 47 #[rdr (.slice A l.length c) e] w (GNum w F q) := by
  have hbo := Lib.hid ((h.old.alloc (.cells #[.slice A l.length c, .int .i64 e] 107)).alloc (.cells #[.slice none 0 0, .int .i64 0] 107))
  go_enter Try.func47, Try.ntmps47
  go_wp2_with fail
  refine (rget_any 9223372036854775807 (by omega) _ _ _ l e _ hbo.out q hq).mono ?_
  rintro _ w1 ⟨A1, c1, rfl, hb1, hs1⟩
  obtain ⟨-, n2, n3, hsame⟩ := two_new hs1
  obtain ⟨c0, c1', f0, f1⟩ := two_cells n2
  clear n2 hs1
  go_wp2_with fail
  refine bodyPost_ret (v := .tuple #[.int .i64 q.1, rdr (.slice A1 q.2.1.length c1) q.2.2]) (by simp [results, Try.results47, go_sem, rdr, c0, c1', n3]) rfl ?_
  exact ⟨A1, c1, rfl, Bs.all ((hb1.far (by simp) _).far (by simp) _), (hsame.far (by simp) _).far (by simp) _⟩
end Go.Proofs.Ytdkankiohoocaaa
