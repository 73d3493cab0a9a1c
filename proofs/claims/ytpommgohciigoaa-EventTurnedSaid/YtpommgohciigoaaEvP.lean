/- The walks of carrierref09's num and Decode. -/
import Derived.Test.YtpommgohciigoaaEvD
namespace Go.Proofs.Ytpommgohciigoaa
open Go Go.RowKit Go.Proofs

theorem pnum_is' (A : Option Addr) (c : Nat) (F : Nat → Prop) (l : List UInt8) (e : Int) (w : World) (h : Bs w F (.slice A l.length c) l) (n : Nat) (l1 : List UInt8) (e1 : Int) (hq : readNum l e = (n, l1, e1)) :
    Calls Try.prog 43 #[rdr (.slice A l.length c) e] w fun en w' => ∃ A1 c1, en = .returned (.tuple #[.int .u64 n, rdr (.slice A1 l1.length c1) e1]) ∧ Bs w' F (.slice A1 l1.length c1) l1 ∧ Same w w' :=
  (pnum_is _ F l e w h n l1 e1 hq).mono fun en w' ⟨v', h1, h2, h3⟩ => by
    obtain ⟨A1, c1, hv, -, -, -⟩ := id h2
    subst hv
    exact ⟨A1, c1, h1, h2, h3⟩

/-- What num answers. -/
def PNum (w : World) (F : Nat → Prop) (q : Nat × (List UInt8 × Int)) (en : Ending) (w' : World) : Prop :=
  ∃ A1 c1, en = .returned (.tuple #[.int .u64 q.1, rdr (.slice A1 q.2.1.length c1) q.2.2]) ∧ Bs w' F (.slice A1 q.2.1.length c1) q.2.1 ∧ Same w w'

set_option maxHeartbeats 1600000 in
theorem pstep_any (least most : Nat) (A : Option Addr) (c : Nat) (F : Nat → Prop) (l : List UInt8) (e : Int) (w : World) (h : Bs w F (.slice A l.length c) l) (q : Nat × (List UInt8 × Int)) (hq : Hid (stepNum least most (l, e) = q)) :
    Calls Try.prog 34 #[rdr (.slice A l.length c) e, .int .u64 least, .int .u64 most] w (PNum w F q) := by
  have hle := readNum_le l e
  obtain ⟨n, l1, e1, HQ⟩ : ∃ n l1 e1, Hid (readNum l e = (n, l1, e1)) := ⟨_, _, _, rfl⟩
  rw [HQ.out] at hle
  simp only at hle
  have HD : Hid (q = if e1 = 0 ∧ (n < least ∨ most < n) then (0, [], 2) else (n, l1, e1)) := by
    show _ = _
    rw [← hq.out]; unfold stepNum; simp only; rw [HQ.out]
  clear hq
  have hbo := Lib.hid ((h.old.alloc (.cells #[.slice A l.length c, .int .i64 e] 65)).alloc (.cells #[.slice none 0 0, .int .i64 0] 65))
  by_cases he : e1 = 0
  · subst he
    by_cases h1 : n < least
    · have h1' : (n : Int) < (least : Int) := by omega
      have HF : Hid (q = (0, [], 2)) := by show _ = _; rw [HD.out, if_pos ⟨rfl, .inl h1⟩]
      clear h1 HD
      go_enter Try.func34, Try.ntmps34
      go_wp2_with fail
      refine (pnum_is' _ _ _ l e _ hbo.out n l1 0 HQ.out).mono ?_
      rintro _ w1 ⟨A1, c1, rfl, hb1, hs1⟩
      obtain ⟨-, n2, n3, hsame⟩ := two_new hs1
      obtain ⟨c0, c1', f0, f1⟩ := two_cells n2
      clear n2 hs1
      go_wp2_with fail
      refine bodyPost_ret (v := .tuple #[.int .u64 0, rdr (.slice none 0 0) 2]) (by simp [results, Try.results34, go_sem, rdr, c0, c1', n3]) rfl ?_
      rw [HF.out]
      exact ⟨none, 0, rfl, Bs.nil_ _ _, ((hsame.far (by simp) _).far (by simp) _).alloc _⟩
    · have h1' : (least : Int) ≤ (n : Int) := by omega
      by_cases h2 : most < n
      · have h2' : (most : Int) < (n : Int) := by omega
        have HF : Hid (q = (0, [], 2)) := by show _ = _; rw [HD.out, if_pos ⟨rfl, .inr h2⟩]
        clear h1 h2 HD
        go_enter Try.func34, Try.ntmps34
        go_wp2_with fail
        refine (pnum_is' _ _ _ l e _ hbo.out n l1 0 HQ.out).mono ?_
        rintro _ w1 ⟨A1, c1, rfl, hb1, hs1⟩
        obtain ⟨-, n2, n3, hsame⟩ := two_new hs1
        obtain ⟨c0, c1', f0, f1⟩ := two_cells n2
        clear n2 hs1
        go_wp2_with fail
        refine bodyPost_ret (v := .tuple #[.int .u64 0, rdr (.slice none 0 0) 2]) (by simp [results, Try.results34, go_sem, rdr, c0, c1', n3]) rfl ?_
        rw [HF.out]
        exact ⟨none, 0, rfl, Bs.nil_ _ _, ((hsame.far (by simp) _).far (by simp) _).alloc _⟩
      · have h2' : (n : Int) ≤ (most : Int) := by omega
        have HF : Hid (q = (n, l1, 0)) := by show _ = _; rw [HD.out, if_neg (fun h => by rcases h.2 with h | h <;> omega)]
        clear h1 h2 HD
        go_enter Try.func34, Try.ntmps34
        go_wp2_with fail
        refine (pnum_is' _ _ _ l e _ hbo.out n l1 0 HQ.out).mono ?_
        rintro _ w1 ⟨A1, c1, rfl, hb1, hs1⟩
        obtain ⟨-, n2, n3, hsame⟩ := two_new hs1
        obtain ⟨c0, c1', f0, f1⟩ := two_cells n2
        clear n2 hs1
        go_wp2_with fail
        go_region
        all_goals
          go_wp2_with fail
          refine bodyPost_ret (v := .tuple #[.int .u64 n, rdr (.slice A1 l1.length c1) 0]) (by simp [results, Try.results34, go_sem, rdr, c0, c1', n3]) rfl ?_
          rw [HF.out]
          exact ⟨A1, c1, rfl, Bs.all (Bs.drewN (Bs.alloc ((hb1.far (by simp) _).far (by simp) _) _) 1), (((hsame.far (by simp) _).far (by simp) _).alloc _).drew⟩
  · have he0 : (e1 == 0) = false := by simp [he]
    have HF : Hid (q = (n, l1, e1)) := by show _ = _; rw [HD.out, if_neg (fun h => he h.1)]
    clear he HD
    go_enter Try.func34, Try.ntmps34
    go_wp2_with fail
    refine (pnum_is' _ _ _ l e _ hbo.out n l1 e1 HQ.out).mono ?_
    rintro _ w1 ⟨A1, c1, rfl, hb1, hs1⟩
    obtain ⟨-, n2, n3, hsame⟩ := two_new hs1
    obtain ⟨c0, c1', f0, f1⟩ := two_cells n2
    clear n2 hs1
    go_wp2_with fail
    go_region
    all_goals
      go_wp2_with fail
      refine bodyPost_ret (v := .tuple #[.int .u64 n, rdr (.slice A1 l1.length c1) e1]) (by simp [results, Try.results34, go_sem, rdr, c0, c1', n3]) rfl ?_
      rw [HF.out]
      exact ⟨A1, c1, rfl, Bs.all (Bs.drewN (Bs.alloc ((hb1.far (by simp) _).far (by simp) _) _) 1), (((hsame.far (by simp) _).far (by simp) _).alloc _).drew⟩
end Go.Proofs.Ytpommgohciigoaa
