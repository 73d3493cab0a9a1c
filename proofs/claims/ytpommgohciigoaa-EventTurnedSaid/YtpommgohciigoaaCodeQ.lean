/- The walks of carrierref02's ReadNum (at any error), ReadInt, ReadText, End. -/
import Derived.Test.YtpommgohciigoaaCodeP
namespace Go.Proofs.Ytpommgohciigoaa
open Go Go.RowKit Go.Proofs

set_option maxHeartbeats 400000 in
theorem pnum_any (v : Value) (F : Nat → Prop) (l : List UInt8) (e : Int) (w : World) (h : Bs w F v l) :
    Calls Try.prog 43 #[rdr v e] w fun en w' => ∃ v', en = .returned (.tuple #[.int .u64 (readNum l e).1, rdr v' (readNum l e).2.2]) ∧ Bs w' F v' (readNum l e).2.1 ∧ Same w w' := by
  by_cases he : e = 0
  · subst he
    exact pnum_ok v F l w h
  · have HD : Hid (readNum l e = (0, l, e)) := by show _ = _; unfold readNum; rw [if_neg he]
    have he' : (e != 0) = true := by simp; exact he
    clear he
    obtain ⟨A, cap, hv, -, -, -⟩ := id h
    subst hv
    go_enter Try.func43, Try.ntmps43
    go_wp2_with fail
    go_region
    all_goals
      go_wp2_with fail
      refine bodyPost_ret (v := .tuple #[.int .u64 0, rdr (.slice A l.length cap) e]) (by simp [results, Try.results43, go_sem]) rfl ?_
      rw [HD.out]
      exact ⟨_, rfl, h.same (((Chg.refl _ w).alloc _).alloc _).drew, (((Chg.refl _ w).alloc _).alloc _).drew⟩

/-- The blocks that a call has laid ahead of another one. -/
theorem two_new {w w1 : World} {o1 o2 : Obj} (h : Same ((w.alloc o1).alloc o2) w1) : w1.heap[w.heap.size]? = some o1 ∧ w1.heap[w.heap.size + 1]? = some o2 ∧ w.heap.size + 1 < w1.heap.size ∧ Same w w1 := by
  have h1 : ((w.alloc o1).alloc o2).heap[w.heap.size]? = some o1 := by
    rw [Below.heap_alloc _ _ _ (by simp)]; exact heap_alloc_new w o1
  have h2 : ((w.alloc o1).alloc o2).heap[w.heap.size + 1]? = some o2 := by
    have := heap_alloc_new (w.alloc o1) o2
    simpa using this
  have hs := h.size
  simp at hs
  exact ⟨h.at_ h1 (fun h => h), h.at_ h2 (fun h => h), by omega, ((Chg.refl _ w).alloc _).alloc _ |>.trans h⟩

set_option maxHeartbeats 400000 in
theorem pend_any (v : Value) (F : Nat → Prop) (l : List UInt8) (e : Int) (w : World) (h : Bs w F v l) :
    Calls Try.prog 37 #[rdr v e] w fun en w' => en = .returned (.int .i64 (endErr l e)) ∧ Same w w' := by
  obtain ⟨A, cap, hv, -, -, -⟩ := id h
  subst hv
  by_cases he : e = 0
  · have he0 : (e == 0) = true := by simp [he]
    by_cases hl : 0 < l.length
    · have HE : Hid (endErr l e = 2) := by show _ = _; unfold endErr; rw [if_pos ⟨he, hl⟩]
      have hl0 : (0 : Int) < (l.length : Int) := by omega
      clear he h
      go_enter Try.func37, Try.ntmps37
      go_wp2_with fail
      go_ret
      exact ⟨ret_int HE.out.symm, Chg.alloc_ _ _ _⟩
    · have HE : Hid (endErr l e = e) := by show _ = _; unfold endErr; rw [if_neg (fun h => hl h.2)]
      have hl0 : (l.length : Int) ≤ 0 := by omega
      clear he h
      go_enter Try.func37, Try.ntmps37
      go_wp2_with fail
      go_ret
      exact ⟨ret_int HE.out.symm, Chg.alloc_ _ _ _⟩
  · have he0 : (e == 0) = false := by simp [he]
    have HE : Hid (endErr l e = e) := by show _ = _; unfold endErr; rw [if_neg (fun h => he h.1)]
    clear he h
    go_enter Try.func37, Try.ntmps37
    go_wp2_with fail
    go_ret
    exact ⟨ret_int HE.out.symm, Chg.alloc_ _ _ _⟩

theorem Bs.old {w : World} {F : Nat → Prop} {v : Value} {l : List UInt8} (h : Bs w F v l) : Bs w (fun k => F k ∧ k < w.heap.size) v l := h.mono (fun _ hk hF => ⟨hF, hk⟩)
theorem Bs.all {w : World} {F : Nat → Prop} {v : Value} {l : List UInt8} {B : Nat} (h : Bs w (fun k => F k ∧ k < B) v l) : Bs w F v l := h.mono (fun _ _ hF => hF.1)
theorem Bs.far {w : World} {F : Nat → Prop} {v : Value} {l : List UInt8} {B : Nat} (h : Bs w (fun k => F k ∧ k < B) v l) {p : Addr} (hp : B ≤ p.block) (u : Value) : Bs (w.setCell p u) (fun k => F k ∧ k < B) v l :=
  h.keep (S := fun k => B ≤ k) ((Chg.refl _ w).setCell (fun _ => hp) u) (fun k hk h => by omega)
theorem Bs.alloc {w : World} {F : Nat → Prop} {v : Value} {l : List UInt8} (h : Bs w F v l) (o : Obj) : Bs (w.alloc o) F v l := h.same (Chg.alloc_ _ _ _)
theorem Chg.far {S : Nat → Prop} {w w' : World} (h : Chg S w w') {p : Addr} (hp : w.heap.size ≤ p.block) (u : Value) : Chg S w (w'.setCell p u) := h.setCell (fun h => absurd h (by omega)) u
theorem Bs.takeN {w : World} {F : Nat → Prop} {l : List UInt8} {A : Option Addr} {n c k : Nat} (h : Bs w F (.slice A n c) l) (hk : k ≤ l.length) : Bs w F (.slice A k c) (l.take k) := by
  obtain ⟨A', c', hv', h1, h2, h3⟩ := h
  injection hv' with e1 e2 e3
  subst e1; subst e3
  have hl : (l.take k).length = k := by rw [List.length_take]; omega
  refine ⟨_, _, by rw [hl], by omega, h2, fun h0 => ?_⟩
  obtain ⟨b, o, hA, hF, hx⟩ := h3 (by omega)
  refine ⟨b, o, hA, hF, fun i x hi => hx i x ?_⟩
  rw [List.getElem?_take] at hi
  split at hi
  · exact hi
  · cases hi
theorem Bs.cutm {w : World} {F : Nat → Prop} {cap k : Nat} {A : Option Addr} {l : List UInt8} (h : Bs w F (.slice A l.length cap) l) (hk : k ≤ l.length) :
    Bs w F (.slice (Option.map (fun x => x.add k) A) (l.length - k) (cap - k)) (l.drop k) := by
  obtain ⟨A', c, hv, h1, h2, h3⟩ := h
  injection hv with e1 e2 e3
  subst e1; subst e3
  refine ⟨_, _, by rw [List.length_drop], by rw [List.length_drop]; omega, by omega, fun h0 => ?_⟩
  rw [List.length_drop] at h0
  obtain ⟨b', o', hA, hF, hx⟩ := h3 (by omega)
  subst hA
  refine ⟨b', o' + k, by rw [← addr_add]; rfl, hF, fun i x hi => ?_⟩
  rw [List.getElem?_drop] at hi
  rw [Nat.add_assoc]
  exact hx _ x hi

set_option maxHeartbeats 400000 in
theorem pint_any (v : Value) (F : Nat → Prop) (l : List UInt8) (e : Int) (w : World) (h : Bs w F v l) :
    Calls Try.prog 36 #[rdr v e] w fun en w' => ∃ v', en = .returned (.tuple #[.int .i64 (readInt l e).1, rdr v' (readInt l e).2.2]) ∧ Bs w' F v' (readInt l e).2.1 ∧ Same w w' := by
  obtain ⟨A, cap, hv, -, -, -⟩ := id h
  have hle := readNum_le l e
  have hI : readInt l e = (unzig (readNum l e).1, (readNum l e).2) := rfl
  have HC := fun W hW => pnum_any v (fun k => F k ∧ k < w.heap.size) l e W hW
  generalize readNum l e = q at *
  obtain ⟨n, l1, e1⟩ := q
  simp only at hle hI HC
  subst hv
  have HC' := Lib.hid HC
  clear HC
  by_cases ho : n % 2 = 1
  · have HI : Hid (readInt l e = (-((n : Int) / 2) - 1, l1, e1)) := by show _ = _; rw [hI]; unfold unzig; rw [if_pos ho]; congr 1
    have ho' : ((n : Int) % 2 == 1) = true := by simp; omega
    clear hI
    go_enter Try.func36, Try.ntmps36
    go_wp2_with fail
    refine (HC'.out _ ((h.old.alloc _).alloc _)).mono ?_
    rintro _ w1 ⟨v1, rfl, hb1, hs1⟩
    obtain ⟨n1, n2, n3, hsame⟩ := two_new hs1
    obtain ⟨c0, c1, f0, f1⟩ := two_cells n2
    obtain ⟨A1, cap1, hv1, -, -, -⟩ := id hb1
    subst hv1
    clear n1 n2
    go_wp2_with fail
    go_region
    all_goals
      go_wp2_with fail
      refine bodyPost_ret (v := .tuple #[.int .i64 (-((n : Int) / 2) - 1), rdr (.slice A1 l1.length cap1) e1]) (by simp [results, Try.results36, go_sem, c0, c1, n3]) rfl ?_
      rw [HI.out]
      refine ⟨_, rfl, Bs.all (Bs.drewN (Bs.alloc ((hb1.far (by simp) _).far (by simp) _) _) 1), ((((hsame.far (by simp) _).far (by simp) _).alloc _).drew)⟩
  · have HI : Hid (readInt l e = ((n : Int) / 2, l1, e1)) := by show _ = _; rw [hI]; unfold unzig; rw [if_neg ho]; congr 1
    have ho' : ((n : Int) % 2 == 1) = false := by simp; omega
    clear hI
    go_enter Try.func36, Try.ntmps36
    go_wp2_with fail
    refine (HC'.out _ ((h.old.alloc _).alloc _)).mono ?_
    rintro _ w1 ⟨v1, rfl, hb1, hs1⟩
    obtain ⟨n1, n2, n3, hsame⟩ := two_new hs1
    obtain ⟨c0, c1, f0, f1⟩ := two_cells n2
    obtain ⟨A1, cap1, hv1, -, -, -⟩ := id hb1
    subst hv1
    clear n1 n2
    go_wp2_with fail
    go_region
    all_goals
      go_wp2_with fail
      refine bodyPost_ret (v := .tuple #[.int .i64 ((n : Int) / 2), rdr (.slice A1 l1.length cap1) e1]) (by simp [results, Try.results36, go_sem, c0, c1, n3]) rfl ?_
      rw [HI.out]
      refine ⟨_, rfl, Bs.all (Bs.drewN (Bs.alloc ((hb1.far (by simp) _).far (by simp) _) _) 1), ((((hsame.far (by simp) _).far (by simp) _).alloc _).drew)⟩

set_option maxHeartbeats 800000 in
set_option maxRecDepth 100000 in
theorem ptext_any (v : Value) (F : Nat → Prop) (l : List UInt8) (e most : Int) (w : World) (h : Bs w F v l) (hl : l.length ≤ 140737488355328) (hm0 : -9223372036854775808 ≤ most) (hm1 : most ≤ 9223372036854775807) :
    Calls Try.prog 35 #[rdr v e, .int .i64 most] w fun en w' => ∃ v', en = .returned (.tuple #[.string ⟨(readText l e most).1.toArray⟩, rdr v' (readText l e most).2.2]) ∧ Bs w' F v' (readText l e most).2.1 ∧ Same w w' := by
  obtain ⟨A, cap, hv, -, -, -⟩ := id h
  have hle := readNum_le l e
  have hll := readNum_len l e
  have hT : readText l e most = rdText most (readNum l e) := rfl
  have HC := fun W hW => pnum_any v (fun k => F k ∧ k < w.heap.size) l e W hW
  generalize readNum l e = q at *
  obtain ⟨n, l1, e1⟩ := q
  simp only at hle hll HC
  subst hv
  have HC' := Lib.hid HC
  clear HC
  have hl1 : l1.length ≤ 140737488355328 := by omega
  by_cases he : e1 = 0
  · subst he
    by_cases hn : most.toNat < n
    · have HD : Hid (readText l e most = ([], [], 2)) := by show _ = _; rw [hT]; unfold rdText; simp [hn]
      have hn' : most < (n : Int) := by omega
      have hn0 : (0 : Int) < (n : Int) := by omega
      clear hT hn
      go_enter Try.func35, Try.ntmps35
      go_wp2_with fail
      refine (HC'.out _ ((h.old.alloc _).alloc _)).mono ?_
      rintro _ w1 ⟨v1, rfl, hb1, hs1⟩
      obtain ⟨n1, n2, n3, hsame⟩ := two_new hs1
      obtain ⟨c0, c1, f0, f1⟩ := two_cells n2
      obtain ⟨A1, cap1, hv1, -, -, -⟩ := id hb1
      subst hv1
      clear n1 n2
      by_cases hm : most < 0
      all_goals
        go_wp2_with fail
        refine bodyPost_ret (v := .tuple #[.string ⟨#[]⟩, rdr (.slice none 0 0) 2]) (by simp [results, Try.results35, go_sem, c0, c1, n3]) rfl ?_
        rw [HD.out]
        exact ⟨_, rfl, Bs.nil_ _ _, (((hsame.far (by simp) _).far (by simp) _).alloc _)⟩
    · have hn' : 0 ≤ most → (n : Int) ≤ most := by omega
      have hn0 : most < 0 → (n : Int) ≤ 0 := by omega
      by_cases hn2 : l1.length < n
      · have HD : Hid (readText l e most = ([], [], 3)) := by show _ = _; rw [hT]; unfold rdText; simp [hn, hn2]
        have hn3 : (l1.length : Int) < (n : Int) := by omega
        have hm : 0 ≤ most := by omega
        have hnm : (n : Int) ≤ most := by omega
        clear hT hn hn2
        go_enter Try.func35, Try.ntmps35
        go_wp2_with fail
        refine (HC'.out _ ((h.old.alloc _).alloc _)).mono ?_
        rintro _ w1 ⟨v1, rfl, hb1, hs1⟩
        obtain ⟨n1, n2, n3, hsame⟩ := two_new hs1
        obtain ⟨c0, c1, f0, f1⟩ := two_cells n2
        obtain ⟨A1, cap1, hv1, -, -, -⟩ := id hb1
        subst hv1
        clear n1 n2
        · go_wp2_with fail
          refine bodyPost_ret (v := .tuple #[.string ⟨#[]⟩, rdr (.slice none 0 0) 3]) (by simp [results, Try.results35, go_sem, c0, c1, n3]) rfl ?_
          rw [HD.out]
          exact ⟨_, rfl, Bs.nil_ _ _, (((hsame.far (by simp) _).far (by simp) _).alloc _)⟩
      · have HD : Hid (readText l e most = (l1.take n, l1.drop n, 0)) := by show _ = _; rw [hT]; unfold rdText; simp [hn, hn2]
        have hn3 : (n : Int) ≤ (l1.length : Int) := by omega
        have hn4 : n ≤ l1.length := by omega
        clear hT hn hn2
        go_enter Try.func35, Try.ntmps35
        go_wp2_with fail
        refine (HC'.out _ ((h.old.alloc _).alloc _)).mono ?_
        rintro _ w1 ⟨v1, rfl, hb1, hs1⟩
        obtain ⟨n1, n2, n3, hsame⟩ := two_new hs1
        obtain ⟨c0, c1, f0, f1⟩ := two_cells n2
        obtain ⟨A1, cap1, hv1, hlc, hcm, -⟩ := id hb1
        subst hv1
        unfold maxLen at hcm
        clear n1 n2
        have hcv := run_toS (w1.alloc (.cells #[.slice A1 l1.length cap1, .int .i64 0] 65)).drew _ (.slice A1 n cap1) _ (Bs.drewN ((hb1.takeN hn4).alloc _) 1)
        by_cases hcap : cap1 = n
        · subst hcap
          have hB : Hid (Bs w1 (fun k => F k ∧ k < w.heap.size) (.slice A1 0 0) (l1.drop cap1)) := by
            have h0 : Bs w1 (fun k => F k ∧ k < w.heap.size) (.slice A1 (l1.length - cap1) 0) (l1.drop cap1) := Bs.over (by omega) (Nat.zero_le _)
            rw [show l1.length - cap1 = 0 by omega] at h0
            exact h0
          by_cases hm : most < 0
          all_goals
            go_wp2_with fail
            go_region
            all_goals
              go_wp2_with fail
              refine bodyPost_ret (v := .tuple #[.string ⟨(l1.take cap1).toArray⟩, rdr (.slice A1 0 0) 0]) (by simp [results, Try.results35, go_sem, c0, c1, n3]) rfl ?_
              rw [HD.out]
              exact ⟨_, rfl, Bs.all (Bs.drewN (Bs.alloc ((hB.out.far (by simp) _).far (by simp) _) _) 1), (((hsame.far (by simp) _).far (by simp) _).alloc _).drew⟩
        · have hB := Lib.hid (hb1.cutm hn4)
          by_cases hm : most < 0
          all_goals
            go_wp2_with fail
            go_region
            all_goals
              go_wp2_with fail
              refine bodyPost_ret (v := .tuple #[.string ⟨(l1.take n).toArray⟩, rdr (.slice (Option.map (fun x => x.add n) A1) (l1.length - n) (cap1 - n)) 0]) (by simp [results, Try.results35, go_sem, c0, c1, n3]) rfl ?_
              rw [HD.out]
              exact ⟨_, rfl, Bs.all (Bs.drewN (Bs.alloc ((hB.out.far (by simp) _).far (by simp) _) _) 1), (((hsame.far (by simp) _).far (by simp) _).alloc _).drew⟩
  · have HD : Hid (readText l e most = ([], l1, e1)) := by show _ = _; rw [hT]; unfold rdText; simp [he]
    have he' : (e1 != 0) = true := by simp; exact he
    clear hT he
    go_enter Try.func35, Try.ntmps35
    go_wp2_with fail
    refine (HC'.out _ ((h.old.alloc _).alloc _)).mono ?_
    rintro _ w1 ⟨v1, rfl, hb1, hs1⟩
    obtain ⟨n1, n2, n3, hsame⟩ := two_new hs1
    obtain ⟨c0, c1, f0, f1⟩ := two_cells n2
    obtain ⟨A1, cap1, hv1, -, -, -⟩ := id hb1
    subst hv1
    clear n1 n2
    go_wp2_with fail
    go_region
    all_goals
      go_wp2_with fail
      refine bodyPost_ret (v := .tuple #[.string ⟨#[]⟩, rdr (.slice A1 l1.length cap1) e1]) (by simp [results, Try.results35, go_sem, c0, c1, n3]) rfl ?_
      rw [HD.out]
      exact ⟨_, rfl, Bs.all (Bs.drewN (Bs.alloc ((hb1.far (by simp) _).far (by simp) _) _) 1), (((hsame.far (by simp) _).far (by simp) _).alloc _).drew⟩
end Go.Proofs.Ytpommgohciigoaa
