/- The walk of carrierref16.getOps. -/
import Derived.Test.YtdkankiohoocaaaQRfH
namespace Go.Proofs.Ytdkankiohoocaaa
set_option linter.unusedSimpArgs false
set_option linter.unusedVariables false
open Go Go.RowKit Go.Proofs

theorem info_rop : (Try.prog.info? 72).map (fun i => (i.zero, i.size, i.bytes)) = some (some (.agg #[.int .i64 0, .bool false, .int .i64 0, .string ⟨#[]⟩]), 4, 40) := by kernel_rfl
theorem info_rpl : (Try.prog.info? 76).map (fun i => (i.zero, i.size, i.bytes)) = some (some (.agg #[.int .i64 0, .int .i64 0, .int .i64 0, .string ⟨#[]⟩, .int .i64 0, .int .i64 0, .int .u8 0, .int .i64 0, .string ⟨#[]⟩]), 9, 88) := by kernel_rfl

/-- What getOps and getEvents answer. -/
def GetPost {α : Type} (k : Nat) (cells : α → List Value) (w : World) (F : Nat → Prop) (y : List α × St) (en : Ending) (w' : World) : Prop :=
  ∃ A1 n1 c1 xs A2 c2, en = .returned (.tuple #[.slice A1 n1 c1, rdr (.slice A2 y.2.1.length c2) y.2.2]) ∧ Bs w' F (.slice A2 y.2.1.length c2) y.2.1 ∧ Sl w' (fun b => w.heap.size ≤ b) k (.slice A1 n1 c1) (xs.map cells) ∧ (y.2.2 = 0 → xs = y.1) ∧ Same w w' ∧ xs.length ≤ 255
abbrev rd0 : Array Value := #[.slice none 0 0, .int .i64 0]
/-- The variables of getOps, getEvents: the boxed parameter, the result, the reader. -/
theorem LH.start {w w1 : World} {F : Nat → Prop} {A A1 : Option Addr} {c c1 : Nat} {l : List UInt8} {e : Int} {st : St} {te : TypeId} {k : Nat}
    (hb : Bs w1 (fun k => F k ∧ k < w.heap.size) (.slice A1 st.1.length c1) st.1) (hs : Same ((w.alloc (.cells #[.slice A l.length c, .int .i64 e] 107)).alloc (.cells rd0 107)) w1) (hl : st.1.length ≤ 140737488355328) :
    LH w (w1.alloc (.cells #[.slice A1 st.1.length c1, .int .i64 st.2] 107)) F w1.heap.size (w.heap.size + 1) rd0 107 A1 c1 st te k (.slice none 0 0) [] := by
  obtain ⟨b1, b2, b3, b4⟩ := two_new hs
  have hc := Chg.alloc_ (fun _ => False) w1 (.cells #[.slice A1 st.1.length c1, .int .i64 st.2] 107)
  exact ⟨heap_alloc_new w1 _, hb.same hc, ⟨hc.at_ b2 (fun h => h), World.ownsRow_nil _ _ _ _, fun g hg => by simp [Value.ownBlock] at hg, by omega⟩, b4.trans hc, by omega, hl⟩

theorem LH.fin {w0 w : World} {F : Nat → Prop} {b R c k : Nat} {rx : Array Value} {RT e : TypeId} {A : Option Addr} {st : St} {v : Value} {xs : List (List Value)} (h : LH w0 w F b R rx RT A c st e k v xs) (hk : 0 < k) (hl : ∀ x ∈ xs, x.length = k) (u0 u1 : Value) :
    Bs ((w.setCell ⟨R, 0, none⟩ u0).setCell ⟨R, 1, none⟩ u1).drew F (.slice A st.1.length c) st.1 ∧ Sl ((w.setCell ⟨R, 0, none⟩ u0).setCell ⟨R, 1, none⟩ u1).drew (fun b => w0.heap.size ≤ b) k v xs ∧ Same w0 ((w.setCell ⟨R, 0, none⟩ u0).setCell ⟨R, 1, none⟩ u1).drew := by
  have hc : Chg (fun k => k = R) w ((w.setCell ⟨R, 0, none⟩ u0).setCell ⟨R, 1, none⟩ u1).drew :=
    (Chg.setCell (S := fun k => k = R) (Chg.setCell (S := fun k => k = R) (Chg.refl _ w) (p := ⟨R, 0, none⟩) (fun _ => rfl) _) (p := ⟨R, 1, none⟩) (fun _ => rfl) _).drew
  have hR := h.pr.old.1
  have hs : Sl w (fun g => v.ownBlock = some g) k v xs := Sl.of_own hk h.pr.own rfl hl (fun g hg => hg)
  exact ⟨Bs.all (h.bs.keep hc (fun k hk e => by omega)), (hs.keep hc (fun g hg e => (h.pr.row g hg).2.2 e)).mono (fun x hx => by rw [hl x hx]; exact hk) (fun g _ hg => (h.pr.row g hg).1), h.same.since hc (fun k hk => by omega)⟩

set_option maxHeartbeats 3200000 in
set_option maxRecDepth 100000 in
theorem rgetOps_any (A : Option Addr) (c : Nat) (F : Nat → Prop) (l : List UInt8) (e : Int) (w : World) (h : Bs w F (.slice A l.length c) l) (hl : l.length ≤ 140737488355328) (y : List OpD × St) (hy : Hid (getOps (l, e) = y)) :
    Calls Try.prog 48 #[rdr (.slice A l.length c) e] w (GetPost 4 opCells w F y) := by
  obtain ⟨q, HQ⟩ : ∃ q, Hid (stepNum 0 255 (l, e) = q) := ⟨_, rfl⟩
  have HY : Hid (iter opStep q.1 [] q.2 = y) := by show _ = _; rw [← HQ.out]; exact hy.out
  have hq255 : q.1 ≤ 255 := by rw [← HQ.out]; exact stepNum_most _ _ _
  have hql : q.2.1.length ≤ l.length := by rw [← HQ.out]; exact stepNum_len _ _ _
  have hbo := Lib.hid ((h.old.alloc (.cells #[.slice A l.length c, .int .i64 e] 107)).alloc (.cells rd0 107))
  obtain ⟨i0, hi, hz0, hz1, hz2⟩ := info_parts info_rop
  clear hy
  go_enter Try.func48, Try.ntmps48
  go_wp2_with fail
  refine (rget_any 255 (by omega) _ _ _ l e _ hbo.out q HQ).mono ?_
  rintro _ w1 ⟨A1, c1, rfl, hb1, hs1⟩
  have HH := Lib.hid (LH.start (te := 72) (k := 4) hb1 hs1 (Nat.le_trans hql hl))
  clear hb1 hs1 hbo h hl hql
  go_upto_region 2 with fail
  have hH := HH.out
  clear HH
  generalize w1.alloc (.cells #[.slice A1 q.2.1.length c1, .int .i64 q.2.2] 107) = W1 at *
  generalize w1.heap.size = b at *
  obtain ⟨R, hR⟩ : ∃ R, w.heap.size + 1 = R := ⟨_, rfl⟩
  rw [hR] at hH ⊢
  clear hR
  have HH := Lib.hid hH
  clear hH
  go_wp2_with fail
  go_loopw [6, 7] (fun o i wr => ∃ (j k : Nat) (l : List OpD) (st : St) (A : Option Addr) (c : Nat), i = .int .i64 j ∧ j + k = q.1 ∧ l.length + k ≤ 255 ∧ LH w wr F b R rd0 107 A c st 72 4 o (l.map opCells) ∧ Hid (iter opStep k l st = y)) (fun _ i _ => q.1 - (intOf i).toNat)
  case atStart => exact ⟨0, q.1, [], q.2, A1, c1, rfl, by omega, by simpa using hq255, HH.out, HY⟩
  case round =>
    clear HH HY HQ
    obtain ⟨j, k, l', st, A2, c2, rfl, hjk, hlk, hH, hI⟩ := hrel
    obtain ⟨r0, r1⟩ := hH.rdc
    obtain ⟨z0, z1, z2, z3⟩ := two_cells hH.pr.res
    have hRb := hH.pr.old.2
    have hcl : ∀ x ∈ l'.map opCells, x.length = 4 := by intro x hx; obtain ⟨o, -, rfl⟩ := List.mem_map.1 hx; rfl
    obtain ⟨Ao, co, hv, -, -⟩ := (hH.sl (by omega) hcl).form
    rw [List.length_map] at hv
    subst hv
    have HFin := Lib.hid (hH.fin (by omega) hcl)
    cases k with
    | zero =>
      have hjq : ¬ (j : Int) < (q.1 : Int) := by omega
      have HY : Hid (y = (l', st)) := hI.out.symm
      clear hI hH hcl
      go_wp2_with fail
      go_region
      all_goals
        go_wp2_with fail
        refine bodyPost_ret (v := .tuple #[.slice Ao l'.length co, rdr (.slice A2 st.1.length c2) st.2]) (by simp [results, Try.results48, go_sem, rdr, r0, r1, z0, z1]) rfl ?_
        obtain ⟨f1, f2, f3⟩ := HFin.out (.slice A2 st.1.length c2) (.int .i64 st.2)
        rw [HY.out]
        exact ⟨Ao, _, co, l', A2, c2, rfl, f1, f2, fun _ => rfl, f3, by omega⟩
    | succ k =>
      have hjq : (j : Int) < (q.1 : Int) := by omega
      by_cases hz : st.2 = 0
      · obtain ⟨q1, H1⟩ : ∃ q, Hid (stepNum 0 255 st = q) := ⟨_, rfl⟩
        obtain ⟨q2, H2⟩ : ∃ q, Hid (stepNum 0 1 q1.2 = q) := ⟨_, rfl⟩
        obtain ⟨q3, H3⟩ : ∃ q, Hid (readInt q2.2.1 q2.2.2 = q) := ⟨_, rfl⟩
        obtain ⟨q4, H4⟩ : ∃ q, Hid (readText q3.2.1 q3.2.2 40 = q) := ⟨_, rfl⟩
        have HE : Hid (opStep l' st = (l' ++ [⟨q1.1, q2.1 == 1, q3.1, ⟨q4.1.toArray⟩⟩], q4.2)) := by
          show _ = _
          have h1 := H1.out; have h2 := H2.out; have h3 := H3.out; have h4 := H4.out
          subst h1; subst h2; subst h3; subst h4
          rfl
        have HI : Hid (iter opStep k (l' ++ [⟨q1.1, q2.1 == 1, q3.1, ⟨q4.1.toArray⟩⟩]) q4.2 = y) := by
          show _ = _
          rw [← hI.out, iter_more opStep k l' st hz, HE.out]
        have hst1 : (st.2 == 0) = true := by simp [hz]
        have HM := Lib.hid (hH.make #[.int .i64 0, .bool false, .int .i64 0, .string ⟨#[]⟩] 72)
        have hbl := lt_of_block hH.rd
        clear hz hI hH hcl HFin HE z0 z1 z2 z3
        go_upto_region 8 with fail
        have hM := HM.out
        clear HM r0 r1 hbl
        generalize wr.alloc (.cells #[.int .i64 0, .bool false, .int .i64 0, .string ⟨#[]⟩] 72) = W2 at *
        generalize wr.heap.size = O at *
        obtain ⟨r0, r1, -, -⟩ := hM.rdc
        have hbO := hM.old.2.2
        go_wp2_with fail
        refine (hM.get 255 (by omega) q1 H1).mono ?_
        rintro _ w3 ⟨A3, c3, rfl, hK1⟩
        clear hM r0 r1
        obtain ⟨b0, b1, g0, g1⟩ := hK1.at_.rdc
        obtain ⟨x0, y0⟩ := hK1.at_.cell 0 _ rfl
        go_wp2_with fail
        refine ((hK1.put.store 0 _).get 1 (by omega) q2 H2).mono ?_
        rintro _ w4 ⟨A4, c4, rfl, hK2⟩
        clear hK1 b0 b1 g0 g1 x0 y0
        obtain ⟨b0, b1, g0, g1⟩ := hK2.at_.rdc
        obtain ⟨x1, y1⟩ := hK2.at_.cell 1 _ rfl
        go_wp2_with fail
        refine ((hK2.put.store 1 _).int q3 H3).mono ?_
        rintro _ w5 ⟨A5, c5, rfl, hK3⟩
        clear hK2 b0 b1 g0 g1 x1 y1
        obtain ⟨b0, b1, g0, g1⟩ := hK3.at_.rdc
        obtain ⟨x2, y2⟩ := hK3.at_.cell 2 _ rfl
        go_wp2_with fail
        refine ((hK3.put' 2 _).text 40 (by omega) (by omega) q4 H4).mono ?_
        rintro _ w6 ⟨A6, c6, rfl, hK4⟩
        clear hK3 b0 b1 g0 g1 x2 y2
        obtain ⟨b0, b1, g0, g1⟩ := hK4.at_.rdc
        obtain ⟨x3, y3⟩ := hK4.at_.cell 3 _ rfl
        have HM7 := Lib.hid (hK4.put' 3 (.string ⟨q4.1.toArray⟩))
        go_upto_region 14 with fail
        have hM7 : LM w _ F b O A6 c6 q4.2 72 #[.int .i64 (q1.1 : Int), .bool ((q2.1 : Int) == 1), .int .i64 q3.1, .string ⟨q4.1.toArray⟩] _ := HM7.out
        clear hK4 HM7 b0 b1 g0 g1 x3 y3
        generalize ((w6.setCell ⟨O, 3, none⟩ (.string ⟨q4.1.toArray⟩)).setCell ⟨b, 0, none⟩ (.slice A6 q4.2.1.length c6)).setCell ⟨b, 1, none⟩ (.int .i64 q4.2.2) = W7 at *
        obtain ⟨x0, -⟩ := hM7.cell 0 _ rfl
        obtain ⟨x1, -⟩ := hM7.cell 1 _ rfl
        obtain ⟨x2, -⟩ := hM7.cell 2 _ rfl
        obtain ⟨x3, -⟩ := hM7.cell 3 _ rfl
        have hown := hM7.ex.own
        have hml : (l'.map opCells).length = l'.length := by simp
        have hlk' : l'.length + k + 1 ≤ 255 := by omega
        go_wp2_with (at_builtin; refine wl_app _ rfl _ _ 28 rfl 72 i0 _ 4 40 Try.underlying28 hi hz0 hz1 hz2 rfl (by omega) (.slice Ao l'.length co) _ _ (by rfl) (hown.alloc _) _ 1 1 [.int .i64 (q1.1 : Int), .bool ((q2.1 : Int) == 1), .int .i64 q3.1, .string ⟨q4.1.toArray⟩] (by rfl) (by rfl) (four_new_cells _ _ _ _ _ _) (by simp [Value.oneCell']) (by omega) (by unfold maxLen; omega) ?_; intro A8 cp8 w8 ho8 hg8 hat8; have hM8 := hM7.more _ _ ho8 hg8 hat8; rw [hml] at hM8; have HM8 := Lib.hid hM8; clear hM8 ho8 hg8 hat8)
        go_roundw
        case rel =>
          have hbb : ((q2.1 : Int) == 1) = (q2.1 == 1) := by rw [Bool.eq_iff_iff]; simp; omega
          have hz := HM8.out
          rw [hbb] at hz
          refine ⟨j + 1, k, l' ++ [⟨q1.1, q2.1 == 1, q3.1, ⟨q4.1.toArray⟩⟩], q4.2, A6, c6, by go_num, by omega, by simp; omega, ?_, HI⟩
          rw [List.map_append]
          exact hz
        case measure => simp [intOf]; omega
      · have HY : Hid (y = (l', st)) := by show _ = _; rw [← hI.out]; exact iter_bad opStep _ l' st hz
        have hst1 : (st.2 == 0) = false := by simp [hz]
        clear hz hI hH hcl
        go_wp2_with fail
        go_region
        all_goals
          go_wp2_with fail
          refine bodyPost_ret (v := .tuple #[.slice Ao l'.length co, rdr (.slice A2 st.1.length c2) st.2]) (by simp [results, Try.results48, go_sem, rdr, r0, r1, z0, z1]) rfl ?_
          obtain ⟨f1, f2, f3⟩ := HFin.out (.slice A2 st.1.length c2) (.int .i64 st.2)
          rw [HY.out]
          exact ⟨Ao, _, co, l', A2, c2, rfl, f1, f2, fun _ => rfl, f3, by omega⟩
end Go.Proofs.Ytdkankiohoocaaa
