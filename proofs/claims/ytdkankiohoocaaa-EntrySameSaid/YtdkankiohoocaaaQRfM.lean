/- The walk of carrierref16.Decode: the kind 2, none, and all of it. -/
import Derived.Test.YtdkankiohoocaaaQRfK
namespace Go.Proofs.Ytdkankiohoocaaa
set_option linter.unusedSimpArgs false
set_option linter.unusedVariables false
open Go Go.RowKit Go.Proofs

/-- The numbers that the loop gathers in the entry's field. -/
structure PNm (w0 : World) (b E R : Nat) (v : Value) (l : List Int) (w : World) : Prop where
  res : PR0 R w
  own : w.ownsRow 0 2 1 v l.length (l.map (Value.int .i64))
  row : ∀ g, v.ownBlock = some g → w0.heap.size ≤ g ∧ b < g ∧ g ≠ E ∧ g ≠ R
  old : R ≠ b ∧ R ≠ E
section
variable {w0 w w2 : World} {F : Nat → Prop} {b E R c : Nat} {A : Option Addr} {st : St} {X : Value → Array Value} {v v' : Value} {l : List Int} {T : TypeId}
theorem PNm.keep {S : Nat → Prop} (h : PNm w0 b E R v l w) (hc : Chg S w w2) (hR : ¬ S R) (hv : ∀ g, v.ownBlock = some g → ¬ S g) : PNm w0 b E R v l w2 :=
  ⟨hc.at_ h.res hR, ownsRow_keep' h.own hc hv, h.row, h.old⟩
theorem LM.nums (h : LM w0 w F b E A c st T (X (.slice none 0 0)) (PR0 R)) (hRb : R ≠ b) (hRE : R ≠ E) : LM w0 w F b E A c st T (X (.slice none 0 0)) (PNm w0 b E R (.slice none 0 0) []) :=
  h.weak ⟨h.ex, World.ownsRow_nil _ _ _ _, fun g hg => by simp [Value.ownBlock] at hg, hRb, hRE⟩ (fun _ _ hp hc => hp.keep hc (by have := hp.old; omega) (fun g hg => by have := hp.row g hg; omega))
theorem LM.moreNum (h : LM w0 w F b E A c st T (X v) (PNm w0 b E R v l)) (h8 : ∀ v u, (X v).setIfInBounds 8 u = X u) (n : Int) (o : Obj) (ho : w2.ownsRow 0 2 1 v' (l.length + 1) (l.map (Value.int .i64) ++ [.int .i64 n])) (hg : (w.alloc o).grownBy w2 v.ownBlock) (hat : v'.ownBlock = v.ownBlock ∨ v'.ownBlock = some (w.alloc o).heap.size) :
    LM w0 (w2.setCell ⟨E, 8, none⟩ v') F b E A c st T (X v') (PNm w0 b E R v' (l ++ [n])) := by
  have hc : Chg (fun k => v.ownBlock = some k) (w.alloc o) w2 := Chg.of_grown hg (fun k h => h)
  have ha := h.keep (Chg.alloc_ _ w o)
  have hp := ha.ex
  have l1 := lt_of_block ha.rd
  have l2 := lt_of_block hp.res
  have l3 := lt_of_block ha.el
  have l4 := ha.same.size
  have hnb : ¬ v.ownBlock = some b := fun e => Nat.lt_irrefl _ (hp.row b e).2.1
  have hnE : ¬ v.ownBlock = some E := fun e => (hp.row E e).2.2.1 rfl
  have hnR : ¬ v.ownBlock = some R := fun e => (hp.row R e).2.2.2 rfl
  have hrow : ∀ g, v'.ownBlock = some g → w0.heap.size ≤ g ∧ b < g ∧ g ≠ E ∧ g ≠ R := by
    intro g hg'
    rcases hat with e | e
    · rw [e] at hg'; exact hp.row g hg'
    · rw [e] at hg'; injection hg' with hg'; omega
  have hM2 : LM w0 w2 F b E A c st T (X v) (PNm w0 b E R v' (l ++ [n])) := by
    refine ⟨hc.at_ ha.rd hnb, ha.bs.keep hc (fun k hk e => by have := (hp.row k e).1; omega), hc.at_ ha.el hnE, ha.same.trans' hc (fun i hi e => by have := (hp.row i e).1; omega), ha.old, ha.len, ⟨hc.at_ hp.res hnR, ?_, hrow, hp.old⟩, fun _ _ hq hc => hq.keep hc (by have := hq.old; omega) (fun g hg => by have := hrow g hg; omega)⟩
    have e1 : (l ++ [n]).length = l.length + 1 := by simp
    have e2 : (l ++ [n]).map (Value.int .i64) = l.map (Value.int .i64) ++ [.int .i64 n] := by simp
    rw [e1, e2]
    exact ho
  have hM3 := hM2.store 8 v'
  rw [h8] at hM3
  exact hM3
theorem PNm.sl (h : PNm w0 b E R v l w) : Sl w (fun g => v.ownBlock = some g) 1 v (l.map numCells) := by
  have hf : (l.map numCells).flatten = l.map (Value.int .i64) := by
    clear h
    induction l with
    | nil => rfl
    | cons n l ih => simp only [List.map_cons, List.flatten_cons, ih]; rfl
  have ho := h.own
  rw [← hf] at ho
  exact Sl.of_own (by omega) ho (by simp) (by intro x hx; obtain ⟨o, -, rfl⟩ := List.mem_map.1 hx; rfl) (fun g hg => hg)
end

set_option maxHeartbeats 6400000 in
set_option maxRecDepth 100000 in
theorem rdec_2 (v : Value) (F0 : Nat → Prop) (x : UInt8) (l : List UInt8) (w : World) (hx : (x.toNat : Int) = 2) (h : Bs w F0 v (x :: l)) (hl : l.length < 140737488355328) :
    Calls Try.prog 20 #[v] w (DecPost w (decOf (rdBody 2 (l, 0)))) := by
  obtain ⟨q1, H1⟩ : ∃ q, Hid (wholeN (l, 0) = q) := ⟨_, rfl⟩
  obtain ⟨q2, H2⟩ : ∃ q, Hid (wholeN q1.2 = q) := ⟨_, rfl⟩
  obtain ⟨q3, H3⟩ : ∃ q, Hid (stepNum 0 255 q2.2 = q) := ⟨_, rfl⟩
  obtain ⟨y, Hy⟩ : ∃ q, Hid (iter numStep q3.1 [] q3.2 = q) := ⟨_, rfl⟩
  obtain ⟨q5, H5⟩ : ∃ q, Hid (readInt y.2.1 y.2.2 = q) := ⟨_, rfl⟩
  have hq255 : q3.1 ≤ 255 := by rw [← H3.out]; exact stepNum_most _ _ _
  obtain ⟨i0, hi, hz0, hz1, hz2⟩ := info_parts info_i64
  obtain ⟨A, cap, hv, hlc, hcm, -⟩ := id h
  have hmx : maxLen = 9223372036854775807 := by decide +kernel
  subst hv
  obtain ⟨-, b0, o0, x', hA, -, hx', hc⟩ := h.at_ (k := 0) (by simp)
  subst hA
  have hxx : x = x' := by simpa using hx'
  subst hxx
  have hcutb : Bs w F0 (.slice (some ⟨b0, o0 + 1, none⟩) l.length (cap - 1)) l := h.cut (k := 1) (l := x :: l) (by simp)
  simp only [List.length_cons] at hlc h ⊢
  have hl1 : ((l.length : Int) + 1 == 0) = false := by rw [beq_eq_false_iff_ne]; omega
  rw [hx, Nat.add_zero] at hc
  have hc1 := (Chg.alloc_ (fun _ => False) w (.cells (ent0 0) 35)).cell' hc (fun h => h)
  obtain ⟨n1, n2, -, hsW⟩ := two_new (Chg.refl (fun _ => False) ((w.alloc (.cells (ent0 0) 35)).alloc (.cells (ent0 2) 35)))
  have HN1 := Lib.hid n1
  have HN2 := Lib.hid n2
  have HSW := Lib.hid hsW
  clear n1 n2 hsW hx' hx
  go_enter Try.func20, Try.ntmps20
  go_upto_region 4 with fail
  have hE2 := HN2.out
  have hR2 := HN1.out
  have hS2 := HSW.out
  clear HN1 HN2 HSW hc hc1
  generalize (w.alloc (.cells (ent0 0) 35)).alloc (.cells (ent0 2) 35) = W2 at *
  obtain ⟨R, hR⟩ : ∃ R, w.heap.size = R := ⟨_, rfl⟩
  obtain ⟨E, hE⟩ : ∃ E, w.heap.size + 1 = E := ⟨_, rfl⟩
  rw [hR] at hR2
  rw [hE] at hE2
  rw [hE, hR]
  have hER : E = R + 1 := by omega
  have hwR : w.heap.size ≤ R := by omega
  clear hE hR
  have hE2l := lt_of_block hE2
  have hREl : R < E := by omega
  clear hER
  go_cut [5] (fun v wc => ∃ b A c, v = .pointer (some ⟨b, 0, none⟩) ∧ E < b ∧ LM w wc F0 b E A c (l, 0) 35 (ent0 2) (PR0 R))
  case first =>
    by_cases hcap : cap = 1
    · subst hcap
      have hl0 : l.length = 0 := by omega
      go_wp2_with fail
      go_meet
      case rel => exact ⟨W2.heap.size, some ⟨b0, o0, none⟩, 0, rfl, hE2l, by have hM := LM.start (A := some ⟨b0, o0, none⟩) (c := 0) (l := l) (F := F0) hS2 hE2 hR2 (by omega) (by omega) ⟨_, 0, rfl, by omega, by omega, fun h => by omega⟩ (by omega); rw [hl0] at hM; exact ⟨by have := hM.rd; simpa [hl0] using this, hM.bs, hM.el, hM.same, hM.old, hM.len, hM.ex, hM.kp⟩⟩
    · have hcap1 : ¬ cap - 1 = 0 := by omega
      go_wp2_with fail
      go_meet
      case rel => exact ⟨W2.heap.size, some ⟨b0, o0 + 1, none⟩, cap - 1, rfl, hE2l, LM.start hS2 hE2 hR2 (by omega) (by omega) (hcutb.old.same hS2) (by omega)⟩
  case rest =>
    obtain ⟨b, A0, c0, rfl, hEb, hM0⟩ := hcut
    have hRb : R < b := by omega
    have hRE : R ≠ E := by omega
    clear hE2 hR2 hS2 hE2l h hcutb hREl
    have hMb := hM0.old.2.2
    obtain ⟨b0', b1', g0, g1⟩ := hM0.rdc
    obtain ⟨k0, -⟩ := hM0.cell 0 _ rfl
    go_wp2_with fail
    refine (hM0.whole q1 H1).mono ?_
    rintro _ v1 ⟨A1, c1, rfl, hK1⟩
    clear b0' b1' g0 g1 k0 hM0
    obtain ⟨b0', b1', g0, g1⟩ := hK1.at_.rdc
    obtain ⟨k0, -⟩ := hK1.at_.cell 0 _ rfl
    obtain ⟨y0, y1⟩ := hK1.at_.cell 6 _ rfl
    have HM1 := Lib.hid (hK1.put' 6 (.int .i64 (q1.1 : Int)))
    go_wp2_with fail
    refine (HM1.out.whole q2 H2).mono ?_
    rintro _ v2 ⟨A2, c2, rfl, hK2⟩
    clear b0' b1' g0 g1 k0 y0 y1 hK1 HM1
    obtain ⟨b0', b1', g0, g1⟩ := hK2.at_.rdc
    obtain ⟨y0, y1⟩ := hK2.at_.cell 7 _ rfl
    have HM2 := Lib.hid (hK2.put' 7 (.int .i64 (q2.1 : Int)))
    go_wp2_with fail
    refine (HM2.out.get 255 (by omega) q3 H3).mono ?_
    rintro _ v3 ⟨A3, c3, rfl, hK3⟩
    clear b0' b1' g0 g1 y0 y1 hK2 HM2
    obtain ⟨b0', b1', g0, g1⟩ := hK3.at_.rdc
    have HM3 := Lib.hid hK3.put
    go_upto_region 22 with fail
    have hM3 : LM w _ F0 b E A3 c3 q3.2 35 #[.int .u8 2, .int .i64 0, .int .i64 0, .int .i64 0, .slice none 0 0, .slice none 0 0, .int .i64 (q1.1 : Int), .int .i64 (q2.1 : Int), .slice none 0 0, .int .i64 0, .string ⟨#[]⟩, .int .i64 0, .int .i64 0] (PR0 R) := HM3.out
    clear HM3 hK3 b0' b1' g0 g1
    generalize (v3.setCell ⟨b, 0, none⟩ (.slice A3 q3.2.1.length c3)).setCell ⟨b, 1, none⟩ (.int .i64 q3.2.2) = W3 at *
    have hN3 := LM.nums (X := (fun v : Value => #[.int .u8 2, .int .i64 0, .int .i64 0, .int .i64 0, .slice none 0 0, .slice none 0 0, .int .i64 (q1.1 : Int), .int .i64 (q2.1 : Int), v, .int .i64 0, .string ⟨#[]⟩, .int .i64 0, .int .i64 0])) hM3 (by omega) (by omega)
    have HN3 := Lib.hid hN3
    clear hM3 hN3
    go_wp2_with fail
    go_loopw [7] (fun i wr => ∃ (j k : Nat) (l : List Int) (st : St) (A : Option Addr) (c : Nat) (v : Value), i = .int .i64 j ∧ j + k = q3.1 ∧ l.length + k ≤ 255 ∧ LM w wr F0 b E A c st 35 ((fun v : Value => #[.int .u8 2, .int .i64 0, .int .i64 0, .int .i64 0, .slice none 0 0, .slice none 0 0, .int .i64 (q1.1 : Int), .int .i64 (q2.1 : Int), v, .int .i64 0, .string ⟨#[]⟩, .int .i64 0, .int .i64 0]) v) (PNm w b E R v l) ∧ Hid (iter numStep k l st = y)) (fun i _ => q3.1 - (intOf i).toNat)
    case atStart => exact ⟨0, q3.1, [], q3.2, A3, c3, _, rfl, by omega, by simpa using hq255, HN3.out, Hy⟩
    case round =>
      obtain ⟨j, k, l', st, A4, c4, v4, rfl, hjk, hlk, hM4, hI⟩ := hrel
      obtain ⟨b0', b1', g0, g1⟩ := hM4.rdc
      obtain ⟨y0, y1⟩ := hM4.cell 8 _ rfl
      obtain ⟨A4', n4', c4', hv4⟩ : ∃ A n c, v4 = .slice A n c := by
        obtain ⟨A, c, h, -, -⟩ := hM4.ex.sl.form
        exact ⟨A, _, c, h⟩
      subst hv4
      by_cases hgo : 0 < k ∧ st.2 = 0
      · obtain ⟨hk0, hz⟩ := hgo
        obtain ⟨k, rfl⟩ : ∃ m, k = m + 1 := ⟨k - 1, by omega⟩
        have hjq : (j : Int) < (q3.1 : Int) := by omega
        have hst1 : (st.2 == 0) = true := by simp [hz]
        obtain ⟨p1, G1⟩ : ∃ q, Hid (wholeN st = q) := ⟨_, rfl⟩
        have HI : Hid (iter numStep k (l' ++ [(p1.1 : Int)]) p1.2 = y) := by
          show _ = _
          have hs : numStep l' st = (l' ++ [(p1.1 : Int)], p1.2) := by unfold numStep; rw [G1.out]
          rw [← hI.out, iter_more numStep k l' st hz, hs]
        clear hz hI HN3 Hy hk0
        go_wp2_with fail
        refine (hM4.whole p1 G1).mono ?_
        rintro _ w5 ⟨A5, c5, rfl, hK5⟩
        clear hM4 b0' b1' g0 g1 y0 y1
        obtain ⟨b0', b1', g0, g1⟩ := hK5.at_.rdc
        have HM5 := Lib.hid hK5.put
        go_upto_region 27 with fail
        have hM5 := HM5.out
        clear HM5 hK5 b0' b1' g0 g1
        generalize (w5.setCell ⟨b, 0, none⟩ (.slice A5 p1.2.1.length c5)).setCell ⟨b, 1, none⟩ (.int .i64 p1.2.2) = W5 at *
        obtain ⟨y0, y1⟩ := hM5.cell 8 _ rfl
        have hown := hM5.ex.own
        have hlE := (hM5.size).2
        have hrowE : ¬ (Value.slice A4' n4' c4').ownBlock = some E := fun e => (hM5.ex.row E e).2.2.1 rfl
        go_wp2_with (at_builtin; refine wl_app _ rfl _ _ 23 rfl 2 i0 _ 1 8 Try.underlying23 hi hz0 hz1 hz2 rfl (by omega) (.slice A4' n4' c4') _ _ (by rfl) (hown.alloc _) _ 1 1 [.int .i64 (p1.1 : Int)] (by rfl) (by rfl) (one_new_cell _ _ _) (by simp [Value.oneCell']) (by omega) (by unfold maxLen; omega) ?_; intro A8 cp8 w8 ho8 hg8 hat8; have q8 := Chg.of_grown (S := fun k => (Value.slice A4' n4' c4').ownBlock = some k) hg8 (fun k h => h); have qa := Chg.alloc_ (fun _ => False) W5 (.cells #[.int .i64 (p1.1 : Int)] 2); have k8 := q8.cell' (qa.cell' y0 (fun h => h)) hrowE; have f8 : w8.frozen? ⟨E, 8, none⟩ = false := (q8.frozen (p := ⟨E, 8, none⟩) (Nat.lt_of_lt_of_le hlE qa.size) hrowE).trans ((qa.frozen (p := ⟨E, 8, none⟩) hlE (fun h => h)).trans y1); have HM8 := Lib.hid (LM.moreNum (X := (fun v : Value => #[.int .u8 2, .int .i64 0, .int .i64 0, .int .i64 0, .slice none 0 0, .slice none 0 0, .int .i64 (q1.1 : Int), .int .i64 (q2.1 : Int), v, .int .i64 0, .string ⟨#[]⟩, .int .i64 0, .int .i64 0])) hM5 (fun _ _ => rfl) (p1.1 : Int) _ ho8 hg8 hat8); clear ho8 hg8 hat8 q8 qa)
        go_roundw
        case rel => exact ⟨j + 1, k, l' ++ [(p1.1 : Int)], p1.2, A5, c5, _, by go_num, by omega, by simp; omega, HM8.out, HI⟩
        case measure => simp [intOf]; omega
      · have HY : Hid (y = (l', st)) := by
          show _ = _
          rw [← hI.out]
          cases k with
          | zero => rfl
          | succ k => exact iter_bad numStep _ l' st (fun h => hgo ⟨by omega, h⟩)
        have hg : ((j : Int) < (q3.1 : Int) ∧ (st.2 == 0) = false) ∨ ¬ (j : Int) < (q3.1 : Int) := by
          by_cases hk0 : 0 < k
          · left; exact ⟨by omega, by rw [beq_eq_false_iff_ne]; exact fun h => hgo ⟨hk0, h⟩⟩
          · right; omega
        obtain rfl := HY.out
        clear hI HN3 hgo HY
        have hKI := hM4.ex
        rcases hg with ⟨hj1, hst1⟩ | hj1
        all_goals
          go_wp2_with fail
          refine (hM4.int q5 H5).mono ?_
          rintro _ v5 ⟨A5, c5, rfl, hK5⟩
          clear b0' b1' g0 g1 y0 y1 hM4 hKI hj1
          obtain ⟨b0', b1', g0, g1⟩ := hK5.at_.rdc
          obtain ⟨y0, y1⟩ := hK5.at_.cell 9 _ rfl
          have HM5 := Lib.hid (hK5.put' 9 (.int .i64 q5.1))
          go_upto_region 44 with fail
          have hM9 : LM w _ F0 b E A5 c5 q5.2 35 #[.int .u8 2, .int .i64 0, .int .i64 0, .int .i64 0, .slice none 0 0, .slice none 0 0, .int .i64 (q1.1 : Int), .int .i64 (q2.1 : Int), .slice A4' n4' c4', .int .i64 q5.1, .string ⟨#[]⟩, .int .i64 0, .int .i64 0] _ := HM5.out
          clear HM5 hK5 b0' b1' g0 g1 y0 y1
          generalize ((v5.setCell ⟨E, 9, none⟩ (.int .i64 q5.1)).setCell ⟨b, 0, none⟩ (.slice A5 q5.2.1.length c5)).setCell ⟨b, 1, none⟩ (.int .i64 q5.2.2) = W9 at *
          obtain ⟨b0', b1', g0, g1⟩ := hM9.rdc
          go_wp2_with fail
          refine (pend_any _ _ q5.2.1 q5.2.2 _ hM9.bs).mono ?_
          rintro _ w10 ⟨rfl, hs10⟩
          have hM10 := hM9.keep hs10
          clear hM9 hs10 b0' b1' g0 g1
          obtain ⟨f, HF⟩ : ∃ f, Hid (endErr q5.2.1 q5.2.2 = f) := ⟨_, rfl⟩
          rw [HF.out]
          obtain ⟨e, HE⟩ : ∃ e : EntD, Hid ({ noEnt with kind := 2, tickN := q1.1, max := q2.1, opn := l', tickAt := q5.1 } = e) := ⟨_, rfl⟩
          have HR : Hid (rdBody 2 (l, 0) = some (e, q5.2)) := by
            show _ = _
            rw [← HE.out]
            have h1 := H1.out; have h2 := H2.out; have h3 := H3.out; have h5 := H5.out; have hy := Hy.out
            rw [← h5]
            unfold rdBody getNums
            simp only [h1, h2, h3, hy]
            rfl
          have hX10 : w10.heap[E]? = some (.cells #[.int .u8 e.kind, .int .i64 e.tx, .int .i64 e.next, .int .i64 e.nextID, .slice none 0 0, .slice none 0 0, .int .i64 e.tickN, .int .i64 e.max, (.slice A4' n4' c4'), .int .i64 e.tickAt, .string e.name, .int .i64 e.n, .int .i64 e.at_] 35 (0, 0)) := by
            have h10 := hM10.el
            rw [← HE.out]
            exact h10
          have hES : f = 0 → EntS w10 (fun b' => b < b') e (.slice none 0 0) (.slice none 0 0) ((.slice A4' n4' c4')) := fun hf => by
            have z9 : q5.2.2 = 0 := endErr_zero (HF.out.trans hf)
            rw [← HE.out]
            exact ⟨Sl.nil_ _ _ _, Sl.nil_ _ _ _, hM10.ex.sl.mono (numCells_pos _) (fun g _ hg => (hM10.ex.row g hg).2.1)⟩
          obtain ⟨x0, x1, x2, x3, x4, x5, x6, x7, x8, x9, x10, x11, x12⟩ := ent_cells hX10
          obtain ⟨r0, r1, r2, r3, r4, r5, r6, r7, r8, r9, r10, r11, r12⟩ := ent_cells (show w10.heap[R]? = _ from hM10.ex.res)
          obtain ⟨f0, f1, f2, f3, f4, f5, f6, f7, f8, f9, f10, f11, f12⟩ := ent_free (show w10.heap[R]? = _ from hM10.ex.res)
          have HP := Lib.hid (hM10.same.since (putEnt_chg w10 R (.int .u8 e.kind) (.int .i64 e.tx) (.int .i64 e.next) (.int .i64 e.nextID) (.slice none 0 0) (.slice none 0 0) (.int .i64 e.tickN) (.int .i64 e.max) ((.slice A4' n4' c4')) (.int .i64 e.tickAt) (.string e.name) (.int .i64 e.n) (.int .i64 e.at_)) (fun k hk => by omega))
          have HZ := Lib.hid (hM10.same.since (putEnt_chg w10 R (.int .u8 0) (.int .i64 0) (.int .i64 0) (.int .i64 0) (.slice none 0 0) (.slice none 0 0) (.int .i64 0) (.int .i64 0) (.slice none 0 0) (.int .i64 0) (.string ⟨#[]⟩) (.int .i64 0) (.int .i64 0)) (fun k hk => by omega))
          have HES := Lib.hid (fun hf => ((hES hf).keep (putEnt_chg w10 R (.int .u8 e.kind) (.int .i64 e.tx) (.int .i64 e.next) (.int .i64 e.nextID) (.slice none 0 0) (.slice none 0 0) (.int .i64 e.tickN) (.int .i64 e.max) ((.slice A4' n4' c4')) (.int .i64 e.tickAt) (.string e.name) (.int .i64 e.n) (.int .i64 e.at_)) (fun b' hb => by have hb' : b < b' := hb; omega)))
          have hwb : w.heap.size ≤ b + 1 := by omega
          have HWB := Lib.hid hwb
          clear hM10 hES hX10 hwb hwR hRb hEb hMb hlc hcm hl HE
          by_cases hf : f = 0
          · have HD : Hid (decOf (rdBody 2 (l, 0)) = (e, 0)) := by show _ = _; rw [HR.out]; unfold decOf; simp only [HF.out, hf, if_true]
            have HES0 := Lib.hid (HES.out hf)
            subst hf
            clear HF HR HES
            go_wp2_with fail
            refine bodyPost_ret (v := (.tuple #[entV e (.slice none 0 0) (.slice none 0 0) ((.slice A4' n4' c4')), .int .i64 0])) (by simp [results, Try.results20, go_sem, entV, entCells, noEnt, r0, r1, r2, r3, r4, r5, r6, r7, r8, r9, r10, r11, r12]) rfl ?_
            rw [HD.out]
            exact ⟨_, _, _, rfl, EntS.low (n := b + 1) HES0.out HWB.out, HP.out⟩
          · have HD : Hid (decOf (rdBody 2 (l, 0)) = (noEnt, f)) := by show _ = _; rw [HR.out]; unfold decOf; simp only [HF.out]; rw [if_neg hf]
            have hf1 : (f != 0) = true := by simp [hf]
            clear HF HR hf
            go_wp2_with fail
            refine bodyPost_ret (v := (.tuple #[entV noEnt (.slice none 0 0) (.slice none 0 0) (.slice none 0 0), .int .i64 f])) (by simp [results, Try.results20, go_sem, entV, entCells, noEnt, r0, r1, r2, r3, r4, r5, r6, r7, r8, r9, r10, r11, r12]) rfl ?_
            rw [HD.out]
            exact ⟨_, _, _, rfl, EntS.none_ _ _ rfl rfl rfl, HZ.out⟩

end Go.Proofs.Ytdkankiohoocaaa
