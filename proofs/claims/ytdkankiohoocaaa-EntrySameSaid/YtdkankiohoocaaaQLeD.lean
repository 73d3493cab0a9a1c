/- carrierref01.Has, carrierref05.Of. -/
import Derived.Test.YtdkankiohoocaaaQSmB
import Derived.Test.YtdkankiohoocaaaQLeA
import Derived.Test.YtdkankiohoocaaaQFld2
namespace Go.Proofs.Ytdkankiohoocaaa
set_option linter.unusedSimpArgs false
set_option linter.unusedVariables false
open Go Go.RowKit Go.Proofs

set_option maxHeartbeats 1600000 in
set_option maxRecDepth 100000 in
theorem has_any (v : Value) (l : List Int) (x : Int) (F : Nat → Prop) (w : World) (h : Sl w F 1 v (l.map numCells)) (r : Bool) (hr : r = true ↔ x ∈ l) :
    Calls Try.prog 54 #[v, .int .i64 x] w fun en w' => en = .returned (.bool r) ∧ w' = w := by
  obtain ⟨A, c, hv, hc1, hc2⟩ := h.form
  rw [List.length_map] at hv hc1
  subst hv
  have HR := Lib.hid hr
  clear hr
  go_enter Try.func54, Try.ntmps54
  go_wp2_with fail
  go_loopw [5] (fun i wr => ∃ k : Nat, i = .int .i64 k ∧ k ≤ l.length ∧ Hid (x ∉ l.take k) ∧ wr = w) (fun i _ => l.length - (intOf i).toNat)
  case atStart => exact ⟨0, rfl, Nat.zero_le _, by show _ ∉ _; simp, rfl⟩
  case round =>
    obtain ⟨k, rfl, hk, HT, rfl⟩ := hrel
    by_cases hkl : k < l.length
    · obtain ⟨b, o, y, hA, -, hx, hc⟩ := h.at_ (i := k) (by rw [List.length_map]; exact hkl)
      subst hA
      have hg : l[k]? = some l[k] := List.getElem?_eq_getElem hkl
      generalize l[k] = n at hg
      have hxn : y = numCells n := by rw [List.getElem?_map, hg] at hx; simpa using hx.symm
      subst hxn
      have p0 := hc 0 (.int .i64 n) rfl
      have e0 : o + k * 1 + 0 = o + k := by omega
      rw [e0] at p0
      have hkl' : (k : Int) < (l.length : Int) := by omega
      by_cases hd : n = x
      · have HF : Hid (r = true) := HR.out.2 (by rw [← hd]; exact List.mem_of_getElem? hg)
        have hd1 : (n == x) = true := by simpa using hd
        clear hc hx hg hd
        go_wp2_with fail
        go_ret
        exact ⟨ret_bool HF.out.symm, rfl⟩
      · have hd1 : (n == x) = false := by simpa using hd
        have HN : Hid (x ∉ l.take (k + 1)) := by
          show _ ∉ _
          rw [List.take_add_one, hg]
          simp only [Option.toList, List.mem_append, List.mem_singleton, not_or]
          exact ⟨HT.out, fun e => hd e.symm⟩
        clear hc hx hg hd
        go_wp2_with fail
        go_roundw
        case rel => exact ⟨k + 1, by go_num, by omega, HN, by trivial⟩
        case measure => simp [intOf]; omega
    · have hk' : k = l.length := by omega
      have HF : Hid (r = false) := is_false HR.out (by have := HT.out; rw [hk', List.take_length] at this; exact this)
      go_wp2_with fail
      go_ret
      exact ⟨ret_bool HF.out.symm, rfl⟩

/-- In the midst of Of: the snapshot E, the result R. -/
structure SO (w0 w : World) (E R : Nat) (M : Int) (v : Value) (l : List Int) : Prop where
  el : w.heap[E]? = some (.cells #[.int .i64 M, v] 31 (0, 0))
  res : w.heap[R]? = some (.cells #[.int .i64 0, .slice none 0 0] 31 (0, 0))
  own : w.ownsRow 0 2 1 v l.length (l.map (Value.int .i64))
  row : ∀ g, v.ownBlock = some g → w0.heap.size ≤ g ∧ g ≠ E ∧ g ≠ R
  same : Same w0 w
  old : w0.heap.size ≤ E ∧ w0.heap.size ≤ R ∧ E ≠ R
section
variable {w0 w w2 : World} {E R : Nat} {M : Int} {v v' : Value} {l : List Int}
theorem SO.keep (h : SO w0 w E R M v l) (hs : Same w w2) : SO w0 w2 E R M v l :=
  ⟨hs.at_ h.el (fun h => h), hs.at_ h.res (fun h => h), ownsRow_keep' h.own hs (fun _ _ h => h), h.row, h.same.trans hs, h.old⟩
theorem SO.more (h : SO w0 w E R M v l) (n : Int) (o : Obj) (ho : w2.ownsRow 0 2 1 v' (l.length + 1) (l.map (Value.int .i64) ++ [.int .i64 n])) (hg : (w.alloc o).grownBy w2 v.ownBlock) (hat : v'.ownBlock = v.ownBlock ∨ v'.ownBlock = some (w.alloc o).heap.size) :
    SO w0 (w2.setCell ⟨E, 1, none⟩ v') E R M v' (l ++ [n]) := by
  have hc : Chg (fun k => v.ownBlock = some k) (w.alloc o) w2 := Chg.of_grown hg (fun k h => h)
  have ha := h.keep (Chg.alloc_ _ w o)
  have l1 := lt_of_block ha.el
  have l2 := lt_of_block ha.res
  have hws := ha.same.size
  have hnE : ¬ v.ownBlock = some E := fun e => (h.row E e).2.1 rfl
  have hnR : ¬ v.ownBlock = some R := fun e => (h.row R e).2.2 rfl
  have ho' := h.old
  have hrow : ∀ g, v'.ownBlock = some g → w0.heap.size ≤ g ∧ g ≠ E ∧ g ≠ R := by
    intro g hg'
    rcases hat with e | e
    · rw [e] at hg'; exact h.row g hg'
    · rw [e] at hg'; injection hg' with hg'; omega
  have hcE : Chg (fun k => k = E) w2 (w2.setCell ⟨E, 1, none⟩ v') := Chg.setCell (S := fun k => k = E) (Chg.refl _ w2) (p := ⟨E, 1, none⟩) (fun _ => rfl) _
  refine ⟨two_set1 (hc.at_ ha.el hnE), hcE.at_ (hc.at_ ha.res hnR) (by omega), ?_, hrow, (ha.same.trans' hc (fun i hi e => by have := (h.row i e).1; omega)).setCell (fun hi => by simp at hi; omega) _, h.old⟩
  have e1 : (l ++ [n]).length = l.length + 1 := by simp
  have e2 : (l ++ [n]).map (Value.int .i64) = l.map (Value.int .i64) ++ [.int .i64 n] := by simp
  rw [e1, e2]
  exact ownsRow_setCell_other ho (fun e => (hrow E e).2.1 rfl) _
theorem SO.sl (h : SO w0 w E R M v l) : Sl w (fun g => v.ownBlock = some g) 1 v (l.map numCells) := by
  have hf : (l.map numCells).flatten = l.map (Value.int .i64) := by
    clear h
    induction l with
    | nil => rfl
    | cons n l ih => simp only [List.map_cons, List.flatten_cons, ih]; rfl
  have ho := h.own
  rw [← hf] at ho
  exact Sl.of_own (by omega) ho (by simp) (by intro x hx; obtain ⟨o, -, rfl⟩ := List.mem_map.1 hx; rfl) (fun g hg => hg)
end
def SnapPost (M : Int) (w : World) (en : Ending) (w' : World) : Prop :=
  ∃ (A : Option Addr) (c : Nat) (l : List Int), en = .returned (.agg #[.int .i64 M, .slice A l.length c]) ∧ Sl w' (fun b => w.heap.size ≤ b) 1 (.slice A l.length c) (l.map numCells) ∧ l.length ≤ 40 ∧ (∀ n ∈ l, wholeI n) ∧ Same w w'

set_option maxHeartbeats 3200000 in
set_option maxRecDepth 100000 in
theorem snapOf_any (most : Int) (v : Value) (op : List UInt8) (F : Nat → Prop) (w : World) (h : Bs w F v op) (hm0 : 0 ≤ most) (hm1 : most ≤ 255) (hl : op.length ≤ 1000) :
    Calls Try.prog 26 #[.int .u8 most, v] w (SnapPost (1 + most % 40) w) := by
  obtain ⟨A, c, hv, -, -, -⟩ := id h
  subst hv
  have ht : most.tmod 40 = most % 40 := Int.tmod_eq_emod_of_nonneg hm0
  obtain ⟨M, hM⟩ : ∃ M : Int, 1 + most % 40 = M := ⟨_, rfl⟩
  have hM1 : 1 ≤ M ∧ M ≤ 40 := by omega
  have hw64 : wrap64 (1 + most % 40) = 1 + most % 40 := by unfold wrap64; omega
  obtain ⟨i0, hi, hz0, hz1, hz2⟩ := info_parts info_i64
  rw [hM]
  have HS0 : Hid (SO w ((w.alloc (.cells #[.int .i64 0, .slice none 0 0] 31)).alloc (.cells #[.int .i64 M, .slice none 0 0] 31)) (w.heap.size + 1) w.heap.size M (.slice none 0 0) []) := by
    obtain ⟨b1, b2, hs⟩ := two_new' w (.cells #[.int .i64 0, .slice none 0 0] 31) (.cells #[.int .i64 M, .slice none 0 0] 31)
    exact ⟨b2, b1, World.ownsRow_nil _ _ _ _, fun g hg => by simp [Value.ownBlock] at hg, hs, by omega⟩
  go_enter Try.func26, Try.ntmps26
  go_upto_region 2 with fail
  generalize (w.alloc (.cells #[.int .i64 0, .slice none 0 0] 31)).alloc (.cells #[.int .i64 M, .slice none 0 0] 31) = W0 at *
  have HS := Lib.hid (show SO w W0 (w.heap.size + 1) w.heap.size M (.slice none 0 0) [] from HS0.out)
  clear HS0
  obtain ⟨R, hR⟩ : ∃ n, w.heap.size = n := ⟨_, rfl⟩
  obtain ⟨E, hE⟩ : ∃ n, w.heap.size + 1 = n := ⟨_, rfl⟩
  have HS := Lib.hid (show SO w W0 E R M (.slice none 0 0) [] by rw [← hE, ← hR]; exact HS.out)
  rw [hE, hR]
  clear hE hR ht hw64
  go_wp2_with fail
  go_loopw [6] (fun i wr => ∃ (X : Nat) (v : Value) (l : List Int), i = .int .i64 X ∧ 1 ≤ X ∧ (X : Int) ≤ M ∧ SO w wr E R M v l ∧ l.length + 1 ≤ X ∧ ∀ n ∈ l, 1 ≤ n ∧ n < X) (fun i _ => 41 - (intOf i).toNat)
  case atStart => exact ⟨1, _, [], rfl, Nat.le_refl _, by omega, HS.out, by simp, by simp⟩
  case round =>
    clear HS
    obtain ⟨X, v1, l1, rfl, hX1, hXM, hS, hll, hln⟩ := hrel
    obtain ⟨x0, x1, -, -⟩ := two_cells hS.el
    by_cases hlt : (X : Int) < M
    · have HS1 := Lib.hid hS
      have HLN := Lib.hid hln
      clear hS hln
      go_wp2_with fail
      go_loopw [7] (fun i wr => ∃ (j : Nat) (v : Value) (l : List Int), i = .int .i64 j ∧ j ≤ op.length ∧ SO w wr E R M v l ∧ ((X : Int) ∈ l → l.length ≤ X) ∧ ((X : Int) ∉ l → l.length + 1 ≤ X) ∧ ∀ n ∈ l, 1 ≤ n ∧ n ≤ X) (fun i _ => op.length - (intOf i).toNat)
      case atStart => exact ⟨0, _, l1, rfl, Nat.zero_le _, HS1.out, fun _ => by omega, fun _ => hll, fun n hn => by have := HLN.out n hn; omega⟩
      case round =>
        clear HS1 HLN x0 x1 hll
        obtain ⟨j, v2, l2, rfl, hj, hS2, hin, hout, hle⟩ := hrel
        obtain ⟨x0, x1, f0, f1⟩ := two_cells hS2.el
        by_cases hjl : j < op.length
        · obtain ⟨-, b, o, y, hA, -, hy, hcy⟩ := (h.same hS2.same).at_ hjl
          subst hA
          have hjl' : (j : Int) < (op.length : Int) := by omega
          have hyr : 0 ≤ (y.toNat : Int) ∧ (y.toNat : Int) ≤ 255 := by have := y.toNat_lt; omega
          have hyt : (y.toNat : Int).tmod 40 = (y.toNat : Int) % 40 := Int.tmod_eq_emod_of_nonneg hyr.1
          have hyw : wrap64 ((y.toNat : Int) % 40) = (y.toNat : Int) % 40 := by unfold wrap64; omega
          obtain ⟨Av, nv, cv, hv2⟩ : ∃ A n c, v2 = .slice A n c := by
            obtain ⟨A, c, hv, -, -⟩ := hS2.sl.form
            exact ⟨A, _, c, hv⟩
          subst hv2
          have HIN := Lib.hid hin
          have HOUT := Lib.hid hout
          have HLE := Lib.hid hle
          clear hin hout hle
          by_cases hd : (y.toNat : Int) % 40 = (X : Int)
          · have hd1 : ((y.toNat : Int) % 40 == (X : Int)) = true := by simpa using hd
            obtain ⟨r, hr⟩ := bool_of ((X : Int) ∈ l2)
            clear hd
            go_wp2_with fail
            refine (has_any _ l2 (X : Int) _ _ hS2.sl r hr).mono ?_
            rintro _ w9 ⟨rfl, hw9⟩
            have hw9 := hw9.symm
            subst hw9
            cases r
            · have hnin : (X : Int) ∉ l2 := fun hx => by have := hr.2 hx; cases this
              have hl2 := HOUT.out hnin
              have hX40 : X ≤ 40 := by omega
              have hown := hS2.own
              have hlE := lt_of_block hS2.el
              have hrowE : ¬ (Value.slice Av nv cv).ownBlock = some E := fun e => (hS2.row E e).2.1 rfl
              clear hr hnin HIN HOUT
              go_wp2_with (at_builtin; refine wl_app _ rfl _ _ 23 rfl 2 i0 _ 1 8 Try.underlying23 hi hz0 hz1 hz2 rfl (by omega) (.slice Av nv cv) _ _ (by rfl) (hown.alloc _) _ 1 1 [.int .i64 (X : Int)] (by rfl) (by rfl) (one_new_cell _ _ _) (by simp [Value.oneCell']) (by omega) (by unfold maxLen; omega) ?_; intro A8 cp8 w8 ho8 hg8 hat8; have q8 := Chg.of_grown (S := fun k => (Value.slice Av nv cv).ownBlock = some k) hg8 (fun k h => h); have qa := Chg.alloc_ (fun _ => False) wr (.cells #[.int .i64 (X : Int)] 2); have k8 := q8.cell' (qa.cell' x1 (fun h => h)) hrowE; have f8 : w8.frozen? ⟨E, 1, none⟩ = false := (q8.frozen (p := ⟨E, 1, none⟩) (Nat.lt_of_lt_of_le hlE qa.size) hrowE).trans ((qa.frozen (p := ⟨E, 1, none⟩) hlE (fun h => h)).trans f1); have HM8 := Lib.hid (hS2.more (X : Int) _ ho8 hg8 hat8); clear ho8 hg8 hat8 q8 qa)
              go_roundw
              case rel =>
                refine ⟨j + 1, .slice A8 (l2.length + 1) cp8, l2 ++ [(X : Int)], by go_num, by omega, HM8.out, fun _ => by simp; omega, fun hx => absurd (by simp) hx, fun n hn => ?_⟩
                rcases List.mem_append.1 hn with hn | hn
                · exact HLE.out n hn
                · simp at hn; omega
              case measure => simp [intOf]; omega
            · clear hr
              go_wp2_with fail
              go_roundw
              case rel => exact ⟨j + 1, _, l2, by go_num, by omega, hS2, HIN.out, HOUT.out, HLE.out⟩
              case measure => simp [intOf]; omega
          · have hd1 : ((y.toNat : Int) % 40 == (X : Int)) = false := by simpa using hd
            clear hd
            go_wp2_with fail
            go_roundw
            case rel => exact ⟨j + 1, _, l2, by go_num, by omega, hS2, HIN.out, HOUT.out, HLE.out⟩
            case measure => simp [intOf]; omega
        · have hLEN : l2.length ≤ X := by
            by_cases hx : (X : Int) ∈ l2
            · exact hin hx
            · have := hout hx; omega
          have HLE := Lib.hid hle
          have HS2 := Lib.hid hS2
          clear hS2 hin hout hle
          go_wp2_with fail
          go_roundw
          case rel => exact ⟨X + 1, _, l2, by go_num, by omega, by omega, HS2.out, by omega, fun n hn => by have := HLE.out n hn; omega⟩
          case measure => simp [intOf]; omega
    · obtain ⟨Av, cv, hv1, -, -⟩ := hS.sl.form
      rw [List.length_map] at hv1
      subst hv1
      have hXM' : (X : Int) = M := by omega
      obtain ⟨r0, r1, rf0, rf1⟩ := two_cells hS.res
      have hRE := hS.old.2.2
      have HF : Hid (SnapPost M w (.returned (.agg #[.int .i64 M, .slice Av l1.length cv])) ((wr.setCell ⟨R, 0, none⟩ (.int .i64 M)).setCell ⟨R, 1, none⟩ (.slice Av l1.length cv))) := by
        have hc : Chg (fun k => k = R) wr ((wr.setCell ⟨R, 0, none⟩ (.int .i64 M)).setCell ⟨R, 1, none⟩ (.slice Av l1.length cv)) :=
          Chg.setCell (S := fun k => k = R) (Chg.setCell (S := fun k => k = R) (Chg.refl _ wr) (p := ⟨R, 0, none⟩) (fun _ => rfl) _) (p := ⟨R, 1, none⟩) (fun _ => rfl) _
        have ho := hS.old
        exact ⟨Av, cv, l1, rfl, (hS.sl.keep hc (fun g hg e => (hS.row g hg).2.2 e)).mono (numCells_pos _) (fun g _ hg => (hS.row g hg).1), by omega, fun n hn => by have := hln n hn; unfold wholeI; omega, hS.same.since hc (fun k hk => by omega)⟩
      clear hS hln
      go_wp2_with fail
      refine bodyPost_ret (v := .agg #[.int .i64 M, .slice Av l1.length cv]) (by simp [results, Try.results26, go_sem, r0, r1]) rfl HF.out
end Go.Proofs.Ytdkankiohoocaaa
