/- slices.Equal of Ops, of events, of numbers; the document's Ints. -/
import Derived.Test.YtdkankiohoocaaaQEnt
import Derived.Laws.Strings
namespace Go.Proofs.Ytdkankiohoocaaa
set_option linter.unusedSimpArgs false
set_option linter.unusedVariables false
open Go Go.RowKit Go.Proofs

theorem text_ne {a b : ByteArray} (h : ¬ a = b) : ¬ a.toList = b.toList := fun e => h (Go.WideShapes.bytes_inj (by rw [ByteArray.toList_eq, ByteArray.toList_eq] at e; exact e))
theorem take_more {α : Type} {la lb : List α} {k : Nat} {x : α} (h : la.take k = lb.take k) (ha : la[k]? = some x) (hb : lb[k]? = some x) : la.take (k + 1) = lb.take (k + 1) := by
  rw [List.take_add_one, List.take_add_one, h, ha, hb]
theorem take_all {α : Type} {la lb : List α} (h : la.take la.length = lb.take la.length) (hl : la.length = lb.length) : la = lb := by
  rw [List.take_length] at h
  rw [h, hl, List.take_length]
theorem at_ne {α : Type} {la lb : List α} {k : Nat} {x y : α} (ha : la[k]? = some x) (hb : lb[k]? = some y) (h : ¬ x = y) : ¬ la = lb := fun e => h (by rw [e, hb] at ha; injection ha with ha; exact ha.symm)

set_option maxHeartbeats 3200000 in
set_option maxRecDepth 100000 in
theorem eqnums_any (va vb : Value) (la lb : List Int) (F G : Nat → Prop) (w : World) (ha : Sl w F 1 va (la.map numCells)) (hb : Sl w G 1 vb (lb.map numCells)) (r : Bool) (hr : r = true ↔ la = lb) :
    Calls Try.prog 55 #[va, vb] w fun en w' => en = .returned (.bool r) ∧ Same w w' := by
  obtain ⟨A, ca, hva, hc1, hc2⟩ := ha.form
  obtain ⟨B, cb, hvb, hc3, hc4⟩ := hb.form
  rw [List.length_map] at hva hvb hc1 hc3
  subst hva; subst hvb
  have HR := Lib.hid hr
  clear hr
  by_cases hl : la.length = lb.length
  · have hl0 : ((la.length : Int) != (lb.length : Int)) = false := by rw [hl]; simp
    have HL := Lib.hid hl
    have hl1 : la.length ≤ lb.length := by omega
    clear hl
    go_enter Try.func55, Try.ntmps55
    go_wp2_with fail
    go_loopw [13] (fun i wr => ∃ k : Nat, i = .int .i64 k ∧ k ≤ la.length ∧ Hid (la.take k = lb.take k) ∧ Same w wr) (fun i _ => la.length - (intOf i).toNat)
    case atStart => exact ⟨0, rfl, Nat.zero_le _, rfl, Chg.refl _ _⟩
    case round =>
      obtain ⟨k, rfl, hk, HT, hs⟩ := hrel
      by_cases hkl : k < la.length
      · obtain ⟨ba, oa, xa, hA, -, hxa, hca⟩ := (ha.same hs).at_ (i := k) (by rw [List.length_map]; exact hkl)
        obtain ⟨bb, ob, xb, hB, -, hxb, hcb⟩ := (hb.same hs).at_ (i := k) (by rw [List.length_map]; omega)
        subst hA; subst hB
        have hga : la[k]? = some la[k] := List.getElem?_eq_getElem hkl
        have hgb : lb[k]? = some (lb[k]'(by omega)) := List.getElem?_eq_getElem (by omega)
        generalize la[k] = oa' at hga
        generalize lb[k]'(by omega) = ob' at hgb
        have hxan : xa = numCells oa' := by rw [List.getElem?_map, hga] at hxa; simpa using hxa.symm
        have hxbn : xb = numCells ob' := by rw [List.getElem?_map, hgb] at hxb; simpa using hxb.symm
        subst hxan; subst hxbn
        have a0 := hca 0 (.int .i64 oa') rfl
        have b0 := hcb 0 (.int .i64 ob') rfl
        rw [Nat.add_zero, Nat.mul_one] at a0 b0
        have hkl' : (k : Int) < (la.length : Int) := by omega
        have hkl2 : (k : Int) < (lb.length : Int) := by omega
        have HGA := Lib.hid hga
        have HGB := Lib.hid hgb
        clear hca hcb hxa hxb hga hgb
        by_cases hd : oa' = ob'
        · subst hd
          go_wp2_with fail
          go_quiet (fail)
          go_wp2_with fail
          go_roundw
          case rel => exact ⟨k + 1, by go_num, by omega, take_more HT.out HGA.out HGB.out, hs.drewN _⟩
          case measure => simp [intOf]; omega
        · have HF : Hid (r = false) := by
            show _ = _
            cases r
            · rfl
            · exact absurd (HR.out.1 rfl) (at_ne HGA.out HGB.out hd)
          have hd2 : ((oa' : Int) != ob') = true := by simpa using hd
          go_wp2_with fail
          go_quiet (fail)
          go_wp2_with fail
          go_ret
          exact ⟨ret_bool HF.out.symm, hs.drewN _⟩
      · have HF : Hid (r = true) := by
          have hk' : k = la.length := by omega
          have ht := HT.out
          rw [hk'] at ht
          exact HR.out.2 (take_all ht HL.out)
        go_wp2_with fail
        go_ret
        exact ⟨ret_bool HF.out.symm, hs⟩
  · have hd : ((la.length : Int) != (lb.length : Int)) = true := by simp; omega
    have HF : Hid (r = false) := by
      show _ = _
      cases r
      · rfl
      · exact absurd (by rw [HR.out.1 rfl]) hl
    clear hl
    go_enter Try.func55, Try.ntmps55
    go_wp2_with fail
    go_ret
    exact ⟨ret_bool HF.out.symm, Chg.refl _ _⟩

set_option maxHeartbeats 3200000 in
set_option maxRecDepth 100000 in
theorem ints_any (va vb : Value) (la lb : List Int) (F G : Nat → Prop) (w : World) (ha : Sl w F 1 va (la.map numCells)) (hb : Sl w G 1 vb (lb.map numCells)) (r : Bool) (hr : r = true ↔ la = lb) :
    Calls Try.prog 56 #[va, vb] w fun en w' => en = .returned (.bool r) ∧ Same w w' := by
  obtain ⟨A, ca, hva, hc1, hc2⟩ := ha.form
  obtain ⟨B, cb, hvb, hc3, hc4⟩ := hb.form
  rw [List.length_map] at hva hvb hc1 hc3
  subst hva; subst hvb
  have HR := Lib.hid hr
  clear hr
  by_cases hl : la.length = lb.length
  · have hl0 : ((la.length : Int) != (lb.length : Int)) = false := by rw [hl]; simp
    have HL := Lib.hid hl
    have hl1 : la.length ≤ lb.length := by omega
    clear hl
    go_enter Try.func56, Try.ntmps56
    go_wp2_with fail
    go_loopw [5] (fun i wr => ∃ k : Nat, i = .int .i64 k ∧ k ≤ la.length ∧ Hid (la.take k = lb.take k) ∧ Same w wr) (fun i _ => la.length - (intOf i).toNat)
    case atStart => exact ⟨0, rfl, Nat.zero_le _, rfl, Chg.refl _ _⟩
    case round =>
      obtain ⟨k, rfl, hk, HT, hs⟩ := hrel
      by_cases hkl : k < la.length
      · obtain ⟨ba, oa, xa, hA, -, hxa, hca⟩ := (ha.same hs).at_ (i := k) (by rw [List.length_map]; exact hkl)
        obtain ⟨bb, ob, xb, hB, -, hxb, hcb⟩ := (hb.same hs).at_ (i := k) (by rw [List.length_map]; omega)
        subst hA; subst hB
        have hga : la[k]? = some la[k] := List.getElem?_eq_getElem hkl
        have hgb : lb[k]? = some (lb[k]'(by omega)) := List.getElem?_eq_getElem (by omega)
        generalize la[k] = oa' at hga
        generalize lb[k]'(by omega) = ob' at hgb
        have hxan : xa = numCells oa' := by rw [List.getElem?_map, hga] at hxa; simpa using hxa.symm
        have hxbn : xb = numCells ob' := by rw [List.getElem?_map, hgb] at hxb; simpa using hxb.symm
        subst hxan; subst hxbn
        have a0 := hca 0 (.int .i64 oa') rfl
        have b0 := hcb 0 (.int .i64 ob') rfl
        rw [Nat.add_zero, Nat.mul_one] at a0 b0
        have hkl' : (k : Int) < (la.length : Int) := by omega
        have hkl2 : (k : Int) < (lb.length : Int) := by omega
        have HGA := Lib.hid hga
        have HGB := Lib.hid hgb
        clear hca hcb hxa hxb hga hgb
        by_cases hd : oa' = ob'
        · subst hd
          go_wp2_with fail
          go_quiet (fail)
          go_wp2_with fail
          go_roundw
          case rel => exact ⟨k + 1, by go_num, by omega, take_more HT.out HGA.out HGB.out, hs.drewN _⟩
          case measure => simp [intOf]; omega
        · have HF : Hid (r = false) := by
            show _ = _
            cases r
            · rfl
            · exact absurd (HR.out.1 rfl) (at_ne HGA.out HGB.out hd)
          have hd2 : ((oa' : Int) != ob') = true := by simpa using hd
          go_wp2_with fail
          go_quiet (fail)
          go_wp2_with fail
          go_ret
          exact ⟨ret_bool HF.out.symm, hs.drewN _⟩
      · have HF : Hid (r = true) := by
          have hk' : k = la.length := by omega
          have ht := HT.out
          rw [hk'] at ht
          exact HR.out.2 (take_all ht HL.out)
        go_wp2_with fail
        go_ret
        exact ⟨ret_bool HF.out.symm, hs⟩
  · have hd : ((la.length : Int) != (lb.length : Int)) = true := by simp; omega
    have HF : Hid (r = false) := by
      show _ = _
      cases r
      · rfl
      · exact absurd (by rw [HR.out.1 rfl]) hl
    clear hl
    go_enter Try.func56, Try.ntmps56
    go_wp2_with fail
    go_ret
    exact ⟨ret_bool HF.out.symm, Chg.refl _ _⟩

set_option maxHeartbeats 3200000 in
set_option maxRecDepth 100000 in
theorem eqops_any (va vb : Value) (la lb : List OpD) (F G : Nat → Prop) (w : World) (ha : Sl w F 4 va (la.map opCells)) (hb : Sl w G 4 vb (lb.map opCells)) (r : Bool) (hr : r = true ↔ la = lb) :
    Calls Try.prog 28 #[va, vb] w fun en w' => en = .returned (.bool r) ∧ Same w w' := by
  obtain ⟨A, ca, hva, hc1, hc2⟩ := ha.form
  obtain ⟨B, cb, hvb, hc3, hc4⟩ := hb.form
  rw [List.length_map] at hva hvb hc1 hc3
  subst hva; subst hvb
  have HR := Lib.hid hr
  clear hr
  by_cases hl : la.length = lb.length
  · have hl0 : ((la.length : Int) != (lb.length : Int)) = false := by rw [hl]; simp
    have HL := Lib.hid hl
    have hl1 : la.length ≤ lb.length := by omega
    clear hl
    go_enter Try.func28, Try.ntmps28
    go_wp2_with fail
    go_loopw [13] (fun i wr => ∃ k : Nat, i = .int .i64 k ∧ k ≤ la.length ∧ Hid (la.take k = lb.take k) ∧ Same w wr) (fun i _ => la.length - (intOf i).toNat)
    case atStart => exact ⟨0, rfl, Nat.zero_le _, rfl, Chg.refl _ _⟩
    case round =>
      obtain ⟨k, rfl, hk, HT, hs⟩ := hrel
      by_cases hkl : k < la.length
      · obtain ⟨ba, oa, xa, hA, -, hxa, hca⟩ := (ha.same hs).at_ (i := k) (by rw [List.length_map]; exact hkl)
        obtain ⟨bb, ob, xb, hB, -, hxb, hcb⟩ := (hb.same hs).at_ (i := k) (by rw [List.length_map]; omega)
        subst hA; subst hB
        have hga : la[k]? = some la[k] := List.getElem?_eq_getElem hkl
        have hgb : lb[k]? = some (lb[k]'(by omega)) := List.getElem?_eq_getElem (by omega)
        generalize la[k] = oa' at hga
        generalize lb[k]'(by omega) = ob' at hgb
        have hxan : xa = opCells oa' := by rw [List.getElem?_map, hga] at hxa; simpa using hxa.symm
        have hxbn : xb = opCells ob' := by rw [List.getElem?_map, hgb] at hxb; simpa using hxb.symm
        subst hxan; subst hxbn
        obtain ⟨t1, g1, k1, x1⟩ := oa'
        obtain ⟨t2, g2, k2, x2⟩ := ob'
        have a0 := hca 0 (.int .i64 t1) rfl
        have b0 := hcb 0 (.int .i64 t2) rfl
        have a1 := hca 1 (.bool g1) rfl
        have b1 := hcb 1 (.bool g2) rfl
        have a2 := hca 2 (.int .i64 k1) rfl
        have b2 := hcb 2 (.int .i64 k2) rfl
        have a3 := hca 3 (.string x1) rfl
        have b3 := hcb 3 (.string x2) rfl
        rw [Nat.add_zero] at a0 b0
        have hkl' : (k : Int) < (la.length : Int) := by omega
        have hkl2 : (k : Int) < (lb.length : Int) := by omega
        have HGA := Lib.hid hga
        have HGB := Lib.hid hgb
        clear hca hcb hxa hxb hga hgb
        by_cases hd : t1 = t2
        · subst hd
          by_cases hd : g1 = g2
          · subst hd
            by_cases hd : k1 = k2
            · subst hd
              by_cases hd : x1 = x2
              · subst hd
                go_wp2_with fail
                go_quiet (fail)
                go_wp2_with fail
                go_roundw
                case rel => exact ⟨k + 1, by go_num, by omega, take_more HT.out HGA.out HGB.out, hs.drewN _⟩
                case measure => simp [intOf]; omega
              · have HF : Hid (r = false) := by
                  show _ = _
                  cases r
                  · rfl
                  · exact absurd (HR.out.1 rfl) (at_ne HGA.out HGB.out (fun e => hd (by injection e)))
                have hd2 := text_ne hd
                clear hd
                go_wp2_with fail
                go_quiet (fail)
                go_wp2_with fail
                go_ret
                exact ⟨ret_bool HF.out.symm, hs.drewN _⟩
            · have HF : Hid (r = false) := by
                show _ = _
                cases r
                · rfl
                · exact absurd (HR.out.1 rfl) (at_ne HGA.out HGB.out (fun e => hd (by injection e)))
              go_wp2_with fail
              go_quiet (fail)
              go_wp2_with fail
              go_ret
              exact ⟨ret_bool HF.out.symm, hs.drewN _⟩
          · have HF : Hid (r = false) := by
              show _ = _
              cases r
              · rfl
              · exact absurd (HR.out.1 rfl) (at_ne HGA.out HGB.out (fun e => hd (by injection e)))
            go_wp2_with fail
            go_quiet (fail)
            go_wp2_with fail
            go_ret
            exact ⟨ret_bool HF.out.symm, hs.drewN _⟩
        · have HF : Hid (r = false) := by
            show _ = _
            cases r
            · rfl
            · exact absurd (HR.out.1 rfl) (at_ne HGA.out HGB.out (fun e => hd (by injection e)))
          go_wp2_with fail
          go_quiet (fail)
          go_wp2_with fail
          go_ret
          exact ⟨ret_bool HF.out.symm, hs.drewN _⟩
      · have HF : Hid (r = true) := by
          have hk' : k = la.length := by omega
          have ht := HT.out
          rw [hk'] at ht
          exact HR.out.2 (take_all ht HL.out)
        go_wp2_with fail
        go_ret
        exact ⟨ret_bool HF.out.symm, hs⟩
  · have hd : ((la.length : Int) != (lb.length : Int)) = true := by simp; omega
    have HF : Hid (r = false) := by
      show _ = _
      cases r
      · rfl
      · exact absurd (by rw [HR.out.1 rfl]) hl
    clear hl
    go_enter Try.func28, Try.ntmps28
    go_wp2_with fail
    go_ret
    exact ⟨ret_bool HF.out.symm, Chg.refl _ _⟩

set_option maxHeartbeats 3200000 in
set_option maxRecDepth 100000 in
theorem eqpls_any (va vb : Value) (la lb : List PlD) (F G : Nat → Prop) (w : World) (ha : Sl w F 9 va (la.map plCells)) (hb : Sl w G 9 vb (lb.map plCells)) (r : Bool) (hr : r = true ↔ la = lb) :
    Calls Try.prog 29 #[va, vb] w fun en w' => en = .returned (.bool r) ∧ Same w w' := by
  obtain ⟨A, ca, hva, hc1, hc2⟩ := ha.form
  obtain ⟨B, cb, hvb, hc3, hc4⟩ := hb.form
  rw [List.length_map] at hva hvb hc1 hc3
  subst hva; subst hvb
  have HR := Lib.hid hr
  clear hr
  by_cases hl : la.length = lb.length
  · have hl0 : ((la.length : Int) != (lb.length : Int)) = false := by rw [hl]; simp
    have HL := Lib.hid hl
    have hl1 : la.length ≤ lb.length := by omega
    clear hl
    go_enter Try.func29, Try.ntmps29
    go_wp2_with fail
    go_loopw [13] (fun i wr => ∃ k : Nat, i = .int .i64 k ∧ k ≤ la.length ∧ Hid (la.take k = lb.take k) ∧ Same w wr) (fun i _ => la.length - (intOf i).toNat)
    case atStart => exact ⟨0, rfl, Nat.zero_le _, rfl, Chg.refl _ _⟩
    case round =>
      obtain ⟨k, rfl, hk, HT, hs⟩ := hrel
      by_cases hkl : k < la.length
      · obtain ⟨ba, oa, xa, hA, -, hxa, hca⟩ := (ha.same hs).at_ (i := k) (by rw [List.length_map]; exact hkl)
        obtain ⟨bb, ob, xb, hB, -, hxb, hcb⟩ := (hb.same hs).at_ (i := k) (by rw [List.length_map]; omega)
        subst hA; subst hB
        have hga : la[k]? = some la[k] := List.getElem?_eq_getElem hkl
        have hgb : lb[k]? = some (lb[k]'(by omega)) := List.getElem?_eq_getElem (by omega)
        generalize la[k] = oa' at hga
        generalize lb[k]'(by omega) = ob' at hgb
        have hxan : xa = plCells oa' := by rw [List.getElem?_map, hga] at hxa; simpa using hxa.symm
        have hxbn : xb = plCells ob' := by rw [List.getElem?_map, hgb] at hxb; simpa using hxb.symm
        subst hxan; subst hxbn
        obtain ⟨sp1, id1, tx1, ow1, tr1, tb1, kd1, ky1, tt1⟩ := oa'
        obtain ⟨sp2, id2, tx2, ow2, tr2, tb2, kd2, ky2, tt2⟩ := ob'
        have a0 := hca 0 (.int .i64 sp1) rfl
        have b0 := hcb 0 (.int .i64 sp2) rfl
        have a1 := hca 1 (.int .i64 id1) rfl
        have b1 := hcb 1 (.int .i64 id2) rfl
        have a2 := hca 2 (.int .i64 tx1) rfl
        have b2 := hcb 2 (.int .i64 tx2) rfl
        have a3 := hca 3 (.string ow1) rfl
        have b3 := hcb 3 (.string ow2) rfl
        have a4 := hca 4 (.int .i64 tr1) rfl
        have b4 := hcb 4 (.int .i64 tr2) rfl
        have a5 := hca 5 (.int .i64 tb1) rfl
        have b5 := hcb 5 (.int .i64 tb2) rfl
        have a6 := hca 6 (.int .u8 kd1) rfl
        have b6 := hcb 6 (.int .u8 kd2) rfl
        have a7 := hca 7 (.int .i64 ky1) rfl
        have b7 := hcb 7 (.int .i64 ky2) rfl
        have a8 := hca 8 (.string tt1) rfl
        have b8 := hcb 8 (.string tt2) rfl
        rw [Nat.add_zero] at a0 b0
        have hkl' : (k : Int) < (la.length : Int) := by omega
        have hkl2 : (k : Int) < (lb.length : Int) := by omega
        have HGA := Lib.hid hga
        have HGB := Lib.hid hgb
        clear hca hcb hxa hxb hga hgb
        by_cases hd : sp1 = sp2
        · subst hd
          by_cases hd : id1 = id2
          · subst hd
            by_cases hd : tx1 = tx2
            · subst hd
              by_cases hd : ow1 = ow2
              · subst hd
                by_cases hd : tr1 = tr2
                · subst hd
                  by_cases hd : tb1 = tb2
                  · subst hd
                    by_cases hd : kd1 = kd2
                    · subst hd
                      by_cases hd : ky1 = ky2
                      · subst hd
                        by_cases hd : tt1 = tt2
                        · subst hd
                          go_wp2_with fail
                          go_quiet (fail)
                          go_wp2_with fail
                          go_roundw
                          case rel => exact ⟨k + 1, by go_num, by omega, take_more HT.out HGA.out HGB.out, hs.drewN _⟩
                          case measure => simp [intOf]; omega
                        · have HF : Hid (r = false) := by
                            show _ = _
                            cases r
                            · rfl
                            · exact absurd (HR.out.1 rfl) (at_ne HGA.out HGB.out (fun e => hd (by injection e)))
                          have hd2 := text_ne hd
                          clear hd
                          go_wp2_with fail
                          go_quiet (fail)
                          go_wp2_with fail
                          go_ret
                          exact ⟨ret_bool HF.out.symm, hs.drewN _⟩
                      · have HF : Hid (r = false) := by
                          show _ = _
                          cases r
                          · rfl
                          · exact absurd (HR.out.1 rfl) (at_ne HGA.out HGB.out (fun e => hd (by injection e)))
                        go_wp2_with fail
                        go_quiet (fail)
                        go_wp2_with fail
                        go_ret
                        exact ⟨ret_bool HF.out.symm, hs.drewN _⟩
                    · have HF : Hid (r = false) := by
                        show _ = _
                        cases r
                        · rfl
                        · exact absurd (HR.out.1 rfl) (at_ne HGA.out HGB.out (fun e => hd (by injection e)))
                      go_wp2_with fail
                      go_quiet (fail)
                      go_wp2_with fail
                      go_ret
                      exact ⟨ret_bool HF.out.symm, hs.drewN _⟩
                  · have HF : Hid (r = false) := by
                      show _ = _
                      cases r
                      · rfl
                      · exact absurd (HR.out.1 rfl) (at_ne HGA.out HGB.out (fun e => hd (by injection e)))
                    go_wp2_with fail
                    go_quiet (fail)
                    go_wp2_with fail
                    go_ret
                    exact ⟨ret_bool HF.out.symm, hs.drewN _⟩
                · have HF : Hid (r = false) := by
                    show _ = _
                    cases r
                    · rfl
                    · exact absurd (HR.out.1 rfl) (at_ne HGA.out HGB.out (fun e => hd (by injection e)))
                  go_wp2_with fail
                  go_quiet (fail)
                  go_wp2_with fail
                  go_ret
                  exact ⟨ret_bool HF.out.symm, hs.drewN _⟩
              · have HF : Hid (r = false) := by
                  show _ = _
                  cases r
                  · rfl
                  · exact absurd (HR.out.1 rfl) (at_ne HGA.out HGB.out (fun e => hd (by injection e)))
                have hd2 := text_ne hd
                clear hd
                go_wp2_with fail
                go_quiet (fail)
                go_wp2_with fail
                go_ret
                exact ⟨ret_bool HF.out.symm, hs.drewN _⟩
            · have HF : Hid (r = false) := by
                show _ = _
                cases r
                · rfl
                · exact absurd (HR.out.1 rfl) (at_ne HGA.out HGB.out (fun e => hd (by injection e)))
              go_wp2_with fail
              go_quiet (fail)
              go_wp2_with fail
              go_ret
              exact ⟨ret_bool HF.out.symm, hs.drewN _⟩
          · have HF : Hid (r = false) := by
              show _ = _
              cases r
              · rfl
              · exact absurd (HR.out.1 rfl) (at_ne HGA.out HGB.out (fun e => hd (by injection e)))
            go_wp2_with fail
            go_quiet (fail)
            go_wp2_with fail
            go_ret
            exact ⟨ret_bool HF.out.symm, hs.drewN _⟩
        · have HF : Hid (r = false) := by
            show _ = _
            cases r
            · rfl
            · exact absurd (HR.out.1 rfl) (at_ne HGA.out HGB.out (fun e => hd (by injection e)))
          go_wp2_with fail
          go_quiet (fail)
          go_wp2_with fail
          go_ret
          exact ⟨ret_bool HF.out.symm, hs.drewN _⟩
      · have HF : Hid (r = true) := by
          have hk' : k = la.length := by omega
          have ht := HT.out
          rw [hk'] at ht
          exact HR.out.2 (take_all ht HL.out)
        go_wp2_with fail
        go_ret
        exact ⟨ret_bool HF.out.symm, hs⟩
  · have hd : ((la.length : Int) != (lb.length : Int)) = true := by simp; omega
    have HF : Hid (r = false) := by
      show _ = _
      cases r
      · rfl
      · exact absurd (by rw [HR.out.1 rfl]) hl
    clear hl
    go_enter Try.func29, Try.ntmps29
    go_wp2_with fail
    go_ret
    exact ⟨ret_bool HF.out.symm, Chg.refl _ _⟩

end Go.Proofs.Ytdkankiohoocaaa
