/- carrierref16.Same. -/
import Derived.Test.YtdkankiohoocaaaQSmB
namespace Go.Proofs.Ytdkankiohoocaaa
set_option linter.unusedSimpArgs false
set_option linter.unusedVariables false
open Go Go.RowKit Go.Proofs

theorem ops_bound {w : World} {F : Nat → Prop} {v : Value} {l : List OpD} (h : Sl w F 4 v (l.map opCells)) : l.length ≤ 9223372036854775807 := by
  obtain ⟨A, c, -, h1, h2⟩ := h.form
  rw [List.length_map] at h1
  omega
theorem evs_bound {w : World} {F : Nat → Prop} {v : Value} {l : List PlD} (h : Sl w F 9 v (l.map plCells)) : l.length ≤ 9223372036854775807 := by
  obtain ⟨A, c, -, h1, h2⟩ := h.form
  rw [List.length_map] at h1
  omega

set_option maxHeartbeats 6400000 in
set_option maxRecDepth 100000 in
theorem rsame_any (a b : EntD) (vo ve vp uo ue up : Value) (F G : Nat → Prop) (w : World) (ha : EntS w F a vo ve vp) (hb : EntS w G b uo ue up) (r : Bool) (hr : r = true ↔ a = b) :
    Calls Try.prog 14 #[entV a vo ve vp, entV b uo ue up] w fun en w' => en = .returned (.bool r) ∧ Same w w' := by
  obtain ⟨Aao, cao, Aae, cae, Aap, cap, rfl, rfl, rfl⟩ := ent_forms ha
  obtain ⟨Abo, cbo, Abe, cbe, Abp, cbp, rfl, rfl, rfl⟩ := ent_forms hb
  obtain ⟨b1, b2, hs⟩ := two_new' w (.cells #[.int .u8 a.kind, .int .i64 a.tx, .int .i64 a.next, .int .i64 a.nextID, .slice Aao a.ops.length cao, .slice Aae a.evs.length cae, .int .i64 a.tickN, .int .i64 a.max, .slice Aap a.opn.length cap, .int .i64 a.tickAt, .string a.name, .int .i64 a.n, .int .i64 a.at_] 35) (.cells #[.int .u8 b.kind, .int .i64 b.tx, .int .i64 b.next, .int .i64 b.nextID, .slice Abo b.ops.length cbo, .slice Abe b.evs.length cbe, .int .i64 b.tickN, .int .i64 b.max, .slice Abp b.opn.length cbp, .int .i64 b.tickAt, .string b.name, .int .i64 b.n, .int .i64 b.at_] 35)
  obtain ⟨x0, x1, x2, x3, x4, x5, x6, x7, x8, x9, x10, x11, x12⟩ := ent_cells b1
  obtain ⟨y0, y1, y2, y3, y4, y5, y6, y7, y8, y9, y10, y11, y12⟩ := ent_cells b2
  have HB1 := Lib.hid b1
  have HB2 := Lib.hid b2
  obtain ⟨r2, hr2⟩ := bool_of (a.tickN = b.tickN ∧ a.tickAt = b.tickAt ∧ a.max = b.max ∧ a.opn = b.opn)
  have HR : Hid (r = true ↔ (a.kind = b.kind ∧ a.tx = b.tx ∧ a.next = b.next ∧ a.nextID = b.nextID ∧ a.name = b.name ∧ a.n = b.n ∧ a.at_ = b.at_ ∧ r2 = true ∧ a.ops = b.ops ∧ a.evs = b.evs)) := by
    show _ ↔ _
    rw [hr, hr2]
    constructor
    · rintro rfl; simp
    · obtain ⟨k0, tx, nx, nid, os, evs, tn, mx, op, ta, nm, n, at_⟩ := a
      obtain ⟨k0', tx', nx', nid', os', evs', tn', mx', op', ta', nm', n', at_'⟩ := b
      simp only
      rintro ⟨rfl, rfl, rfl, rfl, rfl, rfl, rfl, ⟨rfl, rfl, rfl, rfl⟩, rfl, rfl⟩
      rfl
  have HR2 := Lib.hid hr2
  clear hr hr2
  have HS := Lib.hid hs
  clear hs b1 b2
  unfold entV
  unfold entCells
  by_cases hd_kind : a.kind = b.kind
  · have e_kind : (a.kind != b.kind) = false := by simpa using hd_kind
    by_cases hd_tx : a.tx = b.tx
    · have e_tx : (a.tx != b.tx) = false := by simpa using hd_tx
      by_cases hd_next : a.next = b.next
      · have e_next : (a.next != b.next) = false := by simpa using hd_next
        by_cases hd_nextID : a.nextID = b.nextID
        · have e_nextID : (a.nextID != b.nextID) = false := by simpa using hd_nextID
          by_cases hd_name : a.name = b.name
          · have e_name : a.name.toList = b.name.toList := by rw [hd_name]
            by_cases hd_n : a.n = b.n
            · have e_n : (a.n != b.n) = false := by simpa using hd_n
              by_cases hd_at_ : a.at_ = b.at_
              · have e_at_ : (a.at_ != b.at_) = false := by simpa using hd_at_
                have HT : Hid (r = true ↔ (r2 = true ∧ a.ops = b.ops ∧ a.evs = b.evs)) := by
                  show _ ↔ _
                  rw [HR.out]
                  exact ⟨fun h => h.2.2.2.2.2.2.2, fun h => ⟨hd_kind, hd_tx, hd_next, hd_nextID, hd_name, hd_n, hd_at_, h⟩⟩
                clear HR hd_kind hd_tx hd_next hd_nextID hd_name hd_n hd_at_
                go_enter Try.func14, Try.ntmps14
                go_wp2_with fail
                refine (tickSame_any a.tickN b.tickN a.max b.max a.tickAt b.tickAt _ _ a.opn b.opn F G _ (ha.opn.same HS.out) (hb.opn.same HS.out) r2 HR2.out).mono ?_
                rintro _ w1 ⟨rfl, hs1⟩
                have HS1 := Lib.hid (HS.out.trans hs1)
                have HB1' := Lib.hid (hs1.at_ HB1.out (fun h => h))
                have HB2' := Lib.hid (hs1.at_ HB2.out (fun h => h))
                obtain ⟨p0, p1, p2, p3, p4, p5, p6, p7, p8, p9, p10, p11, p12⟩ := ent_cells HB1'.out
                obtain ⟨q0, q1, q2, q3, q4, q5, q6, q7, q8, q9, q10, q11, q12⟩ := ent_cells HB2'.out
                clear hs1 HB1 HB2 HR2 x0 x1 x2 x3 x4 x5 x6 x7 x8 x9 x10 x11 x12 y0 y1 y2 y3 y4 y5 y6 y7 y8 y9 y10 y11 y12
                cases r2
                · have HF : Hid (r = false) := is_false HT.out (fun h => by simp at h)
                  go_wp2_with fail
                  go_ret
                  exact ⟨ret_bool HF.out.symm, HS1.out⟩
                · by_cases hlo : a.ops.length = b.ops.length
                  · have l_o : ((a.ops.length : Int) != (b.ops.length : Int)) = false := by rw [hlo]; simp
                    by_cases hle : a.evs.length = b.evs.length
                    · have l_e : ((a.evs.length : Int) != (b.evs.length : Int)) = false := by rw [hle]; simp
                      have HLO := Lib.hid hlo
                      have HLE := Lib.hid hle
                      have hlo1 : a.ops.length ≤ b.ops.length := by omega
                      have hle1 : a.evs.length ≤ b.evs.length := by omega
                      have hbo := ops_bound ha.ops
                      have hbe := evs_bound ha.evs
                      clear hlo hle
                      obtain ⟨W1, hW1⟩ : ∃ W, w1 = W := ⟨_, rfl⟩
                      rw [hW1] at HS1 HB1' HB2' p0 p1 p2 p3 p4 p5 p6 p7 p8 p9 p10 p11 p12 q0 q1 q2 q3 q4 q5 q6 q7 q8 q9 q10 q11 q12 ⊢
                      clear hW1
                      go_wp2_with fail
                      go_loopw [5] (fun i wr => ∃ k : Nat, i = .int .i64 k ∧ k ≤ a.ops.length ∧ Hid (a.ops.take k = b.ops.take k) ∧ Same W1 wr) (fun i _ => a.ops.length - (intOf i).toNat)
                      case atStart => exact ⟨0, rfl, Nat.zero_le _, rfl, Chg.refl _ _⟩
                      case round =>
                        obtain ⟨k, rfl, hk, HT1, hsr⟩ := hrel
                        have hsr0 := HS1.out.trans hsr
                        obtain ⟨u0, u1, u2, u3, u4, u5, u6, u7, u8, u9, u10, u11, u12⟩ := ent_cells (hsr.at_ HB1'.out (fun h => h))
                        obtain ⟨v0, v1, v2, v3, v4, v5, v6, v7, v8, v9, v10, v11, v12⟩ := ent_cells (hsr.at_ HB2'.out (fun h => h))
                        by_cases hkl : k < a.ops.length
                        · obtain ⟨ba, oa, xa, hA, -, hxa, hca⟩ := (ha.ops.same hsr0).at_ (i := k) (by rw [List.length_map]; exact hkl)
                          obtain ⟨bb, ob, xb, hB, -, hxb, hcb⟩ := (hb.ops.same hsr0).at_ (i := k) (by rw [List.length_map]; omega)
                          subst hA; subst hB
                          have hga : a.ops[k]? = some a.ops[k] := List.getElem?_eq_getElem hkl
                          have hgb : b.ops[k]? = some (b.ops[k]'(by omega)) := List.getElem?_eq_getElem (by omega)
                          generalize a.ops[k] = oa' at hga
                          generalize b.ops[k]'(by omega) = ob' at hgb
                          have hxan : xa = opCells oa' := by rw [List.getElem?_map, hga] at hxa; simpa using hxa.symm
                          have hxbn : xb = opCells ob' := by rw [List.getElem?_map, hgb] at hxb; simpa using hxb.symm
                          subst hxan; subst hxbn
                          obtain ⟨t1, g1, k1, x1⟩ := oa'
                          obtain ⟨t2, g2, k2, x2⟩ := ob'
                          have a0 := hca 0 (.int .i64 t1) rfl
                          have b0 := hcb 0 (.int .i64 t2) rfl
                          have a1 := hca 1 (.bool g1) rfl
                          have b1 := hcb 1 (.bool g2) rfl
                          have a2 := hca 2 (.int .i64 k1) rfl
                          have b2 := hcb 2 (.int .i64 k2) rfl
                          have a3 := hca 3 (.string x1) rfl
                          have b3 := hcb 3 (.string x2) rfl
                          rw [Nat.add_zero] at a0 b0
                          have hkl' : (k : Int) < (a.ops.length : Int) := by omega
                          have hkl2 : (k : Int) < (b.ops.length : Int) := by omega
                          have HGA := Lib.hid hga
                          have HGB := Lib.hid hgb
                          clear hca hcb hxa hxb hga hgb
                          by_cases hd : t1 = t2
                          · subst hd
                            by_cases hd : g1 = g2
                            · subst hd
                              by_cases hd : k1 = k2
                              · subst hd
                                by_cases hd : x1 = x2
                                · subst hd
                                  go_wp2_with fail
                                  go_quiet (fail)
                                  go_wp2_with fail
                                  go_roundw
                                  case rel => exact ⟨k + 1, by go_num, by omega, take_more HT1.out HGA.out HGB.out, hsr.drewN _⟩
                                  case measure => simp [intOf]; omega
                                · have HF : Hid (r = false) := is_false HT.out (fun h => at_ne HGA.out HGB.out (fun e => hd (by injection e)) h.2.1)
                                  have hd2 := text_ne hd
                                  clear hd
                                  go_wp2_with fail
                                  go_quiet (fail)
                                  go_wp2_with fail
                                  go_ret
                                  exact ⟨ret_bool HF.out.symm, hsr0.drewN _⟩
                              · have HF : Hid (r = false) := is_false HT.out (fun h => at_ne HGA.out HGB.out (fun e => hd (by injection e)) h.2.1)
                                go_wp2_with fail
                                go_quiet (fail)
                                go_wp2_with fail
                                go_ret
                                exact ⟨ret_bool HF.out.symm, hsr0.drewN _⟩
                            · have HF : Hid (r = false) := is_false HT.out (fun h => at_ne HGA.out HGB.out (fun e => hd (by injection e)) h.2.1)
                              go_wp2_with fail
                              go_quiet (fail)
                              go_wp2_with fail
                              go_ret
                              exact ⟨ret_bool HF.out.symm, hsr0.drewN _⟩
                          · have HF : Hid (r = false) := is_false HT.out (fun h => at_ne HGA.out HGB.out (fun e => hd (by injection e)) h.2.1)
                            go_wp2_with fail
                            go_quiet (fail)
                            go_wp2_with fail
                            go_ret
                            exact ⟨ret_bool HF.out.symm, hsr0.drewN _⟩
                        · have hk' : k = a.ops.length := by omega
                          have HO : Hid (a.ops = b.ops) := by
                            show _ = _
                            have ht := HT1.out
                            rw [hk'] at ht
                            exact take_all ht HLO.out
                          have HL1 := Lib.hid hsr
                          clear hsr HT1 hsr0
                          go_wp2_with fail
                          go_loopw [6] (fun i wr => ∃ k : Nat, i = .int .i64 k ∧ k ≤ a.evs.length ∧ Hid (a.evs.take k = b.evs.take k) ∧ Same W1 wr) (fun i _ => a.evs.length - (intOf i).toNat)
                          case atStart => exact ⟨0, rfl, Nat.zero_le _, rfl, HL1.out⟩
                          case round =>
                            obtain ⟨k, rfl, hk, HT1, hsr⟩ := hrel
                            have hsr0 := HS1.out.trans hsr
                            obtain ⟨u0, u1, u2, u3, u4, u5, u6, u7, u8, u9, u10, u11, u12⟩ := ent_cells (hsr.at_ HB1'.out (fun h => h))
                            obtain ⟨v0, v1, v2, v3, v4, v5, v6, v7, v8, v9, v10, v11, v12⟩ := ent_cells (hsr.at_ HB2'.out (fun h => h))
                            by_cases hkl : k < a.evs.length
                            · obtain ⟨ba, oa, xa, hA, -, hxa, hca⟩ := (ha.evs.same hsr0).at_ (i := k) (by rw [List.length_map]; exact hkl)
                              obtain ⟨bb, ob, xb, hB, -, hxb, hcb⟩ := (hb.evs.same hsr0).at_ (i := k) (by rw [List.length_map]; omega)
                              subst hA; subst hB
                              have hga : a.evs[k]? = some a.evs[k] := List.getElem?_eq_getElem hkl
                              have hgb : b.evs[k]? = some (b.evs[k]'(by omega)) := List.getElem?_eq_getElem (by omega)
                              generalize a.evs[k] = oa' at hga
                              generalize b.evs[k]'(by omega) = ob' at hgb
                              have hxan : xa = plCells oa' := by rw [List.getElem?_map, hga] at hxa; simpa using hxa.symm
                              have hxbn : xb = plCells ob' := by rw [List.getElem?_map, hgb] at hxb; simpa using hxb.symm
                              subst hxan; subst hxbn
                              obtain ⟨sp1, id1, tx1, ow1, tr1, tb1, kd1, ky1, tt1⟩ := oa'
                              obtain ⟨sp2, id2, tx2, ow2, tr2, tb2, kd2, ky2, tt2⟩ := ob'
                              have a0 := hca 0 (.int .i64 sp1) rfl
                              have b0 := hcb 0 (.int .i64 sp2) rfl
                              have a1 := hca 1 (.int .i64 id1) rfl
                              have b1 := hcb 1 (.int .i64 id2) rfl
                              have a2 := hca 2 (.int .i64 tx1) rfl
                              have b2 := hcb 2 (.int .i64 tx2) rfl
                              have a3 := hca 3 (.string ow1) rfl
                              have b3 := hcb 3 (.string ow2) rfl
                              have a4 := hca 4 (.int .i64 tr1) rfl
                              have b4 := hcb 4 (.int .i64 tr2) rfl
                              have a5 := hca 5 (.int .i64 tb1) rfl
                              have b5 := hcb 5 (.int .i64 tb2) rfl
                              have a6 := hca 6 (.int .u8 kd1) rfl
                              have b6 := hcb 6 (.int .u8 kd2) rfl
                              have a7 := hca 7 (.int .i64 ky1) rfl
                              have b7 := hcb 7 (.int .i64 ky2) rfl
                              have a8 := hca 8 (.string tt1) rfl
                              have b8 := hcb 8 (.string tt2) rfl
                              rw [Nat.add_zero] at a0 b0
                              have hkl' : (k : Int) < (a.evs.length : Int) := by omega
                              have hkl2 : (k : Int) < (b.evs.length : Int) := by omega
                              have HGA := Lib.hid hga
                              have HGB := Lib.hid hgb
                              clear hca hcb hxa hxb hga hgb
                              by_cases hd : sp1 = sp2
                              · subst hd
                                by_cases hd : id1 = id2
                                · subst hd
                                  by_cases hd : tx1 = tx2
                                  · subst hd
                                    by_cases hd : ow1 = ow2
                                    · subst hd
                                      by_cases hd : tr1 = tr2
                                      · subst hd
                                        by_cases hd : tb1 = tb2
                                        · subst hd
                                          by_cases hd : kd1 = kd2
                                          · subst hd
                                            by_cases hd : ky1 = ky2
                                            · subst hd
                                              by_cases hd : tt1 = tt2
                                              · subst hd
                                                go_wp2_with fail
                                                go_quiet (fail)
                                                go_wp2_with fail
                                                go_roundw
                                                case rel => exact ⟨k + 1, by go_num, by omega, take_more HT1.out HGA.out HGB.out, hsr.drewN _⟩
                                                case measure => simp [intOf]; omega
                                              · have HF : Hid (r = false) := is_false HT.out (fun h => at_ne HGA.out HGB.out (fun e => hd (by injection e)) h.2.2)
                                                have hd2 := text_ne hd
                                                clear hd
                                                go_wp2_with fail
                                                go_quiet (fail)
                                                go_wp2_with fail
                                                go_ret
                                                exact ⟨ret_bool HF.out.symm, hsr0.drewN _⟩
                                            · have HF : Hid (r = false) := is_false HT.out (fun h => at_ne HGA.out HGB.out (fun e => hd (by injection e)) h.2.2)
                                              go_wp2_with fail
                                              go_quiet (fail)
                                              go_wp2_with fail
                                              go_ret
                                              exact ⟨ret_bool HF.out.symm, hsr0.drewN _⟩
                                          · have HF : Hid (r = false) := is_false HT.out (fun h => at_ne HGA.out HGB.out (fun e => hd (by injection e)) h.2.2)
                                            go_wp2_with fail
                                            go_quiet (fail)
                                            go_wp2_with fail
                                            go_ret
                                            exact ⟨ret_bool HF.out.symm, hsr0.drewN _⟩
                                        · have HF : Hid (r = false) := is_false HT.out (fun h => at_ne HGA.out HGB.out (fun e => hd (by injection e)) h.2.2)
                                          go_wp2_with fail
                                          go_quiet (fail)
                                          go_wp2_with fail
                                          go_ret
                                          exact ⟨ret_bool HF.out.symm, hsr0.drewN _⟩
                                      · have HF : Hid (r = false) := is_false HT.out (fun h => at_ne HGA.out HGB.out (fun e => hd (by injection e)) h.2.2)
                                        go_wp2_with fail
                                        go_quiet (fail)
                                        go_wp2_with fail
                                        go_ret
                                        exact ⟨ret_bool HF.out.symm, hsr0.drewN _⟩
                                    · have HF : Hid (r = false) := is_false HT.out (fun h => at_ne HGA.out HGB.out (fun e => hd (by injection e)) h.2.2)
                                      have hd2 := text_ne hd
                                      clear hd
                                      go_wp2_with fail
                                      go_quiet (fail)
                                      go_wp2_with fail
                                      go_ret
                                      exact ⟨ret_bool HF.out.symm, hsr0.drewN _⟩
                                  · have HF : Hid (r = false) := is_false HT.out (fun h => at_ne HGA.out HGB.out (fun e => hd (by injection e)) h.2.2)
                                    go_wp2_with fail
                                    go_quiet (fail)
                                    go_wp2_with fail
                                    go_ret
                                    exact ⟨ret_bool HF.out.symm, hsr0.drewN _⟩
                                · have HF : Hid (r = false) := is_false HT.out (fun h => at_ne HGA.out HGB.out (fun e => hd (by injection e)) h.2.2)
                                  go_wp2_with fail
                                  go_quiet (fail)
                                  go_wp2_with fail
                                  go_ret
                                  exact ⟨ret_bool HF.out.symm, hsr0.drewN _⟩
                              · have HF : Hid (r = false) := is_false HT.out (fun h => at_ne HGA.out HGB.out (fun e => hd (by injection e)) h.2.2)
                                go_wp2_with fail
                                go_quiet (fail)
                                go_wp2_with fail
                                go_ret
                                exact ⟨ret_bool HF.out.symm, hsr0.drewN _⟩
                            · have hk' : k = a.evs.length := by omega
                              have HV : Hid (a.evs = b.evs) := by
                                show _ = _
                                have ht := HT1.out
                                rw [hk'] at ht
                                exact take_all ht HLE.out
                              have HF : Hid (r = true) := HT.out.2 ⟨by trivial, HO.out, HV.out⟩
                              go_wp2_with fail
                              go_ret
                              exact ⟨ret_bool HF.out.symm, hsr0⟩
                    · have l_e : ((a.evs.length : Int) != (b.evs.length : Int)) = true := by simp; omega
                      have HF : Hid (r = false) := is_false HT.out (fun h => hle (by rw [h.2.2]))
                      clear hle
                      go_wp2_with fail
                      go_ret
                      exact ⟨ret_bool HF.out.symm, HS1.out⟩
                  · have l_o : ((a.ops.length : Int) != (b.ops.length : Int)) = true := by simp; omega
                    have HF : Hid (r = false) := is_false HT.out (fun h => hlo (by rw [h.2.1]))
                    clear hlo
                    go_wp2_with fail
                    go_ret
                    exact ⟨ret_bool HF.out.symm, HS1.out⟩
              · have HF : Hid (r = false) := is_false HR.out (fun h => hd_at_ h.2.2.2.2.2.2.1)
                have e_at_ : (a.at_ != b.at_) = true := by simpa using hd_at_
                clear HR hd_kind hd_tx hd_next hd_nextID hd_name hd_n hd_at_
                go_enter Try.func14, Try.ntmps14
                go_wp2_with fail
                go_ret
                exact ⟨ret_bool HF.out.symm, HS.out⟩
            · have HF : Hid (r = false) := is_false HR.out (fun h => hd_n h.2.2.2.2.2.1)
              have e_n : (a.n != b.n) = true := by simpa using hd_n
              clear HR hd_kind hd_tx hd_next hd_nextID hd_name hd_n
              go_enter Try.func14, Try.ntmps14
              go_wp2_with fail
              go_ret
              exact ⟨ret_bool HF.out.symm, HS.out⟩
          · have HF : Hid (r = false) := is_false HR.out (fun h => hd_name h.2.2.2.2.1)
            have e_name := text_ne hd_name
            clear HR hd_kind hd_tx hd_next hd_nextID hd_name
            go_enter Try.func14, Try.ntmps14
            go_wp2_with fail
            go_ret
            exact ⟨ret_bool HF.out.symm, HS.out⟩
        · have HF : Hid (r = false) := is_false HR.out (fun h => hd_nextID h.2.2.2.1)
          have e_nextID : (a.nextID != b.nextID) = true := by simpa using hd_nextID
          clear HR hd_kind hd_tx hd_next hd_nextID
          go_enter Try.func14, Try.ntmps14
          go_wp2_with fail
          go_ret
          exact ⟨ret_bool HF.out.symm, HS.out⟩
      · have HF : Hid (r = false) := is_false HR.out (fun h => hd_next h.2.2.1)
        have e_next : (a.next != b.next) = true := by simpa using hd_next
        clear HR hd_kind hd_tx hd_next
        go_enter Try.func14, Try.ntmps14
        go_wp2_with fail
        go_ret
        exact ⟨ret_bool HF.out.symm, HS.out⟩
    · have HF : Hid (r = false) := is_false HR.out (fun h => hd_tx h.2.1)
      have e_tx : (a.tx != b.tx) = true := by simpa using hd_tx
      clear HR hd_kind hd_tx
      go_enter Try.func14, Try.ntmps14
      go_wp2_with fail
      go_ret
      exact ⟨ret_bool HF.out.symm, HS.out⟩
  · have HF : Hid (r = false) := is_false HR.out (fun h => hd_kind h.1)
    have e_kind : (a.kind != b.kind) = true := by simpa using hd_kind
    clear HR hd_kind
    go_enter Try.func14, Try.ntmps14
    go_wp2_with fail
    go_ret
    exact ⟨ret_bool HF.out.symm, HS.out⟩
end Go.Proofs.Ytdkankiohoocaaa
