/- The walk of carrierref16.getEvents. -/
import Derived.Test.YtdkankiohoocaaaQRfI
import Derived.Test.YtdkankiohoocaaaQCls
namespace Go.Proofs.Ytdkankiohoocaaa
set_option linter.unusedSimpArgs false
set_option linter.unusedVariables false
open Go Go.RowKit Go.Proofs

theorem decV_pl (sp : Int) (d : Dec) : ∃ p : PlD, p.spool = sp ∧ decV d = .tuple #[evv p.id p.tx p.owner p.tries p.table p.kind p.key p.text, .int .i64 d.f] ∧ (d.f = 0 → p = ⟨sp, d.id, d.tx, ⟨d.owner.toArray⟩, d.tries, d.table, d.kind, d.key, ⟨d.text.toArray⟩⟩) := by
  unfold decV
  by_cases h : d.f = 0
  · exact ⟨⟨sp, d.id, d.tx, ⟨d.owner.toArray⟩, d.tries, d.table, d.kind, d.key, ⟨d.text.toArray⟩⟩, rfl, by rw [if_pos h, h], fun _ => rfl⟩
  · exact ⟨⟨sp, 0, 0, ⟨#[]⟩, 0, 0, 0, 0, ⟨#[]⟩⟩, rfl, by rw [if_neg h]; rfl, fun h' => absurd h' h⟩
section
variable {w0 w w' : World} {F : Nat → Prop} {b R c c1 k : Nat} {rx : Array Value} {RT e : TypeId} {A A1 : Option Addr} {st st' : St} {v : Value} {xs : List (List Value)}
theorem LH.put (h : LH w0 w F b R rx RT A c st e k v xs) (hb : Bs w (fun k => F k ∧ k < w0.heap.size) (.slice A1 st'.1.length c1) st'.1) (hl : st'.1.length ≤ 140737488355328) :
    LH w0 ((w.setCell ⟨b, 0, none⟩ (.slice A1 st'.1.length c1)).setCell ⟨b, 1, none⟩ (.int .i64 st'.2)) F b R rx RT A1 c1 st' e k v xs := by
  have hc : Chg (fun k => k = b) w ((w.setCell ⟨b, 0, none⟩ (.slice A1 st'.1.length c1)).setCell ⟨b, 1, none⟩ (.int .i64 st'.2)) :=
    Chg.setCell (S := fun k => k = b) (Chg.setCell (S := fun k => k = b) (Chg.refl _ w) (p := ⟨b, 0, none⟩) (fun _ => rfl) _) (p := ⟨b, 1, none⟩) (fun _ => rfl) _
  have := h.old
  exact ⟨two_set1 (two_set0 h.rd), hb.keep hc (fun k hk e => by omega), h.pr.keep hc h.pr.old.2 (fun g hg => (h.pr.row g hg).2.1), h.same.since hc (fun k hk => by omega), h.old, hl⟩
theorem LH.get (h : LH w0 w F b R rx RT A c st e k v xs) (most : Nat) (hm : most ≤ 9223372036854775807) (q : Nat × St) (hq : Hid (stepNum 0 most st = q)) :
    Calls Try.prog 51 #[rdr (.slice A st.1.length c) st.2, .int .u64 most] w fun en w' =>
      ∃ A1 c1, en = .returned (.tuple #[.int .i64 (q.1 : Int), rdr (.slice A1 q.2.1.length c1) q.2.2]) ∧ LH w0 w' F b R rx RT A c st e k v xs ∧ LH w0 ((w'.setCell ⟨b, 0, none⟩ (.slice A1 q.2.1.length c1)).setCell ⟨b, 1, none⟩ (.int .i64 q.2.2)) F b R rx RT A1 c1 q.2 e k v xs :=
  (rget_any most hm A c _ st.1 st.2 w h.bs q hq).mono fun en w' ⟨A1, c1, h1, h2, h3⟩ =>
    ⟨A1, c1, h1, h.keep h3, (h.keep h3).put h2 (by have := h.len; have := stepNum_len 0 most st; rw [hq.out] at this; omega)⟩
theorem LH.text (h : LH w0 w F b R rx RT A c st e k v xs) (most : Int) (h0 : 0 ≤ most) (h1 : most ≤ 1000) (q : List UInt8 × St) (hq : Hid (readText st.1 st.2 most = q)) :
    Calls Try.prog 52 #[rdr (.slice A st.1.length c) st.2, .int .i64 most] w fun en w' =>
      ∃ A1 c1, en = .returned (.tuple #[.string ⟨q.1.toArray⟩, rdr (.slice A1 q.2.1.length c1) q.2.2]) ∧ LH w0 w' F b R rx RT A c st e k v xs ∧ LH w0 ((w'.setCell ⟨b, 0, none⟩ (.slice A1 q.2.1.length c1)).setCell ⟨b, 1, none⟩ (.int .i64 q.2.2)) F b R rx RT A1 c1 q.2 e k v xs :=
  (ptext_any _ _ st.1 st.2 most w h.bs h.len (by omega) (by omega)).mono fun en w' ⟨v', h1, h2, h3⟩ => by
    have hl := readText_len st.1 st.2 most
    rw [hq.out] at h1 h2 hl
    obtain ⟨A1, c1, hv, -, -, -⟩ := id h2
    subst hv
    exact ⟨A1, c1, h1, h.keep h3, (h.keep h3).put h2 (by have := h.len; omega)⟩
theorem LH.cells (h : LH w0 w F b R rx RT A c st e k v xs) : w.cell? ⟨b, 0, none⟩ = some (.slice A st.1.length c) ∧ w.cell? ⟨b, 1, none⟩ = some (.int .i64 st.2) ∧ w.frozen? ⟨b, 0, none⟩ = false ∧ w.frozen? ⟨b, 1, none⟩ = false := two_cells h.rd
end

set_option maxHeartbeats 3200000 in
set_option maxRecDepth 100000 in
theorem rgetEvents_any (A : Option Addr) (c : Nat) (F : Nat → Prop) (l : List UInt8) (e : Int) (w : World) (h : Bs w F (.slice A l.length c) l) (hl : l.length ≤ 140737488355328) (y : List PlD × St) (hy : Hid (getPls (l, e) = y)) :
    Calls Try.prog 49 #[rdr (.slice A l.length c) e] w (GetPost 9 plCells w F y) := by
  obtain ⟨q, HQ⟩ : ∃ q, Hid (stepNum 0 255 (l, e) = q) := ⟨_, rfl⟩
  have HY : Hid (iter plStep q.1 [] q.2 = y) := by show _ = _; rw [← HQ.out]; exact hy.out
  have hq255 : q.1 ≤ 255 := by rw [← HQ.out]; exact stepNum_most _ _ _
  have hql : q.2.1.length ≤ l.length := by rw [← HQ.out]; exact stepNum_len _ _ _
  have hbo := Lib.hid ((h.old.alloc (.cells #[.slice A l.length c, .int .i64 e] 107)).alloc (.cells rd0 107))
  obtain ⟨i0, hi, hz0, hz1, hz2⟩ := info_parts info_rpl
  clear hy
  go_enter Try.func49, Try.ntmps49
  go_wp2_with fail
  refine (rget_any 255 (by omega) _ _ _ l e _ hbo.out q HQ).mono ?_
  rintro _ w1 ⟨A1, c1, rfl, hb1, hs1⟩
  have HH := Lib.hid (LH.start (te := 76) (k := 9) hb1 hs1 (Nat.le_trans hql hl))
  clear hb1 hs1 hbo h hl hql
  go_upto_region 2 with fail
  have hH := HH.out
  clear HH
  generalize w1.alloc (.cells #[.slice A1 q.2.1.length c1, .int .i64 q.2.2] 107) = W1 at *
  generalize w1.heap.size = b at *
  obtain ⟨R, hR⟩ : ∃ R, w.heap.size + 1 = R := ⟨_, rfl⟩
  rw [hR] at hH ⊢
  clear hR
  have HH := Lib.hid hH
  clear hH
  go_wp2_with fail
  go_loopw [6, 7] (fun o i wr => ∃ (j k : Nat) (l xs : List PlD) (st : St) (A : Option Addr) (c : Nat), i = .int .i64 j ∧ j + k = q.1 ∧ l.length + k ≤ 255 ∧ xs.length = l.length ∧ (st.2 = 0 → xs = l) ∧ LH w wr F b R rd0 107 A c st 76 9 o (xs.map plCells) ∧ Hid (iter plStep k l st = y)) (fun _ i _ => q.1 - (intOf i).toNat)
  case atStart => exact ⟨0, q.1, [], [], q.2, A1, c1, rfl, by omega, by simpa using hq255, rfl, fun _ => rfl, HH.out, HY⟩
  case round =>
    clear HH HY HQ
    obtain ⟨j, k, l', xs, st, A2, c2, rfl, hjk, hlk, hxl, hxe, hH, hI⟩ := hrel
    obtain ⟨r0, r1, rf0, rf1⟩ := hH.cells
    obtain ⟨z0, z1, z2, z3⟩ := two_cells hH.pr.res
    have hRb := hH.pr.old.2
    have hcl : ∀ x ∈ xs.map plCells, x.length = 9 := by intro x hx; obtain ⟨o, -, rfl⟩ := List.mem_map.1 hx; rfl
    obtain ⟨Ao, co, hv, -, -⟩ := (hH.sl (by omega) hcl).form
    rw [List.length_map] at hv
    subst hv
    have HFin := Lib.hid (hH.fin (by omega) hcl)
    have HXL := Lib.hid hxl
    clear hxl
    cases k with
    | zero =>
      have hjq : ¬ (j : Int) < (q.1 : Int) := by omega
      have HY : Hid (y = (l', st)) := hI.out.symm
      have HX := Lib.hid hxe
      clear hI hH hcl hxe
      go_wp2_with fail
      go_region
      all_goals
        go_wp2_with fail
        refine bodyPost_ret (v := .tuple #[.slice Ao xs.length co, rdr (.slice A2 st.1.length c2) st.2]) (by simp [results, Try.results49, go_sem, rdr, r0, r1, z0, z1]) rfl ?_
        obtain ⟨f1, f2, f3⟩ := HFin.out (.slice A2 st.1.length c2) (.int .i64 st.2)
        rw [HY.out]
        exact ⟨Ao, _, co, xs, A2, c2, rfl, f1, f2, HX.out, f3, by have := HXL.out; omega⟩
    | succ k =>
      have hjq : (j : Int) < (q.1 : Int) := by omega
      by_cases hz : st.2 = 0
      · have hxs := hxe hz
        subst hxs
        obtain ⟨q1, H1⟩ : ∃ q, Hid (stepNum 0 255 st = q) := ⟨_, rfl⟩
        obtain ⟨q2, H2⟩ : ∃ q, Hid (readText q1.2.1 q1.2.2 400 = q) := ⟨_, rfl⟩
        have hqf : q2.1.length ≤ 400 := by rw [← H2.out]; exact readText_few _ _ _
        have HP : Hid (plStep xs st = (xs ++ [(evOne q1.1 q1.2).1], (evOne q1.1 q1.2).2)) := by show _ = _; unfold plStep; rw [plOne_is, H1.out]
        have HI : Hid (iter plStep k (xs ++ [(evOne q1.1 q1.2).1]) (evOne q1.1 q1.2).2 = y) := by show _ = _; rw [← hI.out, iter_more plStep k xs st hz, HP.out]
        have hst1 : (st.2 == 0) = true := by simp [hz]
        clear hz hI hcl HFin HP hxe HXL z0 z1 z2 z3
        go_upto_region 8 with fail
        go_wp2_with fail
        refine (hH.get 255 (by omega) q1 H1).mono ?_
        rintro _ w3 ⟨A3, c3, rfl, hK1, hK1'⟩
        clear hH r0 r1 rf0 rf1
        obtain ⟨r0, r1, rf0, rf1⟩ := hK1.cells
        go_wp2_with fail
        refine (hK1'.text 400 (by omega) (by omega) q2 H2).mono ?_
        rintro _ w4 ⟨A4, c4, rfl, hK2, hK2'⟩
        clear hK1 hK1' r0 r1 rf0 rf1
        obtain ⟨r0, r1, rf0, rf1⟩ := hK2.cells
        have HK := Lib.hid hK2'
        go_upto_region 10 with fail
        generalize (w4.setCell ⟨b, 0, none⟩ (.slice A4 q2.2.1.length c4)).setCell ⟨b, 1, none⟩ (.int .i64 q2.2.2) = W5 at *
        clear hK2 hK2' r0 r1 rf0 rf1
        have hK := HK.out
        clear HK
        obtain ⟨r0, r1, rf0, rf1⟩ := hK.cells
        by_cases hq2 : q2.2.2 = 0
        · have hq21 : (q2.2.2 != 0) = false := by simp [hq2]
          have hb5 := hK.bs
          obtain ⟨d, HD⟩ : ∃ d, Hid (decE q2.1 = d) := ⟨_, rfl⟩
          have HO : Hid (evOne q1.1 q1.2 = (⟨q1.1, d.id, d.tx, ⟨d.owner.toArray⟩, d.tries, d.table, d.kind, d.key, ⟨d.text.toArray⟩⟩, if d.f ≠ 0 then ([], d.f) else q2.2)) := by
            show _ = _; unfold evOne; rw [H2.out]; simp [hq2, HD.out]
          have hsz : (⟨q2.1.toArray⟩ : ByteArray).size ≤ 140737488355328 := by rw [← size_toList]; simp; omega
          go_wp2_with (refine wl_ofS rfl _ rfl ⟨q2.1.toArray⟩ rfl (by omega) ?_; intro A6 k6 cp6 w6 hb6 hs6)
          have hb6' : Bs w6 (fun k => W5.heap.size ≤ k) (.slice A6 k6 cp6) q2.1 := by simpa using hb6
          refine (pdecode_any _ _ q2.1 w6 hb6' (by omega)).mono ?_
          rintro _ w7 ⟨rfl, hs7⟩
          rw [HD.out]
          have hK7 := hK.keep (hs6.trans hs7)
          clear hb6 hb6' hs6 hs7 hK hb5 r0 r1 rf0 rf1 hsz
          obtain ⟨p, hps, hpv, hpd⟩ := decV_pl (q1.1 : Int) d
          rw [hpv]
          have HPS := Lib.hid hps
          have HE := Lib.hid (hK7.make #[.int .i64 p.id, .int .i64 p.tx, .string p.owner, .int .i64 p.tries, .int .i64 p.table, .int .u8 p.kind, .int .i64 p.key, .string p.text] 49)
          obtain ⟨f, HF⟩ : ∃ f, Hid (d.f = f) := ⟨_, rfl⟩
          rw [HF.out]
          have HPD := Lib.hid hpd
          unfold evv
          clear hps hpd hpv hK7 HD H1 H2
          go_upto_region 12 with fail
          have hM7 := HE.out
          clear HE
          generalize w7.alloc (.cells #[.int .i64 p.id, .int .i64 p.tx, .string p.owner, .int .i64 p.tries, .int .i64 p.table, .int .u8 p.kind, .int .i64 p.key, .string p.text] 49) = W7 at *
          generalize w7.heap.size = E at *
          by_cases hf : f = 0
          · have hf1 : (f != 0) = false := by simp [hf]
            have HPE : Hid ((evOne q1.1 q1.2).2.2 = 0 → p = (evOne q1.1 q1.2).1) := Lib.hid fun _ => by rw [HO.out]; exact HPD.out (HF.out.trans hf)
            have HO2 : Hid ((evOne q1.1 q1.2).2 = q2.2) := by show _ = _; rw [HO.out]; simp [HF.out, hf]
            have hM8 := hM7
            clear hM7 hf HPD HO
            obtain ⟨x0, -⟩ := hM8.cell 0 _ rfl
            obtain ⟨x1, -⟩ := hM8.cell 1 _ rfl
            obtain ⟨x2, -⟩ := hM8.cell 2 _ rfl
            obtain ⟨x3, -⟩ := hM8.cell 3 _ rfl
            obtain ⟨x4, -⟩ := hM8.cell 4 _ rfl
            obtain ⟨x5, -⟩ := hM8.cell 5 _ rfl
            obtain ⟨x6, -⟩ := hM8.cell 6 _ rfl
            obtain ⟨x7, -⟩ := hM8.cell 7 _ rfl
            have hown := hM8.ex.own
            have hml : (xs.map plCells).length = xs.length := by simp
            have hlk' : xs.length + k + 1 ≤ 255 := by omega
            go_wp2_with (at_builtin; refine wl_app _ rfl _ _ 29 rfl 76 i0 _ 9 88 Try.underlying29 hi hz0 hz1 hz2 rfl (by omega) (.slice Ao xs.length co) _ _ (by rfl) (hown.alloc _) _ 1 1 [.int .i64 (q1.1 : Int), .int .i64 p.id, .int .i64 p.tx, .string p.owner, .int .i64 p.tries, .int .i64 p.table, .int .u8 p.kind, .int .i64 p.key, .string p.text] (by rfl) (by rfl) (nine_new_cells _ _ _ _ _ _ _ _ _ _ _) (by simp [Value.oneCell']) (by omega) (by unfold maxLen; omega) ?_; intro A8 cp8 w8 ho8 hg8 hat8; have hM9 := hM8.more _ _ ho8 hg8 hat8; rw [hml] at hM9; have HM9 := Lib.hid hM9; clear hM9 ho8 hg8 hat8)
            go_roundw
            case rel =>
              refine ⟨j + 1, k, xs ++ [(evOne q1.1 q1.2).1], xs ++ [p], (evOne q1.1 q1.2).2, A4, c4, by go_num, by omega, by simp; omega, by simp, fun h => by rw [HPE.out h], ?_, HI⟩
              rw [List.map_append, HO2.out]
              have hz := HM9.out
              rw [← HPS.out] at hz
              exact hz
            case measure => simp [intOf]; omega
          · have hf1 : (f != 0) = true := by simp [hf]
            have HO2 : Hid ((evOne q1.1 q1.2).2 = ([], f)) := by show _ = _; rw [HO.out]; simp [HF.out, hf]
            have HN := Lib.hid hf
            have HPE : Hid ((evOne q1.1 q1.2).2.2 = 0 → p = (evOne q1.1 q1.2).1) := Lib.hid fun h => absurd (by rw [HO2.out] at h; exact h) HN.out
            obtain ⟨b0, b1, g0, g1⟩ := hM7.rdc
            have HM8 := Lib.hid (hM7.put (st' := ([], f)) (A1 := none) (c1 := 0) (Bs.nil_ _ _) (Nat.zero_le _))
            clear hM7 hf HPD HO
            go_upto_region 14 with fail
            have hM8 : LM w ((W7.setCell ⟨b, 0, none⟩ (.slice none 0 0)).setCell ⟨b, 1, none⟩ (.int .i64 f)) F b E none 0 ([], f) 49 _ _ := HM8.out
            clear HM8 b0 b1 g0 g1
            generalize (W7.setCell ⟨b, 0, none⟩ (.slice none 0 0)).setCell ⟨b, 1, none⟩ (.int .i64 f) = W8 at *
            obtain ⟨x0, -⟩ := hM8.cell 0 _ rfl
            obtain ⟨x1, -⟩ := hM8.cell 1 _ rfl
            obtain ⟨x2, -⟩ := hM8.cell 2 _ rfl
            obtain ⟨x3, -⟩ := hM8.cell 3 _ rfl
            obtain ⟨x4, -⟩ := hM8.cell 4 _ rfl
            obtain ⟨x5, -⟩ := hM8.cell 5 _ rfl
            obtain ⟨x6, -⟩ := hM8.cell 6 _ rfl
            obtain ⟨x7, -⟩ := hM8.cell 7 _ rfl
            have hown := hM8.ex.own
            have hml : (xs.map plCells).length = xs.length := by simp
            have hlk' : xs.length + k + 1 ≤ 255 := by omega
            go_wp2_with (at_builtin; refine wl_app _ rfl _ _ 29 rfl 76 i0 _ 9 88 Try.underlying29 hi hz0 hz1 hz2 rfl (by omega) (.slice Ao xs.length co) _ _ (by rfl) (hown.alloc _) _ 1 1 [.int .i64 (q1.1 : Int), .int .i64 p.id, .int .i64 p.tx, .string p.owner, .int .i64 p.tries, .int .i64 p.table, .int .u8 p.kind, .int .i64 p.key, .string p.text] (by rfl) (by rfl) (nine_new_cells _ _ _ _ _ _ _ _ _ _ _) (by simp [Value.oneCell']) (by omega) (by unfold maxLen; omega) ?_; intro A8 cp8 w8 ho8 hg8 hat8; have hM9 := hM8.more _ _ ho8 hg8 hat8; rw [hml] at hM9; have HM9 := Lib.hid hM9; clear hM9 ho8 hg8 hat8)
            go_roundw
            case rel =>
              refine ⟨j + 1, k, xs ++ [(evOne q1.1 q1.2).1], xs ++ [p], (evOne q1.1 q1.2).2, none, 0, by go_num, by omega, by simp; omega, by simp, fun h => by rw [HPE.out h], ?_, HI⟩
              rw [List.map_append, HO2.out]
              have hz := HM9.out
              rw [← HPS.out] at hz
              exact hz
            case measure => simp [intOf]; omega
        · have hq21 : (q2.2.2 != 0) = true := by simp [hq2]
          have HO : Hid ((evOne q1.1 q1.2).2 = q2.2) := by show _ = _; unfold evOne; rw [H2.out]; simp [hq2]
          have HY : Hid (y.2 = q2.2) := by
            show _ = _
            have hi := HI.out
            rw [HO.out, iter_bad _ _ _ _ hq2] at hi
            rw [← hi]
          have HX := Lib.hid hq2
          obtain ⟨z0, z1, z2, z3⟩ := two_cells hK.pr.res
          have HFin := Lib.hid (hK.fin (by omega) (by intro x hx; obtain ⟨o, -, rfl⟩ := List.mem_map.1 hx; rfl))
          clear hq2 hK HI HO
          go_wp2_with fail
          go_region
          all_goals
            go_wp2_with fail
            refine bodyPost_ret (v := .tuple #[.slice Ao xs.length co, rdr (.slice A4 q2.2.1.length c4) q2.2.2]) (by simp [results, Try.results49, go_sem, rdr, r0, r1, z0, z1]) rfl ?_
            obtain ⟨f1, f2, f3⟩ := HFin.out (.slice A4 q2.2.1.length c4) (.int .i64 q2.2.2)
            refine ⟨Ao, _, co, xs, A4, c4, by rw [HY.out], by rw [HY.out]; exact f1, f2, fun h => absurd (by rw [HY.out] at h; exact h) HX.out, f3, by omega⟩
      · have HY : Hid (y = (l', st)) := by show _ = _; rw [← hI.out]; exact iter_bad plStep _ l' st hz
        have hst1 : (st.2 == 0) = false := by simp [hz]
        have HX := Lib.hid hz
        clear hz hI hH hcl hxe
        go_wp2_with fail
        go_region
        all_goals
          go_wp2_with fail
          refine bodyPost_ret (v := .tuple #[.slice Ao xs.length co, rdr (.slice A2 st.1.length c2) st.2]) (by simp [results, Try.results49, go_sem, rdr, r0, r1, z0, z1]) rfl ?_
          obtain ⟨f1, f2, f3⟩ := HFin.out (.slice A2 st.1.length c2) (.int .i64 st.2)
          rw [HY.out]
          exact ⟨Ao, _, co, xs, A2, c2, rfl, f1, f2, fun h => absurd h HX.out, f3, by have := HXL.out; omega⟩
end Go.Proofs.Ytdkankiohoocaaa
