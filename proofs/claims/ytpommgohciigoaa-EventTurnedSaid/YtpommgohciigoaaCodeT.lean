/- The walks of the functions on texts, and on numbers that may be below 0: code.Writer's Int, Text; carrierref02's Int, Text. -/
import Derived.Test.YtpommgohciigoaaCodeB
namespace Go.Proofs.Ytpommgohciigoaa
open Go Go.RowKit Go.Proofs

/-! ### texts and bytes -/
theorem strCells_bvs (s : ByteArray) : Lib.strCells s = bvs s.data.toList := rfl
theorem size_toList (s : ByteArray) : s.data.toList.length = s.size := by rw [Array.length_toList]; rfl

theorem run_appS (w : World) (ty : TypeId) (v : Value) (l : List UInt8) (hown : Own w 0 v l) (s : ByteArray) (hlen : l.length + s.size ≤ 140737488355328) :
    ∃ A' k cap' w', (Builtin.append_ #[28, 9] ty #[v, .string s]).run Try.prog w = .ok (.slice A' k cap') w' ∧ AppOut w w' v (.slice A' k cap') l s.data.toList := by
  obtain ⟨i0, hi, hz0, hz1, hz2⟩ := info_parts info_u8
  obtain ⟨v', w', hr, h2, h3, h4⟩ := Lib.run_append_own_string (P := Try.prog) w 0 28 9 ty 5 i0 Try.underlying28 Try.underlying9 hi hz0 hz1 hz2 v l.length (bvs l) hown s (by unfold maxLen; omega) (by omega) (Nat.zero_le _)
  have hat : ∀ g, v'.ownBlock = some g → v.ownBlock = some g ∨ g = w.heap.size := by
    intro g hg
    rcases hown.2 with ⟨rfl, h0⟩ | ⟨g0, cap, cur, rfl, _, hcur, hnc, hcm, hcs, _⟩
    · obtain ⟨v2, w2, hr2, h22, _⟩ := Lib.run_append_own_string (P := Try.prog) w w.heap.size 28 9 ty 5 i0 Try.underlying28 Try.underlying9 hi hz0 hz1 hz2 (.slice none 0 0) 0 [] (World.ownsRow_nil _ _ _ _) s (by unfold maxLen; omega) (by omega) (Nat.le_refl _)
      rw [hr] at hr2
      injection hr2 with e1 e2
      subst e1
      subst e2
      rcases Nat.eq_zero_or_pos s.size with hs0 | hs0
      · rw [h4.2 ⟨rfl, hs0⟩] at hg; simp [Value.ownBlock] at hg
      · have hr3 := run_append_nil_string (P := Try.prog) w 28 9 ty 5 i0 (.int .u8 0) Try.underlying28 Try.underlying9 hi hz0 s hs0 (by omega) (by rw [hz2]; omega)
        rw [hr] at hr3
        injection hr3 with e1 e2
        rw [e1] at hg
        simp [Value.ownBlock] at hg
        exact .inr hg.symm
    · by_cases hroom : l.length + s.size ≤ cap
      · have hr3 := Lib.run_append_room_string (P := Try.prog) w 28 9 ty 5 i0 Try.underlying28 Try.underlying9 hi hz1 g0 l.length cap cur hcur s hroom (by omega)
        rw [hr] at hr3
        injection hr3 with e1 e2
        rw [e1] at hg
        exact .inl hg
      · have hr3 := Lib.run_append_grow_string (P := Try.prog) w 28 9 ty 5 i0 (.int .u8 0) Try.underlying28 Try.underlying9 hi hz0 ⟨g0, 0, none⟩ l.length cap (bvs l) (by rw [hz1]; simp) (World.ownsRow.cells hown (g := g0) rfl) s (by omega) (by omega) (by rw [hz2]; exact growslice_fits (by omega) (by omega))
        rw [hr] at hr3
        injection hr3 with e1 e2
        rw [e1] at hg
        simp [Value.ownBlock] at hg
        exact .inr hg.symm
  obtain ⟨A', cap', rfl⟩ : ∃ A' cap', v' = .slice A' (l.length + s.size) cap' := by
    rcases h2.2 with ⟨hv, h0⟩ | ⟨g, cap, cur, hv, _⟩
    · exact ⟨none, 0, by rw [hv, h0]⟩
    · exact ⟨_, _, hv⟩
  refine ⟨A', _, cap', w', hr, ?_, Chg.of_grown h3 (fun k h => h), hat⟩
  show w'.ownsRow 0 5 1 _ (l ++ s.data.toList).length (bvs (l ++ s.data.toList))
  rw [List.length_append, bvs_append, size_toList]; exact h2

theorem wl_appS {ops : Array Oper} {rest : List Oper} {o : Oper} {a : Act} {Q : Exit → Act → World → Prop} {w : World} (hgd : o.guard = none) (s x : Operand)
    (ho : o.op = .call { callee := .builtin .append, args := #[s, x], argTypes := #[28, 9] })
    (v : Value) (l : List UInt8) (t : ByteArray) (hs : a.eval s = v) (hx : a.eval x = .string t) (hown : Own w 0 v l) (hlen : l.length + t.size ≤ 140737488355328)
    (h : ∀ A' k cap' w', AppOut w w' v (.slice A' k cap') l t.data.toList → wpList Try.prog ops Q rest (a.put o.dst (.slice A' k cap')) w') :
    wpList Try.prog ops Q (o :: rest) a w := by
  refine wpList_plain hgd fun K hK => ?_
  obtain ⟨A', k, cap', w', hr, h2⟩ := run_appS w o.type v l hown t hlen
  unfold Oper.wp execOp
  simp only [ho, resolve, invoke, builtin, Sem.run_bind, Sem.run_pure, Result.andThen_ok, List.map_toArray, List.map_cons, List.map_nil, hs, hx, hr]
  exact hK _ _ (h A' k cap' w' h2)

/-- '[]byte(s)': new bytes. -/
theorem run_ofS (w : World) (s : ByteArray) (hlen : s.size ≤ 140737488355328) :
    ∃ A k cap w', (convert 9 28 (.string s)).run Try.prog w = .ok (.slice A k cap) w' ∧ Bs w' (fun k => w.heap.size ≤ k) (.slice A k cap) s.data.toList ∧ Same w w' := by
  have hr := run_bytes_of_string (P := Try.prog) w 9 28 5 s Try.underlying9 Try.underlying28 Try.underlying5
  have hge := grownCap_ge w s.size 0 5
  have hle := grownCap_le_maxLen w s.size 0 5 (by unfold maxLen; omega)
  refine ⟨_, _, _, _, hr, ⟨_, _, by rw [size_toList], by rw [size_toList]; exact hge, hle, fun _ => ⟨w.heap.size, 0, rfl, Nat.le_refl _, fun i x hi => ?_⟩⟩, ((Chg.refl _ w).drew).alloc _⟩
  have hil : i < s.data.toList.length := (List.getElem?_eq_some_iff.1 hi).1
  have hb : (w.drew.alloc (.cells (bytesRow s (grownCap w s.size 0 5)) 5 ((bytesRow s (grownCap w s.size 0 5)).size, (bytesRow s (grownCap w s.size 0 5)).size + 1))).heap[w.heap.size]? = some (.cells (bytesRow s (grownCap w s.size 0 5)) 5 ((bytesRow s (grownCap w s.size 0 5)).size, (bytesRow s (grownCap w s.size 0 5)).size + 1)) := heap_alloc_new w.drew _
  unfold World.cell?
  rw [hb]
  have e : s.data[i]? = some x := by rw [← Array.getElem?_toList]; exact hi
  have hil' : i < s.data.size := by simpa using hil
  have hns : ¬ s.size ≤ i := by have : s.data.size = s.size := rfl; omega
  simp [bytesRow, Array.getElem?_append, e, hns]

theorem wl_ofS {ops : Array Oper} {rest : List Oper} {o : Oper} {a : Act} {Q : Exit → Act → World → Prop} {w : World} (hgd : o.guard = none) (x : Operand)
    (ho : o.op = .convert 9 28 x) (s : ByteArray) (hx : a.eval x = .string s) (hlen : s.size ≤ 140737488355328)
    (h : ∀ A k cap w', Bs w' (fun k => w.heap.size ≤ k) (.slice A k cap) s.data.toList → Same w w' → wpList Try.prog ops Q rest (a.put o.dst (.slice A k cap)) w') :
    wpList Try.prog ops Q (o :: rest) a w := by
  refine wpList_plain hgd fun K hK => ?_
  obtain ⟨A, k, cap, w', hr, h1, h2⟩ := run_ofS w s hlen
  unfold Oper.wp execOp
  simp only [ho, Sem.run_bind, Sem.run_pure, Result.andThen_ok, hx, hr]
  exact hK _ _ (h A k cap w' h1 h2)

/-- 'string(p)'. -/
theorem run_toS (w : World) (F : Nat → Prop) (v : Value) (l : List UInt8) (hb : Bs w F v l) : (convert 28 9 v).run Try.prog w = .ok (.string ⟨l.toArray⟩) w := by
  obtain ⟨A, cap, rfl, _, _, hc⟩ := hb
  rcases A with _ | ad
  · have h0 : l = [] := by
      rcases Nat.eq_zero_or_pos l.length with h0 | h0
      · exact List.eq_nil_of_length_eq_zero h0
      · obtain ⟨b, o, hA, _⟩ := hc h0; cases hA
    subst h0
    rw [run_convert_bytes_nil (P := Try.prog) w 28 5 Try.underlying28 Try.underlying5 _ _ 9 Try.underlying9]
    rfl
  · refine run_convert_bytes_back (P := Try.prog) w 28 9 5 ad cap l Try.underlying28 Try.underlying5 Try.underlying9 (fun j hj => ?_)
    obtain ⟨b, o, hA, _, hx⟩ := hc (by omega)
    injection hA with hA
    subst hA
    have := hx j l[j] (List.getElem?_eq_getElem hj)
    unfold Addr.add
    split
    · subst j; simpa using this
    · exact this

theorem wl_toS {ops : Array Oper} {rest : List Oper} {o : Oper} {a : Act} {Q : Exit → Act → World → Prop} {w : World} (hgd : o.guard = none) (x : Operand)
    (ho : o.op = .convert 28 9 x) (v : Value) (F : Nat → Prop) (l : List UInt8) (hx : a.eval x = v) (hb : Bs w F v l)
    (h : wpList Try.prog ops Q rest (a.put o.dst (.string ⟨l.toArray⟩)) w) :
    wpList Try.prog ops Q (o :: rest) a w := by
  refine wpList_plain hgd fun K hK => ?_
  unfold Oper.wp execOp
  simp only [ho, Sem.run_bind, Sem.run_pure, Result.andThen_ok, hx, run_toS w F v l hb]
  exact hK _ _ h

theorem nat_xor_ones (x : Nat) (h : x < 18446744073709551616) : x ^^^ 18446744073709551615 = 18446744073709551615 - x := by
  have h1 : (BitVec.ofNat 64 x ^^^ BitVec.allOnes 64).toNat = (~~~ BitVec.ofNat 64 x).toNat := by rw [BitVec.xor_allOnes]
  rw [BitVec.toNat_xor, BitVec.toNat_not, BitVec.toNat_ofNat, BitVec.toNat_allOnes, Nat.mod_eq_of_lt h] at h1
  exact h1

theorem zig_bits (n : Int) (h0 : -9223372036854775808 ≤ n) (h1 : n ≤ 9223372036854775807) :
    bits BinOp.xor IntKind.u64 (IntKind.u64.wrap (IntKind.u64.wrap n * 2)) (IntKind.u64.wrap (n / 9223372036854775808)) = zig n := by
  simp only [IntKind.wrap_u64]
  unfold zig
  by_cases hn : 0 ≤ n
  · have e1 : n % 18446744073709551616 * 2 % 18446744073709551616 = 2 * n := by omega
    have e2 : n / 9223372036854775808 % 18446744073709551616 = 0 := by omega
    rw [e1, e2, if_pos hn, u64_xor _ _ (by omega) (by omega) (by omega) (by omega)]
    simp
    omega
  · have e1 : n % 18446744073709551616 * 2 % 18446744073709551616 = 2 * n + 18446744073709551616 := by omega
    have e2 : n / 9223372036854775808 % 18446744073709551616 = 18446744073709551615 := by omega
    rw [e1, e2, if_neg hn, u64_xor _ _ (by omega) (by omega) (by omega) (by omega)]
    have e3 : (18446744073709551615 : Int).toNat = 18446744073709551615 := rfl
    rw [e3, nat_xor_ones _ (by omega)]
    omega
theorem zig_ge (n : Int) : 0 ≤ zig n := by unfold zig; split <;> omega
theorem zig_le (n : Int) (h0 : -9223372036854775808 ≤ n) (h1 : n ≤ 9223372036854775807) : zig n ≤ 18446744073709551615 := by unfold zig; split <;> omega

set_option maxHeartbeats 800000 in
theorem wint_any (a : Nat) (n : Int) (h0 : -9223372036854775808 ≤ n) (h1 : n ≤ 9223372036854775807) (F : Nat → Prop) (l : List UInt8) (w : World) (h : Wr w F a l) (hl : l.length ≤ 1099511627700) :
    Calls Try.prog 25 #[.pointer (some ⟨a, 0, none⟩), .int .i64 n] w fun e w' => e = .returned (.pointer (some ⟨a, 0, none⟩)) ∧ WrPost w w' F a (l ++ intB n) := by
  go_enter Try.func25, Try.ntmps25
  go_wp2_with fail
  rw [zig_bits n h0 h1]
  refine (wnum_any a (zig n) (zig_ge n) (zig_le n h0 h1) F l w h hl).mono ?_
  rintro e w' ⟨rfl, R⟩
  go_wp2
  go_ret
  exact ⟨rfl, R⟩

set_option maxHeartbeats 800000 in
theorem rint_any (n : Int) (h0 : -9223372036854775808 ≤ n) (h1 : n ≤ 9223372036854775807) (w : World) :
    Calls Try.prog 33 #[.int .i64 n] w fun e w' => ∃ v', e = .returned v' ∧ Fresh w w' v' (intB n) := by
  by_cases hn : 0 ≤ n
  · have HZ : Hid (intB n = numB (2 * n).toNat) := by show _ = _; unfold intB zig; rw [if_pos hn]
    go_enter Try.func33, Try.ntmps33
    go_wp2_with fail
    refine (rnum_any (2 * n) (by omega) (by omega) w).mono ?_
    rintro e w' ⟨v', rfl, R⟩
    rw [← HZ.out] at R
    go_wp2
    go_ret
    exact ⟨_, rfl, R⟩
  · have HZ : Hid (intB n = numB (2 * -(n + 1) + 1).toNat) := by show _ = _; unfold intB zig; rw [if_neg hn]; congr 2; omega
    go_enter Try.func33, Try.ntmps33
    go_wp2_with fail
    refine (rnum_any (2 * -(n + 1) + 1) (by omega) (by omega) w).mono ?_
    rintro e w' ⟨v', rfl, R⟩
    rw [← HZ.out] at R
    go_wp2
    go_ret
    exact ⟨_, rfl, R⟩

set_option maxHeartbeats 800000 in
theorem wtext_any (a : Nat) (s : ByteArray) (F : Nat → Prop) (l : List UInt8) (w : World) (h : Wr w F a l) (hl : l.length ≤ 1099511627600) (hs : s.size ≤ 1099511627700) :
    Calls Try.prog 24 #[.pointer (some ⟨a, 0, none⟩), .string s] w fun e w' => e = .returned (.pointer (some ⟨a, 0, none⟩)) ∧ WrPost w w' F a (l ++ textB s.data.toList) := by
  have HT : Hid (l ++ textB s.data.toList = (l ++ numB (s.size : Int).toNat) ++ s.data.toList) := by show _ = _; unfold textB; rw [size_toList, List.append_assoc]; rfl
  have hlt : Lt F w := by obtain ⟨v, h⟩ := h; exact h.lt
  have hnl := numB_len10 (n := (s.size : Int)) (by omega)
  go_enter Try.func24, Try.ntmps24
  go_wp2_with fail
  refine (wnum_any a s.size (by omega) (by omega) F l w h (by omega)).mono ?_
  rintro e w1 ⟨rfl, F1, ⟨v, hW⟩, hchg, hnew⟩
  have hc0 := cell_of_one hW.blk
  have hf0 := free_of_one hW.blk
  generalize hll : l ++ numB (s.size : Int).toNat = ll at *
  have hlen : ll.length ≤ 1099511627700 := by rw [← hll, List.length_append]; omega
  clear hll
  go_wp2_with (refine wl_appS rfl _ _ rfl v ll s rfl rfl hW.own (by omega) ?_)
  intro A' k cap' w2 hout
  obtain ⟨hc1, hf1⟩ := hW.field (Chg.refl _ _) hout
  have R := WrPost.trans hchg hnew hlt (hW.appended (Chg.refl _ _) hout)
  rw [← HT.out] at R
  clear hout
  go_wp2
  go_ret
  exact ⟨rfl, R⟩

set_option maxHeartbeats 800000 in
theorem rtext_any (s : ByteArray) (hs : s.size ≤ 1099511627700) (w : World) :
    Calls Try.prog 32 #[.string s] w fun e w' => ∃ v', e = .returned v' ∧ Fresh w w' v' (textB s.data.toList) := by
  have HT : Hid (textB s.data.toList = numB (s.size : Int).toNat ++ s.data.toList) := by show _ = _; unfold textB; rw [size_toList]; rfl
  have hnl := numB_len10 (n := (s.size : Int)) (by omega)
  go_enter Try.func32, Try.ntmps32
  go_wp2_with fail
  refine (rnum_any s.size (by omega) (by omega) w).mono ?_
  rintro e w1 ⟨v1, rfl, R1⟩
  go_wp2_with (refine wl_ofS rfl _ rfl s rfl (by omega) ?_)
  intro A k cap w2 hb2 hs2
  have hb1 := R1.bs.same hs2
  have hsl := size_toList s
  go_wp2_with fail
  refine (join_any _ _ _ _ _ _ w2 hb1 hb2 (by omega)).mono ?_
  rintro e w3 ⟨v3, rfl, R3⟩
  have R : Fresh w w3 v3 (textB s.data.toList) := by
    rw [HT.out]
    exact ⟨R3.1.weak (Nat.le_trans R1.2.size hs2.size), (R1.2.trans hs2).trans R3.2⟩
  go_wp2
  go_ret
  exact ⟨_, rfl, R⟩
end Go.Proofs.Ytpommgohciigoaa
