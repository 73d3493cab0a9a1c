/- entry's scan.fields: the kinds 1, 8, 11. -/
import Derived.Test.YtdkankiohoocaaaQFld1
namespace Go.Proofs.Ytdkankiohoocaaa
set_option linter.unusedSimpArgs false
set_option linter.unusedVariables false
open Go Go.RowKit Go.Proofs

section
variable {w0 w w' : World} {F : Nat → Prop} {s a E cs ce : Nat} {st st' : St} {x x' : Array Value}
theorem FM.hs (h : FM w0 w F s a E cs ce st x) : s < w.heap.size ∧ a < w.heap.size := by have := h.em.ne; have := h.em.chg.size; omega
theorem FM.hF (h : FM w0 w F s a E cs ce st x) : ∀ k, F k → k < w.heap.size := fun k hk => by have := (h.em.nf k hk).1; have := h.em.chg.size; omega
theorem EMid.since (h : EMid w0 w F s a E st x) : EMid w w F s a E st x := by
  have := h.ne
  have := h.chg.size
  exact ⟨h.sx, h.ent, Chg.refl _ _, by omega, fun k hk => by have := h.nf k hk; omega⟩
theorem FM.ids (h : FM w0 w F s a E cs ce st x) (hm : EMid w w' F s a E st' x') : FM w0 w' F s a E cs ce st' x' := by
  have := h.em.ne
  have := h.old
  exact ⟨⟨hm.sx, hm.ent, h.em.chg.trans hm.chg, h.em.ne, h.em.nf⟩, hm.chg.at_ h.bs (by omega), hm.chg.at_ h.be (by omega), h.old⟩
/-- A slice that was read stays, whatever the scan and the entry do. -/
theorem FM.sl (h : FM w0 w F s a E cs ce st x) {k n : Nat} {v : Value} {xs : List (List Value)} (hv : Sl w (fun b => n ≤ b) k v xs) (hn : w0.heap.size ≤ n) (hc : Chg (fun k => k = s ∨ k = a ∨ k = E) w w') : Sl w' (fun b => n ≤ b) k v xs :=
  hv.keep hc (fun b hb => by have := h.em.ne; omega)
end
theorem Chg.undrew {S : Nat → Prop} {w w' : World} (h : Chg S w.drew w') : Chg S w w' := ⟨h.os, h.tape, h.output, h.size, h.block⟩
theorem chgE (w : World) (s a E i : Nat) (u : Value) : Chg (fun k => k = s ∨ k = a ∨ k = E) w (w.setCell ⟨E, i, none⟩ u) := Chg.setCell (Chg.refl _ w) (p := ⟨E, i, none⟩) (fun _ => .inr (.inr rfl)) _
theorem Chg.sa {s a E : Nat} {w w' : World} (h : Chg (fun k => k = s ∨ k = a) w w') : Chg (fun k => k = s ∨ k = a ∨ k = E) w w' := h.mono (fun _ h => by omega)
theorem Sl.low {w : World} {k n m : Nat} {v : Value} {xs : List (List Value)} (h : Sl w (fun b => n ≤ b) k v xs) (hk : ∀ x ∈ xs, 0 < x.length) (hm : m ≤ n) : Sl w (fun b => m ≤ b) k v xs := h.mono hk (fun _ _ hb => Nat.le_trans hm hb)
theorem opCells_pos (l : List OpD) : ∀ x ∈ l.map opCells, 0 < x.length := by intro x hx; obtain ⟨o, -, rfl⟩ := List.mem_map.1 hx; exact Nat.zero_lt_succ _
theorem plCells_pos (l : List PlD) : ∀ x ∈ l.map plCells, 0 < x.length := by intro x hx; obtain ⟨o, -, rfl⟩ := List.mem_map.1 hx; exact Nat.zero_lt_succ _
theorem iter_zero_err {α : Type} (f : α → St → α × St) (k : Nat) (x : α) (st : St) (h : (iter f k x st).2.2 = 0) : st.2 = 0 := by
  by_cases hz : st.2 = 0
  · exact hz
  · rw [iter_bad f k x st hz] at h; exact h
theorem getPls_zero {st : St} {y : List PlD × St} (hy : Hid (getPls st = y)) (h : y.2.2 = 0) : st.2 = 0 := by
  have hy := hy.out
  subst hy
  exact (stepNum_zero (Lib.hid rfl) (iter_zero_err _ _ _ _ h)).1
theorem sops_s (s a : Nat) (F : Nat → Prop) (st : St) (w : World) (h : Sx w F s a st) (hs : s < w.heap.size ∧ a < w.heap.size) (hF : ∀ k, F k → k < w.heap.size) (y : List OpD × St) (hy : Hid (getOps st = y)) :
    Calls Try.prog 61 #[.pointer (some ⟨s, 0, none⟩)] w fun en w' => ∃ A n c xs, en = .returned (.slice A n c) ∧ Sx w' F s a y.2 ∧ Chg (fun k => k = s ∨ k = a) w w' ∧ Sl w' (fun b => w.heap.size ≤ b) 4 (.slice A n c) (xs.map opCells) ∧ xs.length ≤ 255 ∧ (y.2.2 = 0 → xs = y.1) :=
  (sops_any s a F st w h hs hF y hy).mono fun en w' ⟨v, xs, h1, h2, h3, h4, h5⟩ => by
    obtain ⟨A, c, hv, -, -⟩ := h4.form
    subst hv
    exact ⟨_, _, _, xs, h1, h2, h3, h4, h5⟩
theorem sevents_s (s a : Nat) (F : Nat → Prop) (st : St) (w : World) (h : Sx w F s a st) (hs : s < w.heap.size ∧ a < w.heap.size) (hF : ∀ k, F k → k < w.heap.size) (y : List PlD × St) (hy : Hid (getPls st = y)) :
    Calls Try.prog 62 #[.pointer (some ⟨s, 0, none⟩)] w fun en w' => ∃ A n c xs, en = .returned (.slice A n c) ∧ Sx w' F s a y.2 ∧ Chg (fun k => k = s ∨ k = a) w w' ∧ Sl w' (fun b => w.heap.size ≤ b) 9 (.slice A n c) (xs.map plCells) ∧ xs.length ≤ 255 ∧ (y.2.2 = 0 → xs = y.1) :=
  (sevents_any s a F st w h hs hF y hy).mono fun en w' ⟨v, xs, h1, h2, h3, h4, h5⟩ => by
    obtain ⟨A, c, hv, -, -⟩ := h4.form
    subst hv
    exact ⟨_, _, _, xs, h1, h2, h3, h4, h5⟩
theorem fpost_is {w w' : World} {F : Nat → Prop} {s a E : Nat} {r : Option (EntD × St)} {e : EntD} {st : St} {x : Array Value} (hr : r = some (e, st)) (hm : EMid w w' F s a E st x) (h : st.2 = 0 → ∃ vo ve vp, x = entCells e vo ve vp ∧ EntS w' (fun b => w.heap.size ≤ b) e vo ve vp) :
    FPost w F s a E r (.returned (.bool true)) w' := by
  subst hr
  refine ⟨rfl, st, x, hm, fun e' st' he => ?_⟩
  injection he with he
  injection he with he1 he2
  subst he1; subst he2
  exact ⟨rfl, h⟩

set_option maxHeartbeats 3200000 in
set_option maxRecDepth 100000 in
theorem fields_11 (s a E : Nat) (F : Nat → Prop) (st : St) (w : World) (h : EMid w w F s a E st (ent0 11)) :
    Calls Try.prog 39 #[.pointer (some ⟨s, 0, none⟩), .pointer (some ⟨E, 0, none⟩)] w (FPost w F s a E (rdBody 11 st)) := by
  obtain ⟨q1, H1⟩ : ∃ q, Hid (wholeN st = q) := ⟨_, rfl⟩
  obtain ⟨q2, H2⟩ : ∃ q, Hid (getOps q1.2 = q) := ⟨_, rfl⟩
  obtain ⟨r, HQ⟩ : ∃ r, Hid (rdBody 11 st = r) := ⟨_, rfl⟩
  have HR : Hid (r = some ({ noEnt with kind := 11, n := q1.1, ops := q2.1 }, q2.2)) := by
    show _ = _
    have hq := HQ.out
    have h1 := H1.out
    have h2 := H2.out
    subst h1
    subst h2
    rw [← hq]
    rfl
  rw [HQ.out]
  clear HQ
  have hM0 := FM.start h
  obtain ⟨k0, -⟩ := hM0.cell 0 _ rfl
  obtain ⟨d0, d1⟩ := hM0.cells
  have hE := h.ne
  have HM0 := Lib.hid hM0
  clear hM0 h
  go_enter Try.func39, Try.ntmps39
  go_upto_region 26 with fail
  have hM0 := HM0.out
  clear HM0 k0
  generalize (w.alloc (.cells #[.pointer (some ⟨s, 0, none⟩)] 93)).alloc (.cells #[.pointer (some ⟨E, 0, none⟩)] 99) = W at *
  generalize hce : w.heap.size + 1 = ce at *
  have hcs : w.heap.size = w.heap.size := rfl
  generalize w.heap.size = cs at hcs hM0 hce d0 d1 ⊢
  clear hcs hce
  go_region_held3 (fun w' => w'.cell? ⟨cs, 0, none⟩ = some (.pointer (some ⟨s, 0, none⟩)) ∧ w'.cell? ⟨ce, 0, none⟩ = some (.pointer (some ⟨E, 0, none⟩))) (first | go_keep | (constructor <;> assumption)) (first | (go_at_call 61; ((with_reducible refine (sops_s s a F _ _ hM1.em.sx hM1.hs hM1.hF q2 H2).mono ?_); rintro _ w2 ⟨A2, m2, c2, xs2, rfl, hS2, hC2, hL2, hn2, he2⟩; have hM2 := hM1.call hS2 hC2; obtain ⟨e2a, e2b⟩ := hM2.cells; obtain ⟨x0, y0⟩ := hM2.cell 11 _ rfl; obtain ⟨x1, y1⟩ := hM2.cell 4 _ rfl; obtain ⟨z0a, z0b⟩ := (hM2.store 11 (.int .i64 (q1.1 : Int))).cells; obtain ⟨z1a, z1b⟩ := ((hM2.store 11 (.int .i64 (q1.1 : Int))).store 4 (.slice A2 m2 c2)).cells)) | (go_at_call 64; ((with_reducible refine (xwhole_is s a F _ _ hM0.drew.em.sx q1 H1).mono ?_); rintro _ w1 ⟨rfl, hS1, hC1⟩; have hM1 := hM0.drew.call hS1 hC1; obtain ⟨e1a, e1b⟩ := hM1.cells)))
  have HM := Lib.hid ((hM2.store 11 (.int .i64 (q1.1 : Int))).store 4 (.slice A2 m2 c2)).em
  have hw2 := hM1.em.chg.size
  have HL := Lib.hid (((hM2.sl hL2 hw2 (chgE w2 s a E 11 (.int .i64 (q1.1 : Int)))).keep (chgE _ s a E 4 (.slice A2 m2 c2)) (fun b hb => by have := hM2.em.ne; omega)).low (opCells_pos _) hw2)
  have HE := Lib.hid he2
  clear hM0 hM1 hM2 hL2 he2 hn2 hS1 hS2 hC1 hC2 hw2
  go_wp2_with fail
  go_ret
  exact fpost_is HR.out HM.out (fun h0 => ⟨.slice A2 m2 c2, _, _, by simp [entCells, noEnt], by rw [← HE.out h0]; exact HL.out, Sl.nil_ _ _ _, Sl.nil_ _ _ _⟩)

set_option maxHeartbeats 3200000 in
set_option maxRecDepth 100000 in
theorem fields_1 (s a E : Nat) (F : Nat → Prop) (st : St) (w : World) (h : EMid w w F s a E st (ent0 1)) :
    Calls Try.prog 39 #[.pointer (some ⟨s, 0, none⟩), .pointer (some ⟨E, 0, none⟩)] w (FPost w F s a E (rdBody 1 st)) := by
  obtain ⟨q1, H1⟩ : ∃ q, Hid (wholeN st = q) := ⟨_, rfl⟩
  obtain ⟨q2, H2⟩ : ∃ q, Hid (wholeN q1.2 = q) := ⟨_, rfl⟩
  obtain ⟨q3, H3⟩ : ∃ q, Hid (wholeN q2.2 = q) := ⟨_, rfl⟩
  obtain ⟨q4, H4⟩ : ∃ q, Hid (getOps q3.2 = q) := ⟨_, rfl⟩
  obtain ⟨q5, H5⟩ : ∃ q, Hid (getPls q4.2 = q) := ⟨_, rfl⟩
  obtain ⟨r, HQ⟩ : ∃ r, Hid (rdBody 1 st = r) := ⟨_, rfl⟩
  have HR : Hid (r = some ({ noEnt with kind := 1, tx := q1.1, next := q2.1, nextID := q3.1, ops := q4.1, evs := q5.1 }, q5.2)) := by
    show _ = _
    have hq := HQ.out
    have h1 := H1.out
    have h2 := H2.out
    have h3 := H3.out
    have h4 := H4.out
    have h5 := H5.out
    subst h1
    subst h2
    subst h3
    subst h4
    subst h5
    rw [← hq]
    rfl
  rw [HQ.out]
  clear HQ
  have hM0 := FM.start h
  obtain ⟨k0, -⟩ := hM0.cell 0 _ rfl
  obtain ⟨d0, d1⟩ := hM0.cells
  have hE := h.ne
  have HM0 := Lib.hid hM0
  clear hM0 h
  go_enter Try.func39, Try.ntmps39
  go_wp2_with fail
  have hM0 := HM0.out
  clear HM0 k0
  generalize (w.alloc (.cells #[.pointer (some ⟨s, 0, none⟩)] 93)).alloc (.cells #[.pointer (some ⟨E, 0, none⟩)] 99) = W at *
  generalize hce : w.heap.size + 1 = ce at *
  have hcs : w.heap.size = w.heap.size := rfl
  generalize w.heap.size = cs at hcs hM0 hce d0 d1 ⊢
  clear hcs hce
  refine (sids_any s a E F st _ _ _ _ _ _ _ _ _ _ _ _ _ _ _ hM0.em.since q1 q2 q3 H1 H2 H3).mono ?_
  rintro _ w3 ⟨rfl, hI3⟩
  have hM3 := hM0.ids hI3
  obtain ⟨d0, d1⟩ := hM3.cells
  clear hM0 hI3
  go_upto_region 5 with fail
  go_region_held3 (fun w' => w'.cell? ⟨cs, 0, none⟩ = some (.pointer (some ⟨s, 0, none⟩)) ∧ w'.cell? ⟨ce, 0, none⟩ = some (.pointer (some ⟨E, 0, none⟩))) (first | go_keep | (constructor <;> assumption)) (first | (go_at_call 61; ((with_reducible refine (sops_s s a F _ _ hM3.drew.em.sx hM3.drew.hs hM3.drew.hF q4 H4).mono ?_); rintro _ w4 ⟨A4, m4, c4, xs4, rfl, hS4, hC4, hL4, hn4, he4⟩; have hM4 := hM3.drew.call hS4 hC4; obtain ⟨e4a, e4b⟩ := hM4.cells; obtain ⟨x0, y0⟩ := hM4.cell 4 _ rfl; obtain ⟨z0a, z0b⟩ := (hM4.store 4 (.slice A4 m4 c4)).cells)))
  have hM5 := (hM4.store 4 (.slice A4 m4 c4))
  have hL5 := hM4.sl hL4 hM3.em.chg.size (chgE w4 s a E 4 (.slice A4 m4 c4))
  have hs3 := hM3.em.chg.size
  clear hM4 hL4 hS4 hC4 hM3 d0 d1
  go_wp2_with fail
  generalize w4.setCell ⟨E, 4, none⟩ (.slice A4 m4 c4) = W5 at *
  obtain ⟨d0, d1⟩ := hM5.cells
  go_region_held3 (fun w' => w'.cell? ⟨cs, 0, none⟩ = some (.pointer (some ⟨s, 0, none⟩)) ∧ w'.cell? ⟨ce, 0, none⟩ = some (.pointer (some ⟨E, 0, none⟩))) (first | go_keep | (constructor <;> assumption)) (first | (go_at_call 62; ((with_reducible refine (sevents_s s a F _ _ hM5.drew.em.sx hM5.drew.hs hM5.drew.hF q5 H5).mono ?_); rintro _ w6 ⟨A6, m6, c6, xs6, rfl, hS6, hC6, hL6, hn6, he6⟩; have hM6 := hM5.drew.call hS6 hC6; obtain ⟨e6a, e6b⟩ := hM6.cells; obtain ⟨x0, y0⟩ := hM6.cell 5 _ rfl; obtain ⟨z0a, z0b⟩ := (hM6.store 5 (.slice A6 m6 c6)).cells)))
  have HM := Lib.hid (hM6.store 5 (.slice A6 m6 c6)).em
  have hs5 := hM5.em.chg.size
  have HL := Lib.hid (((hM5.sl hL5 hs3 hC6.undrew.sa).keep (chgE w6 s a E 5 (.slice A6 m6 c6)) (fun b hb => by have := hM5.em.ne; have hb' : w3.heap.size ≤ b := hb; omega)).low (opCells_pos _) hs3)
  have HP := Lib.hid ((hM6.sl hL6 hs5 (chgE w6 s a E 5 (.slice A6 m6 c6))).low (plCells_pos _) hs5)
  have HE := Lib.hid he4
  have HG := Lib.hid he6
  clear hM5 hM6 hL5 hL6 he4 he6
  go_wp2_with fail
  go_ret
  exact fpost_is HR.out HM.out (fun h0 => ⟨.slice A4 m4 c4, .slice A6 m6 c6, _, by simp [entCells, noEnt], by rw [← HE.out (getPls_zero H5 h0)]; exact HL.out, by rw [← HG.out h0]; exact HP.out, Sl.nil_ _ _ _⟩)

set_option maxHeartbeats 3200000 in
set_option maxRecDepth 100000 in
theorem fields_8 (s a E : Nat) (F : Nat → Prop) (st : St) (w : World) (h : EMid w w F s a E st (ent0 8)) :
    Calls Try.prog 39 #[.pointer (some ⟨s, 0, none⟩), .pointer (some ⟨E, 0, none⟩)] w (FPost w F s a E (rdBody 8 st)) := by
  obtain ⟨q1, H1⟩ : ∃ q, Hid (wholeN st = q) := ⟨_, rfl⟩
  obtain ⟨q2, H2⟩ : ∃ q, Hid (wholeN q1.2 = q) := ⟨_, rfl⟩
  obtain ⟨q3, H3⟩ : ∃ q, Hid (wholeN q2.2 = q) := ⟨_, rfl⟩
  obtain ⟨q4, H4⟩ : ∃ q, Hid (getPls q3.2 = q) := ⟨_, rfl⟩
  obtain ⟨q5, H5⟩ : ∃ q, Hid (readInt q4.2.1 q4.2.2 = q) := ⟨_, rfl⟩
  obtain ⟨r, HQ⟩ : ∃ r, Hid (rdBody 8 st = r) := ⟨_, rfl⟩
  have HR : Hid (r = some ({ noEnt with kind := 8, tx := q1.1, next := q2.1, nextID := q3.1, evs := q4.1, at_ := q5.1 }, q5.2)) := by
    show _ = _
    have hq := HQ.out
    have h1 := H1.out
    have h2 := H2.out
    have h3 := H3.out
    have h4 := H4.out
    have h5 := H5.out
    subst h1
    subst h2
    subst h3
    subst h4
    subst h5
    rw [← hq]
    rfl
  rw [HQ.out]
  clear HQ
  have hM0 := FM.start h
  obtain ⟨k0, -⟩ := hM0.cell 0 _ rfl
  obtain ⟨d0, d1⟩ := hM0.cells
  have hE := h.ne
  have HM0 := Lib.hid hM0
  clear hM0 h
  go_enter Try.func39, Try.ntmps39
  go_wp2_with fail
  have hM0 := HM0.out
  clear HM0 k0
  generalize (w.alloc (.cells #[.pointer (some ⟨s, 0, none⟩)] 93)).alloc (.cells #[.pointer (some ⟨E, 0, none⟩)] 99) = W at *
  generalize hce : w.heap.size + 1 = ce at *
  have hcs : w.heap.size = w.heap.size := rfl
  generalize w.heap.size = cs at hcs hM0 hce d0 d1 ⊢
  clear hcs hce
  refine (sids_any s a E F st _ _ _ _ _ _ _ _ _ _ _ _ _ _ _ hM0.em.since q1 q2 q3 H1 H2 H3).mono ?_
  rintro _ w3 ⟨rfl, hI3⟩
  have hM3 := hM0.ids hI3
  obtain ⟨d0, d1⟩ := hM3.cells
  clear hM0 hI3
  go_upto_region 9 with fail
  go_region_held3 (fun w' => w'.cell? ⟨cs, 0, none⟩ = some (.pointer (some ⟨s, 0, none⟩)) ∧ w'.cell? ⟨ce, 0, none⟩ = some (.pointer (some ⟨E, 0, none⟩))) (first | go_keep | (constructor <;> assumption)) (first | (go_at_call 62; ((with_reducible refine (sevents_s s a F _ _ hM3.drew.em.sx hM3.drew.hs hM3.drew.hF q4 H4).mono ?_); rintro _ w4 ⟨A4, m4, c4, xs4, rfl, hS4, hC4, hL4, hn4, he4⟩; have hM4 := hM3.drew.call hS4 hC4; obtain ⟨e4a, e4b⟩ := hM4.cells; obtain ⟨x0, y0⟩ := hM4.cell 5 _ rfl; obtain ⟨z0a, z0b⟩ := (hM4.store 5 (.slice A4 m4 c4)).cells)))
  have hM5 := (hM4.store 5 (.slice A4 m4 c4))
  have hL5 := hM4.sl hL4 hM3.em.chg.size (chgE w4 s a E 5 (.slice A4 m4 c4))
  have hs3 := hM3.em.chg.size
  clear hM4 hL4 hS4 hC4 hM3 d0 d1
  go_wp2_with fail
  generalize w4.setCell ⟨E, 5, none⟩ (.slice A4 m4 c4) = W5 at *
  obtain ⟨d0, d1⟩ := hM5.cells
  go_region_held3 (fun w' => w'.cell? ⟨cs, 0, none⟩ = some (.pointer (some ⟨s, 0, none⟩)) ∧ w'.cell? ⟨ce, 0, none⟩ = some (.pointer (some ⟨E, 0, none⟩))) (first | go_keep | (constructor <;> assumption)) (first | (go_at_call 63; ((with_reducible refine (xint_is s a F _ _ hM5.drew.em.sx q5 H5).mono ?_); rintro _ w6 ⟨rfl, hS6, hC6⟩; have hM6 := hM5.drew.call hS6 hC6; obtain ⟨e6a, e6b⟩ := hM6.cells; obtain ⟨x0, y0⟩ := hM6.cell 12 _ rfl; obtain ⟨z0a, z0b⟩ := (hM6.store 12 (.int .i64 q5.1)).cells)))
  have HM := Lib.hid (hM6.store 12 (.int .i64 q5.1)).em
  have HP := Lib.hid (((hM5.sl hL5 hs3 hC6.undrew.sa).keep (chgE w6 s a E 12 (.int .i64 q5.1)) (fun b hb => by have := hM5.em.ne; have hb' : w3.heap.size ≤ b := hb; omega)).low (plCells_pos _) hs3)
  have HG := Lib.hid he4
  clear hM5 hM6 hL5 he4
  go_wp2_with fail
  go_ret
  exact fpost_is HR.out HM.out (fun h0 => ⟨_, .slice A4 m4 c4, _, by simp [entCells, noEnt], Sl.nil_ _ _ _, by rw [← HG.out (readInt_zero H5 h0)]; exact HP.out, Sl.nil_ _ _ _⟩)

end Go.Proofs.Ytdkankiohoocaaa
