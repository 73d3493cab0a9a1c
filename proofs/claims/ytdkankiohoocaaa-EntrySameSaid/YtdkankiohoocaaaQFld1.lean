/- entry's scan.ids. -/
import Derived.Test.YtdkankiohoocaaaQCls
namespace Go.Proofs.Ytdkankiohoocaaa
set_option linter.unusedSimpArgs false
set_option linter.unusedVariables false
open Go Go.RowKit Go.Proofs

/-- A scan, and an entry's block E. -/
structure EMid (w0 w : World) (F : Nat → Prop) (s a E : Nat) (st : St) (x : Array Value) : Prop where
  sx : Sx w F s a st
  ent : w.heap[E]? = some (.cells x 40 (0, 0))
  chg : Chg (fun k => k = s ∨ k = a ∨ k = E) w0 w
  ne : E ≠ s ∧ E ≠ a ∧ s < w0.heap.size ∧ a < w0.heap.size ∧ E < w0.heap.size
  nf : ∀ k, F k → k < w0.heap.size ∧ k ≠ E
section
variable {w0 w w' : World} {F : Nat → Prop} {s a E : Nat} {st st' : St} {x : Array Value}
theorem EMid.call (h : EMid w0 w F s a E st x) (hS : Sx w' F s a st') (hc : Chg (fun k => k = s ∨ k = a) w w') : EMid w0 w' F s a E st' x := by
  have := h.ne
  exact ⟨hS, hc.at_ h.ent (by omega), h.chg.trans (hc.mono (fun _ h => by omega)), h.ne, h.nf⟩
theorem EMid.same (h : EMid w0 w F s a E st x) (hc : Same w w') : EMid w0 w' F s a E st x := h.call (h.sx.same hc) (Same.any hc _)
theorem EMid.drew (h : EMid w0 w F s a E st x) : EMid w0 w.drew F s a E st x := h.same (Chg.refl _ w).drew
theorem EMid.store (h : EMid w0 w F s a E st x) (i : Nat) (u : Value) : EMid w0 (w.setCell ⟨E, i, none⟩ u) F s a E st (x.setIfInBounds i u) := by
  have hn := h.ne
  have hc : Chg (fun k => k = E) w (w.setCell ⟨E, i, none⟩ u) := Chg.setCell (S := fun k => k = E) (Chg.refl _ w) (p := ⟨E, i, none⟩) (fun _ => rfl) _
  refine ⟨h.sx.keep hc (by omega) (fun k hk => (h.nf k hk).2), ?_, h.chg.trans (hc.mono (fun _ h => by omega)), h.ne, h.nf⟩
  simp [World.setCell, Array.getElem?_modify, h.ent]
theorem EMid.cell (h : EMid w0 w F s a E st x) (i : Nat) (u : Value) (hi : x[i]? = some u) : w.cell? ⟨E, i, none⟩ = some u ∧ w.frozen? ⟨E, i, none⟩ = false := by
  constructor
  · simp [World.cell?, h.ent, hi]
  · simp [World.frozen?, h.ent]
end

set_option maxHeartbeats 1600000 in
set_option maxRecDepth 100000 in
theorem sids_any (s a E : Nat) (F : Nat → Prop) (st : St) (w0 w : World) (a0 a1 a2 a3 a4 a5 a6 a7 a8 a9 a10 a11 a12 : Value) (h : EMid w0 w F s a E st #[a0, a1, a2, a3, a4, a5, a6, a7, a8, a9, a10, a11, a12]) (q1 q2 q3 : Nat × St) (h1 : Hid (wholeN st = q1)) (h2 : Hid (wholeN q1.2 = q2)) (h3 : Hid (wholeN q2.2 = q3)) :
    Calls Try.prog 60 #[.pointer (some ⟨s, 0, none⟩), .pointer (some ⟨E, 0, none⟩)] w fun en w' => en = .returned (.tuple #[]) ∧ EMid w0 w' F s a E q3.2 #[a0, .int .i64 (q1.1 : Int), .int .i64 (q2.1 : Int), .int .i64 (q3.1 : Int), a4, a5, a6, a7, a8, a9, a10, a11, a12] := by
  go_enter Try.func60, Try.ntmps60
  go_wp2_with fail
  refine (xwhole_is s a F _ _ h.sx q1 h1).mono ?_
  rintro _ w1 ⟨rfl, hS1, hC1⟩
  have hM1 := h.call hS1 hC1
  clear h hS1 hC1
  go_wp2_with fail
  refine (xwhole_is s a F _ _ hM1.sx q2 h2).mono ?_
  rintro _ w2 ⟨rfl, hS2, hC2⟩
  have hM2 := hM1.call hS2 hC2
  clear hM1 hS2 hC2
  go_wp2_with fail
  refine (xwhole_is s a F _ _ hM2.sx q3 h3).mono ?_
  rintro _ w3 ⟨rfl, hS3, hC3⟩
  have hM3 := hM2.call hS3 hC3
  clear hM2 hS3 hC3
  obtain ⟨x1, f1⟩ := hM3.cell 1 _ rfl
  obtain ⟨x2, f2⟩ := hM3.cell 2 _ rfl
  obtain ⟨x3, f3⟩ := hM3.cell 3 _ rfl
  have hM4 := ((hM3.store 1 (.int .i64 (q1.1 : Int))).store 2 (.int .i64 (q2.1 : Int))).store 3 (.int .i64 (q3.1 : Int))
  have HM := Lib.hid hM4
  clear hM3 hM4
  go_wp2_with fail
  go_end0
  exact ⟨rfl, by simpa using HM.out⟩
end Go.Proofs.Ytdkankiohoocaaa
/- entry's scan.fields: where its walk stands; the kinds 3 to 7, 9, 10, and such as are none. -/
namespace Go.Proofs.Ytdkankiohoocaaa
set_option linter.unusedSimpArgs false
set_option linter.unusedVariables false
open Go Go.RowKit Go.Proofs

/-- An entry of a kind, and nothing else. -/
abbrev ent0 (k : Int) : Array Value := #[.int .u8 k, .int .i64 0, .int .i64 0, .int .i64 0, .slice none 0 0, .slice none 0 0, .int .i64 0, .int .i64 0, .slice none 0 0, .int .i64 0, .string ⟨#[]⟩, .int .i64 0, .int .i64 0]
/-- In the midst of fields: the boxes cs and ce of its two parameters. -/
structure FM (w0 w : World) (F : Nat → Prop) (s a E cs ce : Nat) (st : St) (x : Array Value) : Prop where
  em : EMid w0 w F s a E st x
  bs : w.heap[cs]? = some (.cells #[.pointer (some ⟨s, 0, none⟩)] 93 (0, 0))
  be : w.heap[ce]? = some (.cells #[.pointer (some ⟨E, 0, none⟩)] 99 (0, 0))
  old : w0.heap.size ≤ cs ∧ w0.heap.size ≤ ce
section
variable {w0 w w' : World} {F : Nat → Prop} {s a E cs ce : Nat} {st st' : St} {x : Array Value}
theorem FM.start (h : EMid w w F s a E st x) : FM w ((w.alloc (.cells #[.pointer (some ⟨s, 0, none⟩)] 93)).alloc (.cells #[.pointer (some ⟨E, 0, none⟩)] 99)) F s a E w.heap.size (w.heap.size + 1) st x := by
  obtain ⟨b1, b2, b3, b4⟩ := two_new (Chg.refl (fun _ => False) ((w.alloc (.cells #[.pointer (some ⟨s, 0, none⟩)] 93)).alloc (.cells #[.pointer (some ⟨E, 0, none⟩)] 99)))
  exact ⟨h.same b4, b1, b2, by omega⟩
theorem FM.call (h : FM w0 w F s a E cs ce st x) (hS : Sx w' F s a st') (hc : Chg (fun k => k = s ∨ k = a) w w') : FM w0 w' F s a E cs ce st' x := by
  have := h.em.ne
  have := h.old
  exact ⟨h.em.call hS hc, hc.at_ h.bs (by omega), hc.at_ h.be (by omega), h.old⟩
theorem FM.drew (h : FM w0 w F s a E cs ce st x) : FM w0 w.drew F s a E cs ce st x := h.call (h.em.sx.same (Chg.refl _ w).drew) (Chg.refl _ w).drew
theorem FM.store (h : FM w0 w F s a E cs ce st x) (i : Nat) (u : Value) : FM w0 (w.setCell ⟨E, i, none⟩ u) F s a E cs ce st (x.setIfInBounds i u) := by
  have := h.em.ne
  have := h.old
  have hc : Chg (fun k => k = E) w (w.setCell ⟨E, i, none⟩ u) := Chg.setCell (S := fun k => k = E) (Chg.refl _ w) (p := ⟨E, i, none⟩) (fun _ => rfl) _
  exact ⟨h.em.store i u, hc.at_ h.bs (by omega), hc.at_ h.be (by omega), h.old⟩
theorem FM.cells (h : FM w0 w F s a E cs ce st x) : w.cell? ⟨cs, 0, none⟩ = some (.pointer (some ⟨s, 0, none⟩)) ∧ w.cell? ⟨ce, 0, none⟩ = some (.pointer (some ⟨E, 0, none⟩)) := ⟨cell_of_one h.bs, cell_of_one h.be⟩
theorem FM.cell (h : FM w0 w F s a E cs ce st x) (i : Nat) (u : Value) (hi : x[i]? = some u) : w.cell? ⟨E, i, none⟩ = some u ∧ w.frozen? ⟨E, i, none⟩ = false := h.em.cell i u hi
end
/-- What fields leaves. -/
def FPost (w : World) (F : Nat → Prop) (s a E : Nat) (r : Option (EntD × St)) (en : Ending) (w' : World) : Prop :=
  en = .returned (.bool r.isSome) ∧ ∃ st x, EMid w w' F s a E st x ∧ ∀ e st', r = some (e, st') → st = st' ∧ (st'.2 = 0 → ∃ vo ve vp, x = entCells e vo ve vp ∧ EntS w' (fun b => w.heap.size ≤ b) e vo ve vp)
theorem EntS.none_ (w : World) (F : Nat → Prop) {e : EntD} (h1 : e.ops = []) (h2 : e.evs = []) (h3 : e.opn = []) : EntS w F e (.slice none 0 0) (.slice none 0 0) (.slice none 0 0) := by
  refine ⟨?_, ?_, ?_⟩
  · rw [h1]; exact Sl.nil_ _ _ _
  · rw [h2]; exact Sl.nil_ _ _ _
  · rw [h3]; exact Sl.nil_ _ _ _
theorem fpost_plain {w w' : World} {F : Nat → Prop} {s a E : Nat} {r : Option (EntD × St)} {e : EntD} {st : St} {x : Array Value} (hr : r = some (e, st)) (hm : EMid w w' F s a E st x) (hx : x = entCells e (.slice none 0 0) (.slice none 0 0) (.slice none 0 0)) (h1 : e.ops = []) (h2 : e.evs = []) (h3 : e.opn = []) :
    FPost w F s a E r (.returned (.bool true)) w' := by
  subst hr
  refine ⟨rfl, st, x, hm, fun e' st' he => ?_⟩
  injection he with he
  injection he with he1 he2
  subst he1; subst he2
  exact ⟨rfl, fun _ => ⟨_, _, _, hx, EntS.none_ _ _ h1 h2 h3⟩⟩

set_option maxHeartbeats 3200000 in
set_option maxRecDepth 100000 in
theorem fields_3 (s a E : Nat) (F : Nat → Prop) (st : St) (w : World) (h : EMid w w F s a E st (ent0 3)) :
    Calls Try.prog 39 #[.pointer (some ⟨s, 0, none⟩), .pointer (some ⟨E, 0, none⟩)] w (FPost w F s a E (rdBody 3 st)) := by
  obtain ⟨q1, H1⟩ : ∃ q, Hid (readText st.1 st.2 40 = q) := ⟨_, rfl⟩
  obtain ⟨q2, H2⟩ : ∃ q, Hid (wholeN q1.2 = q) := ⟨_, rfl⟩
  obtain ⟨r, HQ⟩ : ∃ r, Hid (rdBody 3 st = r) := ⟨_, rfl⟩
  have HR : Hid (r = some ({ noEnt with kind := 3, name := ⟨q1.1.toArray⟩, n := q2.1 }, q2.2)) := by
    show _ = _
    have hq := HQ.out
    have h1 := H1.out
    have h2 := H2.out
    subst h1
    subst h2
    rw [← hq]
    rfl
  rw [HQ.out]
  clear HQ
  have hM0 := FM.start h
  obtain ⟨k0, -⟩ := hM0.cell 0 _ rfl
  obtain ⟨d0, d1⟩ := hM0.cells
  have hE := h.ne
  have HM0 := Lib.hid hM0
  clear hM0 h
  go_enter Try.func39, Try.ntmps39
  go_upto_region 19 with fail
  have hM0 := HM0.out
  clear HM0 k0
  generalize (w.alloc (.cells #[.pointer (some ⟨s, 0, none⟩)] 93)).alloc (.cells #[.pointer (some ⟨E, 0, none⟩)] 99) = W at *
  generalize hce : w.heap.size + 1 = ce at *
  have hcs : w.heap.size = w.heap.size := rfl
  generalize w.heap.size = cs at hcs hM0 hce d0 d1 ⊢
  clear hcs hce
  go_region_held3 (fun w' => w'.cell? ⟨cs, 0, none⟩ = some (.pointer (some ⟨s, 0, none⟩)) ∧ w'.cell? ⟨ce, 0, none⟩ = some (.pointer (some ⟨E, 0, none⟩))) (first | go_keep | (constructor <;> assumption)) (first | (go_at_call 64; ((with_reducible refine (xwhole_is s a F _ _ hM1.em.sx q2 H2).mono ?_); rintro _ w2 ⟨rfl, hS2, hC2⟩; have hM2 := hM1.call hS2 hC2; obtain ⟨e2a, e2b⟩ := hM2.cells; obtain ⟨x0, y0⟩ := hM2.cell 10 _ rfl; obtain ⟨x1, y1⟩ := hM2.cell 11 _ rfl; obtain ⟨z0a, z0b⟩ := (hM2.store 10 (.string ⟨q1.1.toArray⟩)).cells; obtain ⟨z1a, z1b⟩ := ((hM2.store 10 (.string ⟨q1.1.toArray⟩)).store 11 (.int .i64 (q2.1 : Int))).cells)) | (go_at_call 67; ((with_reducible refine (xtext_is 40 s a F _ _ hM0.drew.em.sx (by omega) (by omega) q1 H1).mono ?_); rintro _ w1 ⟨rfl, hS1, hC1⟩; have hM1 := hM0.drew.call hS1 hC1; obtain ⟨e1a, e1b⟩ := hM1.cells)))
  have HM := Lib.hid ((hM2.store 10 (.string ⟨q1.1.toArray⟩)).store 11 (.int .i64 (q2.1 : Int))).em
  clear hM0 hM1 hM2
  go_wp2_with fail
  go_ret
  exact fpost_plain HR.out HM.out (by simp [entCells, noEnt]) rfl rfl rfl

set_option maxHeartbeats 3200000 in
set_option maxRecDepth 100000 in
theorem fields_4 (s a E : Nat) (F : Nat → Prop) (st : St) (w : World) (h : EMid w w F s a E st (ent0 4)) :
    Calls Try.prog 39 #[.pointer (some ⟨s, 0, none⟩), .pointer (some ⟨E, 0, none⟩)] w (FPost w F s a E (rdBody 4 st)) := by
  obtain ⟨q1, H1⟩ : ∃ q, Hid (readText st.1 st.2 40 = q) := ⟨_, rfl⟩
  obtain ⟨q2, H2⟩ : ∃ q, Hid (wholeN q1.2 = q) := ⟨_, rfl⟩
  obtain ⟨r, HQ⟩ : ∃ r, Hid (rdBody 4 st = r) := ⟨_, rfl⟩
  have HR : Hid (r = some ({ noEnt with kind := 4, name := ⟨q1.1.toArray⟩, n := q2.1 }, q2.2)) := by
    show _ = _
    have hq := HQ.out
    have h1 := H1.out
    have h2 := H2.out
    subst h1
    subst h2
    rw [← hq]
    rfl
  rw [HQ.out]
  clear HQ
  have hM0 := FM.start h
  obtain ⟨k0, -⟩ := hM0.cell 0 _ rfl
  obtain ⟨d0, d1⟩ := hM0.cells
  have hE := h.ne
  have HM0 := Lib.hid hM0
  clear hM0 h
  go_enter Try.func39, Try.ntmps39
  go_upto_region 19 with fail
  have hM0 := HM0.out
  clear HM0 k0
  generalize (w.alloc (.cells #[.pointer (some ⟨s, 0, none⟩)] 93)).alloc (.cells #[.pointer (some ⟨E, 0, none⟩)] 99) = W at *
  generalize hce : w.heap.size + 1 = ce at *
  have hcs : w.heap.size = w.heap.size := rfl
  generalize w.heap.size = cs at hcs hM0 hce d0 d1 ⊢
  clear hcs hce
  go_region_held3 (fun w' => w'.cell? ⟨cs, 0, none⟩ = some (.pointer (some ⟨s, 0, none⟩)) ∧ w'.cell? ⟨ce, 0, none⟩ = some (.pointer (some ⟨E, 0, none⟩))) (first | go_keep | (constructor <;> assumption)) (first | (go_at_call 64; ((with_reducible refine (xwhole_is s a F _ _ hM1.em.sx q2 H2).mono ?_); rintro _ w2 ⟨rfl, hS2, hC2⟩; have hM2 := hM1.call hS2 hC2; obtain ⟨e2a, e2b⟩ := hM2.cells; obtain ⟨x0, y0⟩ := hM2.cell 10 _ rfl; obtain ⟨x1, y1⟩ := hM2.cell 11 _ rfl; obtain ⟨z0a, z0b⟩ := (hM2.store 10 (.string ⟨q1.1.toArray⟩)).cells; obtain ⟨z1a, z1b⟩ := ((hM2.store 10 (.string ⟨q1.1.toArray⟩)).store 11 (.int .i64 (q2.1 : Int))).cells)) | (go_at_call 67; ((with_reducible refine (xtext_is 40 s a F _ _ hM0.drew.em.sx (by omega) (by omega) q1 H1).mono ?_); rintro _ w1 ⟨rfl, hS1, hC1⟩; have hM1 := hM0.drew.call hS1 hC1; obtain ⟨e1a, e1b⟩ := hM1.cells)))
  have HM := Lib.hid ((hM2.store 10 (.string ⟨q1.1.toArray⟩)).store 11 (.int .i64 (q2.1 : Int))).em
  clear hM0 hM1 hM2
  go_wp2_with fail
  go_ret
  exact fpost_plain HR.out HM.out (by simp [entCells, noEnt]) rfl rfl rfl

set_option maxHeartbeats 3200000 in
set_option maxRecDepth 100000 in
theorem fields_5 (s a E : Nat) (F : Nat → Prop) (st : St) (w : World) (h : EMid w w F s a E st (ent0 5)) :
    Calls Try.prog 39 #[.pointer (some ⟨s, 0, none⟩), .pointer (some ⟨E, 0, none⟩)] w (FPost w F s a E (rdBody 5 st)) := by
  obtain ⟨q1, H1⟩ : ∃ q, Hid (readText st.1 st.2 40 = q) := ⟨_, rfl⟩
  obtain ⟨q2, H2⟩ : ∃ q, Hid (wholeN q1.2 = q) := ⟨_, rfl⟩
  obtain ⟨r, HQ⟩ : ∃ r, Hid (rdBody 5 st = r) := ⟨_, rfl⟩
  have HR : Hid (r = some ({ noEnt with kind := 5, name := ⟨q1.1.toArray⟩, n := q2.1 }, q2.2)) := by
    show _ = _
    have hq := HQ.out
    have h1 := H1.out
    have h2 := H2.out
    subst h1
    subst h2
    rw [← hq]
    rfl
  rw [HQ.out]
  clear HQ
  have hM0 := FM.start h
  obtain ⟨k0, -⟩ := hM0.cell 0 _ rfl
  obtain ⟨d0, d1⟩ := hM0.cells
  have hE := h.ne
  have HM0 := Lib.hid hM0
  clear hM0 h
  go_enter Try.func39, Try.ntmps39
  go_upto_region 19 with fail
  have hM0 := HM0.out
  clear HM0 k0
  generalize (w.alloc (.cells #[.pointer (some ⟨s, 0, none⟩)] 93)).alloc (.cells #[.pointer (some ⟨E, 0, none⟩)] 99) = W at *
  generalize hce : w.heap.size + 1 = ce at *
  have hcs : w.heap.size = w.heap.size := rfl
  generalize w.heap.size = cs at hcs hM0 hce d0 d1 ⊢
  clear hcs hce
  go_region_held3 (fun w' => w'.cell? ⟨cs, 0, none⟩ = some (.pointer (some ⟨s, 0, none⟩)) ∧ w'.cell? ⟨ce, 0, none⟩ = some (.pointer (some ⟨E, 0, none⟩))) (first | go_keep | (constructor <;> assumption)) (first | (go_at_call 64; ((with_reducible refine (xwhole_is s a F _ _ hM1.em.sx q2 H2).mono ?_); rintro _ w2 ⟨rfl, hS2, hC2⟩; have hM2 := hM1.call hS2 hC2; obtain ⟨e2a, e2b⟩ := hM2.cells; obtain ⟨x0, y0⟩ := hM2.cell 10 _ rfl; obtain ⟨x1, y1⟩ := hM2.cell 11 _ rfl; obtain ⟨z0a, z0b⟩ := (hM2.store 10 (.string ⟨q1.1.toArray⟩)).cells; obtain ⟨z1a, z1b⟩ := ((hM2.store 10 (.string ⟨q1.1.toArray⟩)).store 11 (.int .i64 (q2.1 : Int))).cells)) | (go_at_call 67; ((with_reducible refine (xtext_is 40 s a F _ _ hM0.drew.em.sx (by omega) (by omega) q1 H1).mono ?_); rintro _ w1 ⟨rfl, hS1, hC1⟩; have hM1 := hM0.drew.call hS1 hC1; obtain ⟨e1a, e1b⟩ := hM1.cells)))
  have HM := Lib.hid ((hM2.store 10 (.string ⟨q1.1.toArray⟩)).store 11 (.int .i64 (q2.1 : Int))).em
  clear hM0 hM1 hM2
  go_wp2_with fail
  go_ret
  exact fpost_plain HR.out HM.out (by simp [entCells, noEnt]) rfl rfl rfl

set_option maxHeartbeats 3200000 in
set_option maxRecDepth 100000 in
theorem fields_6 (s a E : Nat) (F : Nat → Prop) (st : St) (w : World) (h : EMid w w F s a E st (ent0 6)) :
    Calls Try.prog 39 #[.pointer (some ⟨s, 0, none⟩), .pointer (some ⟨E, 0, none⟩)] w (FPost w F s a E (rdBody 6 st)) := by
  obtain ⟨q1, H1⟩ : ∃ q, Hid (readText st.1 st.2 40 = q) := ⟨_, rfl⟩
  obtain ⟨q2, H2⟩ : ∃ q, Hid (wholeN q1.2 = q) := ⟨_, rfl⟩
  obtain ⟨r, HQ⟩ : ∃ r, Hid (rdBody 6 st = r) := ⟨_, rfl⟩
  have HR : Hid (r = some ({ noEnt with kind := 6, name := ⟨q1.1.toArray⟩, n := q2.1 }, q2.2)) := by
    show _ = _
    have hq := HQ.out
    have h1 := H1.out
    have h2 := H2.out
    subst h1
    subst h2
    rw [← hq]
    rfl
  rw [HQ.out]
  clear HQ
  have hM0 := FM.start h
  obtain ⟨k0, -⟩ := hM0.cell 0 _ rfl
  obtain ⟨d0, d1⟩ := hM0.cells
  have hE := h.ne
  have HM0 := Lib.hid hM0
  clear hM0 h
  go_enter Try.func39, Try.ntmps39
  go_upto_region 19 with fail
  have hM0 := HM0.out
  clear HM0 k0
  generalize (w.alloc (.cells #[.pointer (some ⟨s, 0, none⟩)] 93)).alloc (.cells #[.pointer (some ⟨E, 0, none⟩)] 99) = W at *
  generalize hce : w.heap.size + 1 = ce at *
  have hcs : w.heap.size = w.heap.size := rfl
  generalize w.heap.size = cs at hcs hM0 hce d0 d1 ⊢
  clear hcs hce
  go_region_held3 (fun w' => w'.cell? ⟨cs, 0, none⟩ = some (.pointer (some ⟨s, 0, none⟩)) ∧ w'.cell? ⟨ce, 0, none⟩ = some (.pointer (some ⟨E, 0, none⟩))) (first | go_keep | (constructor <;> assumption)) (first | (go_at_call 64; ((with_reducible refine (xwhole_is s a F _ _ hM1.em.sx q2 H2).mono ?_); rintro _ w2 ⟨rfl, hS2, hC2⟩; have hM2 := hM1.call hS2 hC2; obtain ⟨e2a, e2b⟩ := hM2.cells; obtain ⟨x0, y0⟩ := hM2.cell 10 _ rfl; obtain ⟨x1, y1⟩ := hM2.cell 11 _ rfl; obtain ⟨z0a, z0b⟩ := (hM2.store 10 (.string ⟨q1.1.toArray⟩)).cells; obtain ⟨z1a, z1b⟩ := ((hM2.store 10 (.string ⟨q1.1.toArray⟩)).store 11 (.int .i64 (q2.1 : Int))).cells)) | (go_at_call 67; ((with_reducible refine (xtext_is 40 s a F _ _ hM0.drew.em.sx (by omega) (by omega) q1 H1).mono ?_); rintro _ w1 ⟨rfl, hS1, hC1⟩; have hM1 := hM0.drew.call hS1 hC1; obtain ⟨e1a, e1b⟩ := hM1.cells)))
  have HM := Lib.hid ((hM2.store 10 (.string ⟨q1.1.toArray⟩)).store 11 (.int .i64 (q2.1 : Int))).em
  clear hM0 hM1 hM2
  go_wp2_with fail
  go_ret
  exact fpost_plain HR.out HM.out (by simp [entCells, noEnt]) rfl rfl rfl

set_option maxHeartbeats 3200000 in
set_option maxRecDepth 100000 in
theorem fields_7 (s a E : Nat) (F : Nat → Prop) (st : St) (w : World) (h : EMid w w F s a E st (ent0 7)) :
    Calls Try.prog 39 #[.pointer (some ⟨s, 0, none⟩), .pointer (some ⟨E, 0, none⟩)] w (FPost w F s a E (rdBody 7 st)) := by
  obtain ⟨q1, H1⟩ : ∃ q, Hid (readText st.1 st.2 40 = q) := ⟨_, rfl⟩
  obtain ⟨q2, H2⟩ : ∃ q, Hid (wholeN q1.2 = q) := ⟨_, rfl⟩
  obtain ⟨q3, H3⟩ : ∃ q, Hid (readInt q2.2.1 q2.2.2 = q) := ⟨_, rfl⟩
  obtain ⟨r, HQ⟩ : ∃ r, Hid (rdBody 7 st = r) := ⟨_, rfl⟩
  have HR : Hid (r = some ({ noEnt with kind := 7, name := ⟨q1.1.toArray⟩, n := q2.1, at_ := q3.1 }, q3.2)) := by
    show _ = _
    have hq := HQ.out
    have h1 := H1.out
    have h2 := H2.out
    have h3 := H3.out
    subst h1
    subst h2
    subst h3
    rw [← hq]
    rfl
  rw [HQ.out]
  clear HQ
  have hM0 := FM.start h
  obtain ⟨k0, -⟩ := hM0.cell 0 _ rfl
  obtain ⟨d0, d1⟩ := hM0.cells
  have hE := h.ne
  have HM0 := Lib.hid hM0
  clear hM0 h
  go_enter Try.func39, Try.ntmps39
  go_upto_region 21 with fail
  have hM0 := HM0.out
  clear HM0 k0
  generalize (w.alloc (.cells #[.pointer (some ⟨s, 0, none⟩)] 93)).alloc (.cells #[.pointer (some ⟨E, 0, none⟩)] 99) = W at *
  generalize hce : w.heap.size + 1 = ce at *
  have hcs : w.heap.size = w.heap.size := rfl
  generalize w.heap.size = cs at hcs hM0 hce d0 d1 ⊢
  clear hcs hce
  go_region_held3 (fun w' => w'.cell? ⟨cs, 0, none⟩ = some (.pointer (some ⟨s, 0, none⟩)) ∧ w'.cell? ⟨ce, 0, none⟩ = some (.pointer (some ⟨E, 0, none⟩))) (first | go_keep | (constructor <;> assumption)) (first | (go_at_call 63; ((with_reducible refine (xint_is s a F _ _ hM2.em.sx q3 H3).mono ?_); rintro _ w3 ⟨rfl, hS3, hC3⟩; have hM3 := hM2.call hS3 hC3; obtain ⟨e3a, e3b⟩ := hM3.cells; obtain ⟨x0, y0⟩ := hM3.cell 10 _ rfl; obtain ⟨x1, y1⟩ := hM3.cell 11 _ rfl; obtain ⟨x2, y2⟩ := hM3.cell 12 _ rfl; obtain ⟨z0a, z0b⟩ := (hM3.store 10 (.string ⟨q1.1.toArray⟩)).cells; obtain ⟨z1a, z1b⟩ := ((hM3.store 10 (.string ⟨q1.1.toArray⟩)).store 11 (.int .i64 (q2.1 : Int))).cells; obtain ⟨z2a, z2b⟩ := (((hM3.store 10 (.string ⟨q1.1.toArray⟩)).store 11 (.int .i64 (q2.1 : Int))).store 12 (.int .i64 q3.1)).cells)) | (go_at_call 64; ((with_reducible refine (xwhole_is s a F _ _ hM1.em.sx q2 H2).mono ?_); rintro _ w2 ⟨rfl, hS2, hC2⟩; have hM2 := hM1.call hS2 hC2; obtain ⟨e2a, e2b⟩ := hM2.cells)) | (go_at_call 67; ((with_reducible refine (xtext_is 40 s a F _ _ hM0.drew.em.sx (by omega) (by omega) q1 H1).mono ?_); rintro _ w1 ⟨rfl, hS1, hC1⟩; have hM1 := hM0.drew.call hS1 hC1; obtain ⟨e1a, e1b⟩ := hM1.cells)))
  have HM := Lib.hid (((hM3.store 10 (.string ⟨q1.1.toArray⟩)).store 11 (.int .i64 (q2.1 : Int))).store 12 (.int .i64 q3.1)).em
  clear hM0 hM1 hM2 hM3
  go_wp2_with fail
  go_ret
  exact fpost_plain HR.out HM.out (by simp [entCells, noEnt]) rfl rfl rfl

set_option maxHeartbeats 3200000 in
set_option maxRecDepth 100000 in
theorem fields_9 (s a E : Nat) (F : Nat → Prop) (st : St) (w : World) (h : EMid w w F s a E st (ent0 9)) :
    Calls Try.prog 39 #[.pointer (some ⟨s, 0, none⟩), .pointer (some ⟨E, 0, none⟩)] w (FPost w F s a E (rdBody 9 st)) := by
  obtain ⟨q1, H1⟩ : ∃ q, Hid (wholeN st = q) := ⟨_, rfl⟩
  obtain ⟨r, HQ⟩ : ∃ r, Hid (rdBody 9 st = r) := ⟨_, rfl⟩
  have HR : Hid (r = some ({ noEnt with kind := 9, n := q1.1 }, q1.2)) := by
    show _ = _
    have hq := HQ.out
    have h1 := H1.out
    subst h1
    rw [← hq]
    rfl
  rw [HQ.out]
  clear HQ
  have hM0 := FM.start h
  obtain ⟨k0, -⟩ := hM0.cell 0 _ rfl
  obtain ⟨d0, d1⟩ := hM0.cells
  have hE := h.ne
  have HM0 := Lib.hid hM0
  clear hM0 h
  go_enter Try.func39, Try.ntmps39
  go_upto_region 24 with fail
  have hM0 := HM0.out
  clear HM0 k0
  generalize (w.alloc (.cells #[.pointer (some ⟨s, 0, none⟩)] 93)).alloc (.cells #[.pointer (some ⟨E, 0, none⟩)] 99) = W at *
  generalize hce : w.heap.size + 1 = ce at *
  have hcs : w.heap.size = w.heap.size := rfl
  generalize w.heap.size = cs at hcs hM0 hce d0 d1 ⊢
  clear hcs hce
  go_region_held3 (fun w' => w'.cell? ⟨cs, 0, none⟩ = some (.pointer (some ⟨s, 0, none⟩)) ∧ w'.cell? ⟨ce, 0, none⟩ = some (.pointer (some ⟨E, 0, none⟩))) (first | go_keep | (constructor <;> assumption)) (first | (go_at_call 64; ((with_reducible refine (xwhole_is s a F _ _ hM0.drew.em.sx q1 H1).mono ?_); rintro _ w1 ⟨rfl, hS1, hC1⟩; have hM1 := hM0.drew.call hS1 hC1; obtain ⟨e1a, e1b⟩ := hM1.cells; obtain ⟨x0, y0⟩ := hM1.cell 11 _ rfl; obtain ⟨z0a, z0b⟩ := (hM1.store 11 (.int .i64 (q1.1 : Int))).cells)))
  have HM := Lib.hid (hM1.store 11 (.int .i64 (q1.1 : Int))).em
  clear hM0 hM1
  go_wp2_with fail
  go_ret
  exact fpost_plain HR.out HM.out (by simp [entCells, noEnt]) rfl rfl rfl

set_option maxHeartbeats 3200000 in
set_option maxRecDepth 100000 in
theorem fields_10 (s a E : Nat) (F : Nat → Prop) (st : St) (w : World) (h : EMid w w F s a E st (ent0 10)) :
    Calls Try.prog 39 #[.pointer (some ⟨s, 0, none⟩), .pointer (some ⟨E, 0, none⟩)] w (FPost w F s a E (rdBody 10 st)) := by
  obtain ⟨q1, H1⟩ : ∃ q, Hid (wholeN st = q) := ⟨_, rfl⟩
  obtain ⟨r, HQ⟩ : ∃ r, Hid (rdBody 10 st = r) := ⟨_, rfl⟩
  have HR : Hid (r = some ({ noEnt with kind := 10, n := q1.1 }, q1.2)) := by
    show _ = _
    have hq := HQ.out
    have h1 := H1.out
    subst h1
    rw [← hq]
    rfl
  rw [HQ.out]
  clear HQ
  have hM0 := FM.start h
  obtain ⟨k0, -⟩ := hM0.cell 0 _ rfl
  obtain ⟨d0, d1⟩ := hM0.cells
  have hE := h.ne
  have HM0 := Lib.hid hM0
  clear hM0 h
  go_enter Try.func39, Try.ntmps39
  go_upto_region 24 with fail
  have hM0 := HM0.out
  clear HM0 k0
  generalize (w.alloc (.cells #[.pointer (some ⟨s, 0, none⟩)] 93)).alloc (.cells #[.pointer (some ⟨E, 0, none⟩)] 99) = W at *
  generalize hce : w.heap.size + 1 = ce at *
  have hcs : w.heap.size = w.heap.size := rfl
  generalize w.heap.size = cs at hcs hM0 hce d0 d1 ⊢
  clear hcs hce
  go_region_held3 (fun w' => w'.cell? ⟨cs, 0, none⟩ = some (.pointer (some ⟨s, 0, none⟩)) ∧ w'.cell? ⟨ce, 0, none⟩ = some (.pointer (some ⟨E, 0, none⟩))) (first | go_keep | (constructor <;> assumption)) (first | (go_at_call 64; ((with_reducible refine (xwhole_is s a F _ _ hM0.drew.em.sx q1 H1).mono ?_); rintro _ w1 ⟨rfl, hS1, hC1⟩; have hM1 := hM0.drew.call hS1 hC1; obtain ⟨e1a, e1b⟩ := hM1.cells; obtain ⟨x0, y0⟩ := hM1.cell 11 _ rfl; obtain ⟨z0a, z0b⟩ := (hM1.store 11 (.int .i64 (q1.1 : Int))).cells)))
  have HM := Lib.hid (hM1.store 11 (.int .i64 (q1.1 : Int))).em
  clear hM0 hM1
  go_wp2_with fail
  go_ret
  exact fpost_plain HR.out HM.out (by simp [entCells, noEnt]) rfl rfl rfl

set_option maxHeartbeats 3200000 in
set_option maxRecDepth 100000 in
theorem fields_none (k : Int) (hk : ¬ (1 ≤ k ∧ k ≤ 11)) (s a E : Nat) (F : Nat → Prop) (st : St) (w : World) (h : EMid w w F s a E st (ent0 k)) :
    Calls Try.prog 39 #[.pointer (some ⟨s, 0, none⟩), .pointer (some ⟨E, 0, none⟩)] w (FPost w F s a E (rdBody k st)) := by
  have HR : Hid (rdBody k st = none) := by
    show _ = _
    unfold rdBody
    rw [if_neg (by omega), if_neg (by omega), if_neg (by omega), if_neg (by omega), if_neg (by omega), if_neg (by omega), if_neg (by omega)]
  rw [HR.out]
  have n1 : (k == 1) = false := by rw [beq_eq_false_iff_ne]; omega
  have n2 : (k == 2) = false := by rw [beq_eq_false_iff_ne]; omega
  have n3 : (k == 3) = false := by rw [beq_eq_false_iff_ne]; omega
  have n4 : (k == 4) = false := by rw [beq_eq_false_iff_ne]; omega
  have n5 : (k == 5) = false := by rw [beq_eq_false_iff_ne]; omega
  have n6 : (k == 6) = false := by rw [beq_eq_false_iff_ne]; omega
  have n7 : (k == 7) = false := by rw [beq_eq_false_iff_ne]; omega
  have n8 : (k == 8) = false := by rw [beq_eq_false_iff_ne]; omega
  have n9 : (k == 9) = false := by rw [beq_eq_false_iff_ne]; omega
  have n10 : (k == 10) = false := by rw [beq_eq_false_iff_ne]; omega
  have n11 : (k == 11) = false := by rw [beq_eq_false_iff_ne]; omega
  clear HR
  have hM0 := FM.start h
  obtain ⟨k0, -⟩ := hM0.cell 0 _ rfl
  obtain ⟨d0, d1⟩ := hM0.cells
  have hE := h.ne
  have HM0 := Lib.hid hM0
  clear hM0 h
  go_enter Try.func39, Try.ntmps39
  go_wp2_with fail
  go_ret
  exact ⟨rfl, st, ent0 k, HM0.out.em, fun _ _ h => by cases h⟩
end Go.Proofs.Ytdkankiohoocaaa
