/- The closure of entry's scan.fields. -/
import Derived.Test.YtdkankiohoocaaaQFld1
import Derived.Deep.RegionLaw
import Derived.Test.YtdkankiohoocaaaQFldG
namespace Go.Proofs.Ytdkankiohoocaaa
set_option linter.unusedSimpArgs false
set_option linter.unusedVariables false
open Go Go.RowKit Go.Proofs

/-- append at a step of a region that draws. -/
theorem step_app {P : Program} {w : World} {ops : Array Oper} {o : Oper} {a : Act} {K : Act → World → Prop} {Q : Exit → Act → World → Prop} {E : Prop} (hgd : o.guard = none) (s x : Operand) (t : TypeId)
    (ho : o.op = .call { callee := .builtin .append, args := #[s, x], argTypes := #[t, t] })
    (e : TypeId) (i : TypeInfo) (z : Value) (size bytes : Nat) (ht : P.underlying t = some (.slice e)) (hi : P.info? e = some i) (hz : i.zero = some z)
    (hsize : i.size = size) (hby : i.bytes = bytes) (hzs : z.cells.size = size) (hsz : 0 < size)
    (v : Value) (n : Nat) (xs : List Value) (hs : a.eval s = v) (hown : w.ownsRow 0 e size v n xs)
    (A : Option Addr) (m c : Nat) (news : List Value) (hx : a.eval x = .slice A m c) (hl : news.length = m * size) (hnews : 0 < m → ∃ ad, A = some ad ∧ ∀ j u, news[j]? = some u → w.cell? (ad.add j) = some u) (h1 : ∀ u ∈ news, u.oneCell' = true)
    (hbytes : (n + m) * bytes ≤ 140737488355328) (h63 : n + m ≤ maxLen)
    (h : ∀ A' cap' w', w'.ownsRow 0 e size (.slice A' (n + m) cap') (n + m) (xs ++ news) → w.grownBy w' v.ownBlock → ((Value.slice A' (n + m) cap').ownBlock = v.ownBlock ∨ (Value.slice A' (n + m) cap').ownBlock = some w.heap.size) → K (a.put o.dst (.slice A' (n + m) cap')) w') :
    if Region.wanted o (yielded ops a.tmps) = true then Oper.wp P o a w K Q else E := by
  have hw : Region.wanted o (yielded ops a.tmps) = true := by simp [Region.wanted, hgd]
  rw [if_pos hw]
  obtain ⟨A', cap', w', hr, h2, h3, h4⟩ := run_app (P := P) w t o.type e i z size bytes ht hi hz hsize hby hzs hsz v n xs hown A m c news hl hnews h1 hbytes h63
  unfold Oper.wp execOp
  simp only [ho, resolve, invoke, builtin, Sem.run_bind, Sem.run_pure, Result.andThen_ok, List.map_toArray, List.map_cons, List.map_nil, hs, hx, hr]
  exact h A' cap' w' h2 h3 h4

/-- The numbers that the closure gathers in the entry's field. -/
structure Nm (X : Value → Array Value) (w0 : World) (s a E c0 c1 : Nat) (l : List Int) (w : World) (v : Value) : Prop where
  ptr : w.heap[c0]? = some (.cells #[.pointer (some ⟨E, 0, none⟩)] 99 (0, 0))
  cap : w.heap[c1]? = some (.cells #[.pointer (some ⟨s, 0, none⟩)] 93 (0, 0))
  ent : w.heap[E]? = some (.cells (X v) 40 (0, 0))
  own : w.ownsRow 0 2 1 v l.length (l.map (Value.int .i64))
  chg : Chg (fun k => k = s ∨ k = a ∨ k = E) w0 w
  row : ∀ g, v.ownBlock = some g → w0.heap.size ≤ g ∧ g ≠ c0 ∧ g ≠ c1
  old : s < w0.heap.size ∧ a < w0.heap.size ∧ E < w0.heap.size ∧ w0.heap.size ≤ c0 ∧ w0.heap.size ≤ c1 ∧ E ≠ s ∧ E ≠ a
  at8 : ∀ v, (X v)[8]? = some v
  set8 : ∀ v u, (X v).setIfInBounds 8 u = X u
section
variable {X : Value → Array Value} {w0 w w' w2 : World} {s a E c0 c1 : Nat} {l : List Int} {v v' : Value} {F : Nat → Prop} {st : St}
theorem Nm.call (h : Nm X w0 s a E c0 c1 l w v) (hc : Chg (fun k => k = s ∨ k = a) w w') : Nm X w0 s a E c0 c1 l w' v := by
  have ho := h.old
  exact ⟨hc.at_ h.ptr (by omega), hc.at_ h.cap (by omega), hc.at_ h.ent (by omega), ownsRow_keep' h.own hc (fun g hg => by have := h.row g hg; omega), h.chg.trans (hc.mono (fun _ h => by omega)), h.row, h.old, h.at8, h.set8⟩
theorem Nm.drew (h : Nm X w0 s a E c0 c1 l w v) : Nm X w0 s a E c0 c1 l w.drew v := h.call (Chg.refl _ w).drew
theorem Nm.cells (h : Nm X w0 s a E c0 c1 l w v) : w.cell? ⟨c0, 0, none⟩ = some (.pointer (some ⟨E, 0, none⟩)) ∧ w.cell? ⟨c1, 0, none⟩ = some (.pointer (some ⟨s, 0, none⟩)) ∧ w.cell? ⟨E, 8, none⟩ = some v ∧ w.frozen? ⟨E, 8, none⟩ = false :=
  ⟨cell_of_one h.ptr, cell_of_one h.cap, by simp [World.cell?, h.ent, h.at8], by simp [World.frozen?, h.ent]⟩
theorem Nm.more (h : Nm X w0 s a E c0 c1 l w v) (hs : Sx w F s a st) (hF : ∀ k, F k → k < w0.heap.size ∧ k ≠ E) (n : Int) (o : Obj) (ho : w2.ownsRow 0 2 1 v' (l.length + 1) (l.map (Value.int .i64) ++ [.int .i64 n])) (hg : (w.alloc o).grownBy w2 v.ownBlock) (hat : v'.ownBlock = v.ownBlock ∨ v'.ownBlock = some (w.alloc o).heap.size) :
    Nm X w0 s a E c0 c1 (l ++ [n]) (w2.setCell ⟨E, 8, none⟩ v') v' ∧ Sx (w2.setCell ⟨E, 8, none⟩ v') F s a st := by
  have ha := h.call (Chg.alloc_ (fun k => k = s ∨ k = a) w o)
  have hc2 : Chg (fun k => v.ownBlock = some k) (w.alloc o) w2 := Chg.of_grown hg (fun k h => h)
  have hold := h.old
  have l0 := lt_of_block ha.ptr
  have l1 := lt_of_block ha.cap
  have l2 := ha.chg.size
  have hrow : ∀ g, v'.ownBlock = some g → w0.heap.size ≤ g ∧ g ≠ c0 ∧ g ≠ c1 := by
    intro g hg'
    rcases hat with e | e
    · rw [e] at hg'; exact h.row g hg'
    · rw [e] at hg'; injection hg' with hg'; omega
  have hlow : ∀ k, k < w0.heap.size → ¬ v.ownBlock = some k := fun k hk hh => by have := (h.row k hh).1; omega
  have hcE : Chg (fun k => k = E) w2 (w2.setCell ⟨E, 8, none⟩ v') := Chg.setCell (S := fun k => k = E) (Chg.refl _ w2) (p := ⟨E, 8, none⟩) (fun _ => rfl) _
  refine ⟨⟨?_, ?_, ?_, ?_, ?_, hrow, h.old, h.at8, h.set8⟩, ?_⟩
  · exact hcE.at_ (hc2.at_ ha.ptr (fun e => (h.row c0 e).2.1 rfl)) (by omega)
  · exact hcE.at_ (hc2.at_ ha.cap (fun e => (h.row c1 e).2.2 rfl)) (by omega)
  · have he := hc2.at_ ha.ent (hlow E hold.2.2.1)
    rw [← h.set8 v v']
    simp [World.setCell, Array.getElem?_modify, he]
  · have e1 : (l ++ [n]).length = l.length + 1 := by simp
    have e2 : (l ++ [n]).map (Value.int .i64) = l.map (Value.int .i64) ++ [.int .i64 n] := by simp
    rw [e1, e2]
    exact ownsRow_setCell_other ho (fun e => by have := (hrow E e).1; omega) _
  · exact (ha.chg.trans' hc2 (fun i hi e => absurd e (hlow i hi))).trans (hcE.mono (fun _ h => by omega))
  · exact ((hs.same (Chg.alloc_ _ w o)).keep hc2 (hlow s hold.1) (fun k hk => hlow k (hF k hk).1)).keep hcE (by omega) (fun k hk => (hF k hk).2)
end
def RNum (X : Value → Array Value) (w0 : World) (s a E c0 c1 : Nat) (k : Nat) (l : List Int) (_ : St) (w : World) : Prop := k + l.length ≤ 255 ∧ ∃ v, Nm X w0 s a E c0 c1 l w v

set_option maxHeartbeats 3200000 in
set_option maxRecDepth 100000 in
theorem fieldsC_any (X : Value → Array Value) (w0 : World) (s a E c0 c1 : Nat) (F : Nat → Prop) (hF : ∀ k, F k → k < w0.heap.size ∧ k ≠ E) : Does 66 c0 c1 s a F numStep (RNum X w0 s a E c0 c1) := by
  intro k x st w h0 hS hR
  obtain ⟨hn, v, hA⟩ := hR
  obtain ⟨d0, d1, d2, g2⟩ := hA.cells
  obtain ⟨q1, H1⟩ : ∃ q, Hid (wholeN st = q) := ⟨_, rfl⟩
  have HE : Hid (numStep x st = (x ++ [(q1.1 : Int)], q1.2)) := by show _ = _; unfold numStep; rw [H1.out]
  rw [HE.out]
  clear h0
  obtain ⟨i0, hi, hz0, hz1, hz2⟩ := info_parts info_i64
  have hAd := hA.drew
  have hSd : Sx w.drew F s a st := hS.same (Chg.refl _ w).drew
  have hrowE : ¬ v.ownBlock = some E := fun e => by have := (hA.row E e).1; have := hA.old; omega
  have hrow0 : ¬ v.ownBlock = some c0 := fun e => (hA.row c0 e).2.1 rfl
  have hrow1 : ¬ v.ownBlock = some c1 := fun e => (hA.row c1 e).2.2 rfl
  go_enter Try.func66, Try.ntmps66
  go_region_law (first | (refine step_app rfl _ _ 23 rfl 2 i0 _ 1 8 Try.underlying23 hi hz0 hz1 hz2 rfl (by omega) v x.length (x.map (Value.int .i64)) (by rfl) (hown1.alloc _) _ 1 1 [.int .i64 (q1.1 : Int)] (by rfl) (by rfl) (one_new_cell _ _ _) (by simp [Value.oneCell']) (by omega) (by unfold maxLen; omega) ?_; intro A3 cp3 w2 hown2 hgr2 hat2; have q2 := (Chg.refl (fun _ => False) w1).alloc (.cells #[.int .i64 (q1.1 : Int)] 2); have q3 := Chg.of_grown (S := fun k => v.ownBlock = some k) hgr2 (fun k h => h); have k2 := q3.cell' (q2.cell' e2 (fun h => h)) hrowE; have k0 := q3.cell' (q2.cell' e0 (fun h => h)) hrow0; have k1 := q3.cell' (q2.cell' e1 (fun h => h)) hrow1; have f2 : w2.frozen? ⟨E, 8, none⟩ = false := (q3.frozen (p := ⟨E, 8, none⟩) (Nat.lt_of_lt_of_le lE1 q2.size) hrowE).trans ((q2.frozen (p := ⟨E, 8, none⟩) lE1 (fun h => h)).trans g2')) | (go_simp; go_at_call 64; refine (xwhole_is s a F _ _ hSd q1 H1).mono ?_; rintro _ w1 ⟨rfl, hS1, hC1⟩; have hA1 := hAd.call hC1; obtain ⟨e0, e1, e2, g2'⟩ := hA1.cells; have lE1 := lt_of_block hA1.ent; have lc0 := lt_of_block hA1.ptr; have lc1 := lt_of_block hA1.cap; have hown1 := hA1.own))
  all_goals
    have HM := Lib.hid (hA1.more hS1 hF (q1.1 : Int) _ hown2 hgr2 hat2)
    clear hgr2 hown2 hat2 q2 q3 hown1 hA1 hS1 hC1
    go_wp2_with fail
    go_end0
    exact ⟨rfl, HM.out.2, by simp; omega, _, HM.out.1⟩
end Go.Proofs.Ytdkankiohoocaaa
/- entry's scan.fields: the kind 2, and all kinds. -/
namespace Go.Proofs.Ytdkankiohoocaaa
set_option linter.unusedSimpArgs false
set_option linter.unusedVariables false
open Go Go.RowKit Go.Proofs

section
variable {X : Value → Array Value} {w0 w w' : World} {F : Nat → Prop} {s a E cs ce : Nat} {st st' : St} {x : Array Value} {l : List Int} {v : Value}
theorem FM.nm (h : FM w0 w F s a E cs ce st (X (.slice none 0 0))) (h8 : ∀ v, (X v)[8]? = some v) (hs : ∀ v u, (X v).setIfInBounds 8 u = X u) : Nm X w0 s a E ce cs [] w (.slice none 0 0) := by
  have := h.em.ne
  have := h.old
  exact ⟨h.be, h.bs, h.em.ent, World.ownsRow_nil _ _ _ _, h.em.chg, fun g hg => by simp [Value.ownBlock] at hg, by omega, h8, hs⟩
theorem FM.of_nm (h : FM w0 w F s a E cs ce st x) (hn : Nm X w0 s a E ce cs l w' v) (hS : Sx w' F s a st') : FM w0 w' F s a E cs ce st' (X v) :=
  ⟨⟨hS, hn.ent, hn.chg, h.em.ne, h.em.nf⟩, hn.cap, hn.ptr, h.old⟩
theorem Nm.sl (h : Nm X w0 s a E ce cs l w v) : Sl w (fun b => w0.heap.size ≤ b) 1 v (l.map numCells) := by
  have hf : (l.map numCells).flatten = l.map (Value.int .i64) := by
    clear h
    induction l with
    | nil => rfl
    | cons n l ih => simp only [List.map_cons, List.flatten_cons, ih]; rfl
  have ho := h.own
  rw [← hf] at ho
  exact Sl.of_own (by omega) ho (by simp) (by intro x hx; obtain ⟨o, -, rfl⟩ := List.mem_map.1 hx; rfl) (fun g hg => (h.row g hg).1)
end
theorem numCells_pos (l : List Int) : ∀ x ∈ l.map numCells, 0 < x.length := by intro x hx; obtain ⟨o, -, rfl⟩ := List.mem_map.1 hx; exact Nat.zero_lt_succ _

set_option maxHeartbeats 3200000 in
set_option maxRecDepth 100000 in
theorem fields_2 (s a E : Nat) (F : Nat → Prop) (st : St) (w : World) (h : EMid w w F s a E st (ent0 2)) :
    Calls Try.prog 39 #[.pointer (some ⟨s, 0, none⟩), .pointer (some ⟨E, 0, none⟩)] w (FPost w F s a E (rdBody 2 st)) := by
  obtain ⟨q1, H1⟩ : ∃ q, Hid (wholeN st = q) := ⟨_, rfl⟩
  obtain ⟨q2, H2⟩ : ∃ q, Hid (wholeN q1.2 = q) := ⟨_, rfl⟩
  obtain ⟨q3, H3⟩ : ∃ q, Hid (stepNum 0 255 q2.2 = q) := ⟨_, rfl⟩
  obtain ⟨y, H4⟩ : ∃ q, Hid (iter numStep q3.1 [] q3.2 = q) := ⟨_, rfl⟩
  obtain ⟨q5, H5⟩ : ∃ q, Hid (readInt y.2.1 y.2.2 = q) := ⟨_, rfl⟩
  obtain ⟨r, HQ⟩ : ∃ r, Hid (rdBody 2 st = r) := ⟨_, rfl⟩
  have HR : Hid (r = some ({ noEnt with kind := 2, tickN := q1.1, max := q2.1, opn := y.1, tickAt := q5.1 }, q5.2)) := by
    show _ = _
    have hq := HQ.out
    have h1 := H1.out
    have h2 := H2.out
    have h3 := H3.out
    have h4 := H4.out
    have h5 := H5.out
    subst h1
    subst h2
    subst h3
    subst h4
    subst h5
    rw [← hq]
    rfl
  rw [HQ.out]
  clear HQ
  have hM0 := FM.start h
  obtain ⟨k0, -⟩ := hM0.cell 0 _ rfl
  obtain ⟨d0, d1⟩ := hM0.cells
  have hE := h.ne
  have HM0 := Lib.hid hM0
  clear hM0 h
  go_enter Try.func39, Try.ntmps39
  go_upto_region 12 with fail
  have hM0 := HM0.out
  clear HM0 k0
  generalize (w.alloc (.cells #[.pointer (some ⟨s, 0, none⟩)] 93)).alloc (.cells #[.pointer (some ⟨E, 0, none⟩)] 99) = W at *
  generalize hce : w.heap.size + 1 = ce at *
  have hcs : w.heap.size = w.heap.size := rfl
  generalize w.heap.size = cs at hcs hM0 hce d0 d1 ⊢
  clear hcs hce
  go_region_held3 (fun w' => w'.cell? ⟨cs, 0, none⟩ = some (.pointer (some ⟨s, 0, none⟩)) ∧ w'.cell? ⟨ce, 0, none⟩ = some (.pointer (some ⟨E, 0, none⟩))) (first | go_keep | (constructor <;> assumption)) (first | (go_at_call 64; ((with_reducible refine (xwhole_is s a F _ _ hM1.em.sx q2 H2).mono ?_); rintro _ w2 ⟨rfl, hS2, hC2⟩; have hM2 := hM1.call hS2 hC2; obtain ⟨e2a, e2b⟩ := hM2.cells; obtain ⟨x0, y0⟩ := hM2.cell 6 _ rfl; obtain ⟨x1, y1⟩ := hM2.cell 7 _ rfl; obtain ⟨z0a, z0b⟩ := (hM2.store 6 (.int .i64 (q1.1 : Int))).cells; obtain ⟨z1a, z1b⟩ := ((hM2.store 6 (.int .i64 (q1.1 : Int))).store 7 (.int .i64 (q2.1 : Int))).cells)) | (go_at_call 64; ((with_reducible refine (xwhole_is s a F _ _ hM0.drew.em.sx q1 H1).mono ?_); rintro _ w1 ⟨rfl, hS1, hC1⟩; have hM1 := hM0.drew.call hS1 hC1; obtain ⟨e1a, e1b⟩ := hM1.cells)))
  have hM4 := ((hM2.store 6 (.int .i64 (q1.1 : Int))).store 7 (.int .i64 (q2.1 : Int)))
  clear hM0 hM1 hM2 d0 d1
  go_upto_region 13 with fail
  generalize (w2.setCell ⟨E, 6, none⟩ (.int .i64 (q1.1 : Int))).setCell ⟨E, 7, none⟩ (.int .i64 (q2.1 : Int)) = W4 at *
  obtain ⟨d0, d1⟩ := hM4.cells
  have hN4 : Nm (fun v : Value => #[.int .u8 2, .int .i64 0, .int .i64 0, .int .i64 0, .slice none 0 0, .slice none 0 0, .int .i64 (q1.1 : Int), .int .i64 (q2.1 : Int), v, .int .i64 0, .string ⟨#[]⟩, .int .i64 0, .int .i64 0]) w s a E ce cs [] W4 (.slice none 0 0) := FM.nm (X := (fun v : Value => #[.int .u8 2, .int .i64 0, .int .i64 0, .int .i64 0, .slice none 0 0, .slice none 0 0, .int .i64 (q1.1 : Int), .int .i64 (q2.1 : Int), v, .int .i64 0, .string ⟨#[]⟩, .int .i64 0, .int .i64 0])) hM4 (fun _ => rfl) (fun _ _ => rfl)
  have HN4 := Lib.hid hN4
  have HD := Lib.hid (fieldsC_any (fun v : Value => #[.int .u8 2, .int .i64 0, .int .i64 0, .int .i64 0, .slice none 0 0, .slice none 0 0, .int .i64 (q1.1 : Int), .int .i64 (q2.1 : Int), v, .int .i64 0, .string ⟨#[]⟩, .int .i64 0, .int .i64 0]) w s a E ce cs F hM4.em.nf)
  clear hN4
  go_wp2_with fail
  refine (times_fields s a ce cs F numStep (RNum (fun v : Value => #[.int .u8 2, .int .i64 0, .int .i64 0, .int .i64 0, .slice none 0 0, .slice none 0 0, .int .i64 (q1.1 : Int), .int .i64 (q2.1 : Int), v, .int .i64 0, .string ⟨#[]⟩, .int .i64 0, .int .i64 0]) w s a E ce cs) q2.2 [] W4 hM4.em.sx q3 H3 ?h0 ?hk HD.out y H4).mono ?_
  case h0 => exact fun w' hq hp => ⟨by simpa using hq, _, HN4.out.call hp.2⟩
  case hk => exact fun n x st w w' ⟨h1, v, h2⟩ hc => ⟨h1, v, h2.call hc⟩
  rintro _ w5 ⟨rfl, hS5, n5, hn5, v5, hN5⟩
  have hM5 := hM4.of_nm hN5 hS5
  have HL5 := Lib.hid hN5.sl
  clear hM4 HN4 HD hN5 hS5 d0 d1 hn5
  obtain ⟨d0, d1⟩ := hM5.cells
  go_upto_region 14 with fail
  go_region_held3 (fun w' => w'.cell? ⟨cs, 0, none⟩ = some (.pointer (some ⟨s, 0, none⟩)) ∧ w'.cell? ⟨ce, 0, none⟩ = some (.pointer (some ⟨E, 0, none⟩))) (first | go_keep | (constructor <;> assumption)) (first | (go_at_call 63; ((with_reducible refine (xint_is s a F _ _ hM5.drew.em.sx q5 H5).mono ?_); rintro _ w6 ⟨rfl, hS6, hC6⟩; have hM6 := hM5.drew.call hS6 hC6; obtain ⟨e6a, e6b⟩ := hM6.cells; obtain ⟨x0, y0⟩ := hM6.cell 9 _ rfl; obtain ⟨z0a, z0b⟩ := (hM6.store 9 (.int .i64 q5.1)).cells)))
  have HM := Lib.hid (hM6.store 9 (.int .i64 q5.1)).em
  have HL := Lib.hid ((hM5.sl HL5.out (Nat.le_refl _) hC6.undrew.sa).keep (chgE w6 s a E 9 (.int .i64 q5.1)) (fun b hb => by have := hM5.em.ne; have hb' : w.heap.size ≤ b := hb; omega))
  clear hM5 hM6 HL5 hS6 hC6
  go_wp2_with fail
  go_ret
  exact fpost_is HR.out HM.out (fun h0 => ⟨_, _, v5, by simp [entCells, noEnt], Sl.nil_ _ _ _, Sl.nil_ _ _ _, HL.out⟩)

theorem fields_any (k : Int) (s a E : Nat) (F : Nat → Prop) (st : St) (w : World) (h : EMid w w F s a E st (ent0 k)) (r : Option (EntD × St)) (hr : Hid (rdBody k st = r)) :
    Calls Try.prog 39 #[.pointer (some ⟨s, 0, none⟩), .pointer (some ⟨E, 0, none⟩)] w (FPost w F s a E r) := by
  rw [← hr.out]
  clear hr
  by_cases hk : 1 ≤ k ∧ k ≤ 11
  · obtain rfl | rfl | rfl | rfl | rfl | rfl | rfl | rfl | rfl | rfl | rfl : k = 1 ∨ k = 2 ∨ k = 3 ∨ k = 4 ∨ k = 5 ∨ k = 6 ∨ k = 7 ∨ k = 8 ∨ k = 9 ∨ k = 10 ∨ k = 11 := by omega
    · exact fields_1 s a E F st w h
    · exact fields_2 s a E F st w h
    · exact fields_3 s a E F st w h
    · exact fields_4 s a E F st w h
    · exact fields_5 s a E F st w h
    · exact fields_6 s a E F st w h
    · exact fields_7 s a E F st w h
    · exact fields_8 s a E F st w h
    · exact fields_9 s a E F st w h
    · exact fields_10 s a E F st w h
    · exact fields_11 s a E F st w h
  · exact fields_none k hk s a E F st w h
end Go.Proofs.Ytdkankiohoocaaa
