/- The walk of entry.num. -/
import Derived.Test.YtdkankiohoocaaaQEnt
namespace Go.Proofs.Ytdkankiohoocaaa
set_option linter.unusedSimpArgs false
set_option linter.unusedVariables false
open Go Go.RowKit Go.Proofs

theorem numsB_take (ns : List Int) (k : Nat) (n : Int) (h : ns[k]? = some n) : numsB (ns.take (k + 1)) = numsB (ns.take k) ++ numB n.toNat := by
  have hk := (List.getElem?_eq_some_iff.1 h).1
  unfold numsB
  rw [List.take_add_one, h]
  simp
theorem numsB_len (ns : List Int) (h : ∀ n ∈ ns, wholeI n) : (numsB ns).length ≤ 10 * ns.length := by
  induction ns with
  | nil => simp [numsB]
  | cons n ns ih =>
    have h1 := ih (fun x hx => h x (by simp [hx]))
    have h2 := h n (by simp)
    have h3 := numB_len10 (n := n) (by have := h2.2; omega)
    have e : numsB (n :: ns) = numB n.toNat ++ numsB ns := by simp [numsB]
    rw [e, List.length_append, List.length_cons]
    omega

def NumsRel (w : World) (F : Nat → Prop) (a : Nat) (l : List UInt8) (ns : List Int) (i : Value) (wr : World) : Prop :=
  ∃ k : Nat, i = .int .i64 k ∧ k ≤ ns.length ∧ WrPost w wr F a (l ++ numsB (ns.take k))

set_option maxHeartbeats 1600000 in
set_option maxRecDepth 100000 in
theorem enum_any (a : Nat) (F G : Nat → Prop) (l : List UInt8) (ns : List Int) (v : Value) (w : World) (hW : Wr w F a l) (hv : Sl w G 1 v (ns.map numCells)) (hd : ∀ b, G b → ¬ F b) (hn : ∀ n ∈ ns, wholeI n) (hl : l.length + 10 * ns.length ≤ 1099511627600) :
    Calls Try.prog 35 #[.pointer (some ⟨a, 0, none⟩), v] w fun en w' => en = .returned (.tuple #[]) ∧ WrPost w w' F a (l ++ numsB ns) := by
  obtain ⟨A, cap, hv1, -, -⟩ := hv.form
  subst hv1
  have hml : (ns.map numCells).length = ns.length := by simp
  rw [hml] at hv ⊢
  have hlen : ns.length ≤ 109951162760 := by omega
  have H0 : Hid (WrPost w w F a (l ++ numsB (ns.take 0))) := by show WrPost w w F a _; simpa [numsB] using WrPost.refl hW
  go_enter Try.func35, Try.ntmps35
  go_wp2_with fail
  go_loopw [8] (fun i wr => NumsRel w F a l ns i wr) (fun i _ => ns.length - (intOf i).toNat)
  case atStart => exact ⟨0, rfl, Nat.zero_le _, H0.out⟩
  case round =>
    obtain ⟨k, rfl, hk, hP⟩ := hrel
    by_cases hkl : k < ns.length
    · obtain ⟨F1, hW1, hC1, hN1⟩ := hP
      obtain ⟨b, o, x, hA, hG, hx, hc⟩ := hv.at_ (i := k) (by rw [hml]; exact hkl)
      have hg : ns[k]? = some ns[k] := List.getElem?_eq_getElem hkl
      generalize ns[k] = n at hg
      have hxn : x = numCells n := by rw [List.getElem?_map, hg] at hx; simpa using hx.symm
      subst hxn
      have c0 := hc 0 (.int .i64 n) rfl
      have c1 := hC1.cell' c0 (hd b hG)
      have e0 : o + k * 1 + 0 = o + k := by omega
      rw [e0] at c1
      subst hA
      have hnn := hn n (List.mem_of_getElem? hg)
      have hn0 : 0 ≤ n := hnn.1
      have hn1 : n ≤ 9223372036854775807 := hnn.2
      have hwr : IntKind.u64.wrap n = n := by rw [IntKind.wrap_u64]; omega
      have hkl' : (k : Int) < (ns.length : Int) := by omega
      have hlt : (l ++ numsB (ns.take k)).length ≤ 1099511627700 := by
        have := numsB_len (ns.take k) (fun m hm => hn m (List.mem_of_mem_take hm))
        rw [List.length_append]
        have h2 : (ns.take k).length ≤ ns.length := by simp; omega
        omega
      have HQ : Hid ((l ++ numsB (ns.take k)) ++ numB n.toNat = l ++ numsB (ns.take (k + 1))) := by show _ = _; rw [numsB_take ns k n hg, List.append_assoc]
      clear c0 hc hx hnn hn hv hd
      go_wp2_with fail
      refine (wnum_is a n F1 _ _ _ hW1 hn0 (by omega) hlt HQ).mono ?_
      rintro _ w2 ⟨rfl, F2, hW2, hC2, hN2⟩
      have hP2 : WrPost w w2 F a (l ++ numsB (ns.take (k + 1))) := ⟨F2, hW2, hC1.trans' hC2 (fun i hi h => by rcases hN1 i h with h1 | h1; exact h1; omega), hN1.trans hN2 hC1.size hC2.size⟩
      have HP2 := Lib.hid hP2
      clear hP2 hW1 hC1 hN1 hW2 hC2 hN2
      go_wp2_with fail
      go_roundw
      case rel => exact ⟨k + 1, by go_num, by omega, HP2.out⟩
      case measure => simp [intOf]; omega
    · have hke : k = ns.length := by omega
      subst hke
      have HP := Lib.hid hP
      clear hP
      go_wp2_with fail
      go_end0
      have := HP.out
      rw [List.take_length] at this
      exact ⟨rfl, this⟩

/-- A slice literal of numbers. -/
theorem nums_new (w : World) (t : TypeId) (cs : Array Value) (ns : List Int) (n : Nat) (hn : ns.length = n) (hm : n ≤ 1000) (hx : cs.toList = ns.map (Value.int .i64)) :
    Sl (w.alloc (.cells cs t)) (fun b => b = w.heap.size) 1 (.slice (some ⟨w.heap.size, 0, none⟩) n n) (ns.map numCells) := by
  have hmx : maxLen = 9223372036854775807 := by decide +kernel
  refine ⟨_, n, by rw [List.length_map, hn], by rw [List.length_map]; omega, by omega, fun _ => ⟨w.heap.size, 0, rfl, rfl, fun i x j u hi hj => ?_⟩⟩
  rw [List.getElem?_map] at hi
  obtain ⟨m, hm1, rfl⟩ := Option.map_eq_some_iff.1 hi
  have hj0 : j = 0 := by
    have := (List.getElem?_eq_some_iff.1 hj).1
    simp [numCells] at this; omega
  subst hj0
  have hu : u = .int .i64 m := by simpa [numCells] using hj.symm
  subst hu
  rw [World.cell?_alloc_at _ _ _ _ rfl]
  have e0 : 0 + i * 1 + 0 = i := by omega
  rw [e0, ← Array.getElem?_toList, hx, List.getElem?_map, hm1]
  rfl

def entV (e : EntD) (vo ve vp : Value) : Value := .agg (entCells e vo ve vp)

set_option maxHeartbeats 1600000 in
set_option maxRecDepth 100000 in
theorem eids_any (a : Nat) (F : Nat → Prop) (l : List UInt8) (e : EntD) (vo ve vp : Value) (w : World) (hW : Wr w F a l) (h1 : wholeI e.tx) (h2 : wholeI e.next) (h3 : wholeI e.nextID) (hl : l.length ≤ 1099511620000) :
    Calls Try.prog 31 #[.pointer (some ⟨a, 0, none⟩), entV e vo ve vp] w fun en w' => en = .returned (.tuple #[]) ∧ WrPost w w' F a (l ++ idsB e) := by
  have hlt : Lt F w := by obtain ⟨v, h⟩ := hW; exact h.lt
  obtain ⟨k0, tx, nx, nid, os, evs, tn, mx, op, ta, nm, n, at_⟩ := e
  have HI : Hid (idsB ⟨k0, tx, nx, nid, os, evs, tn, mx, op, ta, nm, n, at_⟩ = numsB [tx, nx, nid]) := by show _ = _; simp [idsB, numsB]
  rw [HI.out]
  unfold entV entCells
  simp only at h1 h2 h3 ⊢
  have s1 : Same w (w.alloc (.cells #[.int .u8 k0, .int .i64 tx, .int .i64 nx, .int .i64 nid, vo, ve, .int .i64 tn, .int .i64 mx, vp, .int .i64 ta, .string nm, .int .i64 n, .int .i64 at_] 40)) := Chg.alloc_ _ _ _
  have hz : (w.alloc (.cells #[.int .u8 k0, .int .i64 tx, .int .i64 nx, .int .i64 nid, vo, ve, .int .i64 tn, .int .i64 mx, vp, .int .i64 ta, .string nm, .int .i64 n, .int .i64 at_] 40)).heap.size = w.heap.size + 1 := by simp
  have hsl := nums_new (w.alloc (.cells #[.int .u8 k0, .int .i64 tx, .int .i64 nx, .int .i64 nid, vo, ve, .int .i64 tn, .int .i64 mx, vp, .int .i64 ta, .string nm, .int .i64 n, .int .i64 at_] 40)) 2 #[.int .i64 tx, .int .i64 nx, .int .i64 nid] [tx, nx, nid] 3 rfl (by omega) rfl
  rw [hz] at hsl
  have HSL := Lib.hid hsl
  have HC := Lib.hid (s1.trans (Chg.alloc_ (fun _ => False) _ (.cells #[.int .i64 tx, .int .i64 nx, .int .i64 nid] 2)))
  clear hsl s1 hz
  go_enter Try.func31, Try.ntmps31
  go_wp2_with fail
  refine (enum_any a F _ l [tx, nx, nid] _ _ (hW.keep HC.out (fun _ _ h => h)) HSL.out (fun b hb hF => by have := hlt b hF; omega) (by intro m hm; simp at hm; rcases hm with rfl | rfl | rfl <;> assumption) (by simp; omega)).mono ?_
  rintro _ w2 ⟨rfl, F2, hW2, hC2, hN2⟩
  have hP : WrPost w w2 F a (l ++ numsB [tx, nx, nid]) := ⟨F2, hW2, (Same.any HC.out F).trans hC2, fun k hk => by
    have := HC.out.size
    rcases hN2 k hk with h | h
    · exact .inl h
    · exact .inr ⟨by omega, h.2⟩⟩
  have HP := Lib.hid hP
  clear hP hW2 hC2 hN2
  go_wp2_with fail
  go_end0
  exact ⟨rfl, HP.out⟩
end Go.Proofs.Ytdkankiohoocaaa
/- Words for the walks of entry.ops and entry.events: a writer, and an element's block beside it. -/
namespace Go.Proofs.Ytdkankiohoocaaa
set_option linter.unusedSimpArgs false
set_option linter.unusedVariables false
open Go Go.RowKit Go.Proofs

/-- num, of one number that lies in a slice made for it. -/
theorem enum_one (a : Nat) (n : Int) (F : Nat → Prop) (l : List UInt8) (w : World) (hW : Wr w F a l) (hn : wholeI n) (hl : l.length ≤ 1099511620000) :
    Calls Try.prog 35 #[.pointer (some ⟨a, 0, none⟩), .slice (some ⟨w.heap.size, 0, none⟩) 1 1] (w.alloc (.cells #[.int .i64 n] 2)) fun en w' => en = .returned (.tuple #[]) ∧ WrPost w w' F a (l ++ numB n.toNat) := by
  have hlt : Lt F w := by obtain ⟨v, h⟩ := hW; exact h.lt
  have hsl := nums_new w 2 #[.int .i64 n] [n] 1 rfl (by omega) rfl
  have hc := Chg.alloc_ (fun _ => False) w (.cells #[.int .i64 n] 2)
  have e1 : numsB [n] = numB n.toNat := by simp [numsB]
  rw [← e1]
  refine (enum_any a F _ l [n] _ _ (hW.keep hc (fun _ _ h => h)) hsl (fun b hb hF => by have := hlt b hF; omega) (by intro m hm; simp at hm; subst hm; exact hn) (by simp; omega)).mono ?_
  rintro _ w2 ⟨rfl, F2, hW2, hC2, hN2⟩
  refine ⟨rfl, F2, hW2, (Same.any hc F).trans hC2, fun k hk => ?_⟩
  have := hc.size
  rcases hN2 k hk with h | h
  · exact .inl h
  · exact .inr ⟨by omega, h.2⟩

/-- A writer, and block O beside it, which is none of its own. -/
structure WO (w0 w : World) (F0 F : Nat → Prop) (a : Nat) (l : List UInt8) (O : Nat) (o : Obj) : Prop where
  wr : Wr w F a l
  blk : w.heap[O]? = some o
  nO : ¬ F O
  chg : Chg F0 w0 w
  new : New F0 F w0 w
theorem WO.step {w0 w w' : World} {F0 F : Nat → Prop} {a O : Nat} {l l' : List UInt8} {o : Obj} (h : WO w0 w F0 F a l O o) (hp : WrPost w w' F a l') : ∃ F', WO w0 w' F0 F' a l' O o := by
  obtain ⟨F', hW, hC, hN⟩ := hp
  have hlt := lt_of_block h.blk
  refine ⟨F', hW, hC.at_ h.blk h.nO, fun hO => ?_, h.chg.trans' hC (fun i hi hf => ?_), h.new.trans hN h.chg.size hC.size⟩
  · rcases hN O hO with h1 | h1
    · exact h.nO h1
    · omega
  · rcases h.new i hf with h1 | h1
    · exact h1
    · omega
theorem WO.start {w0 w : World} {F0 F : Nat → Prop} {a : Nat} {l : List UInt8} (hW : Wr w F a l) (hc : Chg F0 w0 w) (hn : New F0 F w0 w) (x : Array Value) (t : TypeId) : WO w0 (w.alloc (.cells x t)) F0 F a l w.heap.size (.cells x t (0, 0)) := by
  have hlt : Lt F w := by obtain ⟨v, h⟩ := hW; exact h.lt
  have hs := Chg.alloc_ (fun _ => False) w (.cells x t)
  refine ⟨hW.keep hs (fun _ _ h => h), heap_alloc_new w _, fun h => by have := hlt _ h; omega, hc.alloc _, fun k hk => ?_⟩
  have := hs.size
  rcases hn k hk with h1 | h1
  · exact .inl h1
  · exact .inr ⟨h1.1, by omega⟩
theorem WO.drew {w0 w : World} {F0 F : Nat → Prop} {a O : Nat} {l : List UInt8} {o : Obj} (h : WO w0 w F0 F a l O o) : WO w0 w.drew F0 F a l O o := ⟨h.wr.drew, h.blk, h.nO, h.chg.drew, h.new⟩
theorem WO.post {w0 w : World} {F0 F : Nat → Prop} {a O : Nat} {l : List UInt8} {o : Obj} (h : WO w0 w F0 F a l O o) : WrPost w0 w F0 a l := ⟨F, h.wr, h.chg, h.new⟩
end Go.Proofs.Ytdkankiohoocaaa
/- The walk of entry.ops. -/
namespace Go.Proofs.Ytdkankiohoocaaa
set_option linter.unusedSimpArgs false
set_option linter.unusedVariables false
open Go Go.RowKit Go.Proofs

theorem opB_len (o : OpD) (h : o.ok) : (opB o).length ≤ 1050 := by
  obtain ⟨h1, h2, h3⟩ := h
  have a1 := numB_len10 (n := o.table) (by have := h1.2; omega)
  have a2 : (numB (if o.gone then 1 else 0)).length ≤ 10 := (numB_len 10 _ (by split <;> omega) (by omega)).1
  have a3 : (intB o.key).length ≤ 10 := by
    have := h2.1; have := h2.2
    unfold intB zig; split <;> exact numB_len10 (by omega)
  have a4 : (textB o.text.data.toList).length ≤ 1010 := by
    unfold textB; rw [List.length_append, size_toList]; have := (numB_len 10 o.text.size (by omega) (by omega)).1; omega
  unfold opB
  simp only [List.length_append]
  omega
def opsOf (os : List OpD) (k : Nat) : List UInt8 := ((os.take k).map opB).flatten
theorem opsOf_succ (os : List OpD) (k : Nat) (o : OpD) (h : os[k]? = some o) : opsOf os (k + 1) = opsOf os k ++ opB o := by
  unfold opsOf
  rw [List.take_add_one, h]
  simp
theorem opsOf_all (os : List OpD) : opsB os = numB os.length ++ opsOf os os.length := by unfold opsOf opsB; rw [List.take_length]
theorem flat_len (os : List OpD) (h : ∀ o ∈ os, o.ok) : ((os.map opB).flatten).length ≤ 1050 * os.length := by
  induction os with
  | nil => simp
  | cons o os ih =>
    have h1 := ih (fun x hx => h x (by simp [hx]))
    have h2 := opB_len o (h o (by simp))
    rw [List.map_cons, List.flatten_cons, List.length_append, List.length_cons]
    omega
theorem opsOf_len (os : List OpD) (k : Nat) (h : ∀ o ∈ os, o.ok) : (opsOf os k).length ≤ 1050 * os.length := by
  have h1 := flat_len (os.take k) (fun o ho => h o (List.mem_of_mem_take ho))
  have h2 : (os.take k).length ≤ os.length := by simp; omega
  unfold opsOf
  omega

theorem four_cells {w : World} {B : Nat} {a0 a1 a2 a3 : Value} {t : TypeId} (h : w.heap[B]? = some (.cells #[a0, a1, a2, a3] t (0, 0))) :
    w.cell? ⟨B, 0, none⟩ = some a0 ∧ w.cell? ⟨B, 1, none⟩ = some a1 ∧ w.cell? ⟨B, 2, none⟩ = some a2 ∧ w.cell? ⟨B, 3, none⟩ = some a3 := by
  simp [World.cell?, h]
def OpsRel (w : World) (F : Nat → Prop) (a : Nat) (l : List UInt8) (os : List OpD) (i : Value) (wr : World) : Prop :=
  ∃ k : Nat, i = .int .i64 k ∧ k ≤ os.length ∧ WrPost w wr F a (l ++ opsOf os k)

set_option maxHeartbeats 3200000 in
set_option maxRecDepth 100000 in
theorem eops_any (a : Nat) (F G : Nat → Prop) (l : List UInt8) (os : List OpD) (v : Value) (w : World) (hW : Wr w F a l) (hv : Sl w G 4 v (os.map opCells)) (hd : ∀ b, G b → ¬ F b) (hn : ∀ o ∈ os, o.ok) (hl : l.length ≤ 1099510000000) (hf : os.length ≤ 1000) :
    Calls Try.prog 32 #[.pointer (some ⟨a, 0, none⟩), v] w fun en w' => en = .returned (.tuple #[]) ∧ WrPost w w' F a (l ++ opsB os) := by
  obtain ⟨A, cap, hv1, -, -⟩ := hv.form
  subst hv1
  have hml : (os.map opCells).length = os.length := by simp
  rw [hml] at hv ⊢
  rw [opsOf_all, ← List.append_assoc]
  have hG : Sl w (fun b => G b ∧ b < w.heap.size) 4 (.slice A os.length cap) (os.map opCells) := hv.mono (by intro x hx; obtain ⟨o, -, rfl⟩ := List.mem_map.1 hx; simp [opCells]) (fun b hb hg => ⟨hg, hb⟩)
  clear hv
  obtain ⟨L, HL⟩ : ∃ L, Hid (l ++ numB os.length = L) := ⟨_, rfl⟩
  have hLl : L.length ≤ 1099510000010 := by rw [← HL.out, List.length_append]; have := (numB_len 10 os.length (by omega) (by omega)).1; omega
  rw [HL.out]
  go_enter Try.func32, Try.ntmps32
  go_wp2_with fail
  refine (enum_one a os.length F l w hW ⟨by omega, by omega⟩ (by omega)).mono ?_
  rintro _ w1 ⟨rfl, hP1⟩
  have en : ((os.length : Nat) : Int).toNat = os.length := by omega
  rw [en, HL.out] at hP1
  have HP1 := Lib.hid hP1
  clear hP1 en
  go_wp2_with fail
  go_loopw [14] (fun i wr => OpsRel w F a L os i wr) (fun i _ => os.length - (intOf i).toNat)
  case atStart => exact ⟨0, rfl, Nat.zero_le _, by simpa [opsOf] using HP1.out⟩
  case round =>
    obtain ⟨k, rfl, hk, hP⟩ := hrel
    by_cases hkl : k < os.length
    · obtain ⟨F1, hW1, hC1, hN1⟩ := hP
      obtain ⟨b, o, x, hA, hGb, hx, hc⟩ := hG.at_ (i := k) (by rw [hml]; exact hkl)
      have hg : os[k]? = some os[k] := List.getElem?_eq_getElem hkl
      generalize os[k] = od at hg
      have hxn : x = opCells od := by rw [List.getElem?_map, hg] at hx; simpa using hx.symm
      subst hxn
      subst hA
      have hok := hn od (List.mem_of_getElem? hg)
      obtain ⟨tb, gn, ky, tx⟩ := od
      have c0 := hC1.cell' (hc 0 (.int .i64 tb) rfl) (hd b hGb.1)
      have c1 := hC1.cell' (hc 1 (.bool gn) rfl) (hd b hGb.1)
      have c2 := hC1.cell' (hc 2 (.int .i64 ky) rfl) (hd b hGb.1)
      have c3 := hC1.cell' (hc 3 (.string tx) rfl) (hd b hGb.1)
      have hbl := cell_lt c0
      rw [Nat.add_zero] at c0
      have hkl' : (k : Int) < (os.length : Int) := by omega
      have hb1 := numB_len10 (n := tb) (by have := hok.1.2; simp only at this; omega)
      have hb2 : (numB (0 : Int).toNat).length ≤ 10 ∧ (numB (1 : Int).toNat).length ≤ 10 := ⟨numB_len10 (by omega), numB_len10 (by omega)⟩
      have hlt : (L ++ opsOf os k).length ≤ 1099511110010 := by
        have := opsOf_len os k hn
        rw [List.length_append]
        omega
      have HQ : Hid ((L ++ opsOf os k) ++ opB ⟨tb, gn, ky, tx⟩ = L ++ opsOf os (k + 1)) := by show _ = _; rw [opsOf_succ os k _ hg, List.append_assoc]
      have hky := hok.2.1
      have htx := hok.2.2
      simp only at htx
      unfold i64I at hky
      simp only at hky
      have hb3 : (intB ky).length ≤ 10 := by unfold intB zig; split <;> exact numB_len10 (by omega)
      clear hc hx hd hn hG
      cases gn
      · have HB1 : Hid (opB ⟨tb, false, ky, tx⟩ = numB tb.toNat ++ numB (0 : Int).toNat ++ intB ky ++ textB tx.data.toList) := by show _ = _; simp [opB]
        have HO := Lib.hid (WO.start hW1 hC1 hN1 #[.int .i64 tb, .bool false, .int .i64 ky, .string tx] 47)
        clear hW1 hC1 hN1
        go_upto_region 4 with fail
        have hO := HO.out
        clear HO c0 c1 c2 c3
        generalize wr.alloc (.cells #[.int .i64 tb, .bool false, .int .i64 ky, .string tx] 47) = W2 at *
        generalize wr.heap.size = O at *
        obtain ⟨x0, x1, x2, x3⟩ := four_cells hO.blk
        go_wp2_with fail
        refine (enum_one a tb F1 _ W2 hO.wr hok.1 (by omega)).mono ?_
        rintro _ w3 ⟨rfl, hP3⟩
        obtain ⟨F3, hO3⟩ := hO.step hP3
        clear hO hP3 x0 x1 x2 x3
        obtain ⟨x0, x1, x2, x3⟩ := four_cells hO3.blk
        have hl3 : (L ++ opsOf os k ++ numB tb.toNat).length ≤ 1099511110020 := by rw [List.length_append]; omega
        go_wp2_with fail
        refine (enum_one a 0 F3 _ w3 hO3.wr ⟨by omega, by omega⟩ (by omega)).mono ?_
        rintro _ w4 ⟨rfl, hP4⟩
        obtain ⟨F4, hO4⟩ := hO3.step hP4
        clear hO3 hP4 x0 x1 x2 x3
        obtain ⟨x0, x1, x2, x3⟩ := four_cells hO4.blk
        obtain ⟨L4, HL4⟩ : ∃ L4, Hid (L ++ opsOf os k ++ numB tb.toNat ++ numB (0 : Int).toNat = L4) := ⟨_, rfl⟩
        have hl4 : L4.length ≤ 1099511110030 := by rw [← HL4.out, List.length_append]; omega
        rw [HL4.out] at hO4
        obtain ⟨L5, HL5⟩ : ∃ L5, Hid (L4 ++ intB ky = L5) := ⟨_, rfl⟩
        have hl5 : L5.length ≤ 1099511110040 := by rw [← HL5.out, List.length_append]; omega
        obtain ⟨L6, HL6⟩ : ∃ L6, Hid (L5 ++ textB tx.data.toList = L6) := ⟨_, rfl⟩
        have HE : Hid (L6 = L ++ opsOf os (k + 1)) := by show _ = _; rw [← HQ.out, HB1.out, ← HL6.out, ← HL5.out, ← HL4.out]; simp only [List.append_assoc]
        clear HQ HB1 HL4 hl3
        go_upto_region 9 with fail
        go_region_held3 (fun w' => w'.cell? ⟨O, 2, none⟩ = some (.int .i64 ky) ∧ w'.cell? ⟨O, 3, none⟩ = some (.string tx)) (go_keep) (first | (go_at_call 34; ((with_reducible refine (wint_is _ ky _ L4 _ _ hO4.drew.wr hky.1 hky.2 (by omega) HL5).mono ?_); rintro _ w5 ⟨rfl, hP5⟩; obtain ⟨F5, hO5⟩ := hO4.drew.step hP5; obtain ⟨y0, y1, y2, y3⟩ := four_cells hO5.blk)) | (go_at_call 36; ((with_reducible refine (wtext_is _ tx _ L5 _ _ hO5.wr (by omega) (by omega) HL6).mono ?_); rintro _ w6 ⟨rfl, hP6⟩; obtain ⟨F6, hO6⟩ := hO5.step hP6; obtain ⟨z0, z1, z2, z3⟩ := four_cells hO6.blk)))
        all_goals
          have HP6 := Lib.hid hO6.post
          clear hO4 hO5 hO6 hP5 hP6 x0 x1 x2 x3 y0 y1 y2 y3 z0 z1 z2 z3
          go_wp2_with fail
          go_roundw
          case rel => exact ⟨k + 1, by go_num, by omega, by rw [← HE.out]; exact HP6.out⟩
          case measure => simp [intOf]; omega
      · have HB1 : Hid (opB ⟨tb, true, ky, tx⟩ = numB tb.toNat ++ numB (1 : Int).toNat ++ intB ky ++ textB tx.data.toList) := by show _ = _; simp [opB]
        have HO := Lib.hid (WO.start hW1 hC1 hN1 #[.int .i64 tb, .bool true, .int .i64 ky, .string tx] 47)
        clear hW1 hC1 hN1
        go_upto_region 4 with fail
        have hO := HO.out
        clear HO c0 c1 c2 c3
        generalize wr.alloc (.cells #[.int .i64 tb, .bool true, .int .i64 ky, .string tx] 47) = W2 at *
        generalize wr.heap.size = O at *
        obtain ⟨x0, x1, x2, x3⟩ := four_cells hO.blk
        go_wp2_with fail
        refine (enum_one a tb F1 _ W2 hO.wr hok.1 (by omega)).mono ?_
        rintro _ w3 ⟨rfl, hP3⟩
        obtain ⟨F3, hO3⟩ := hO.step hP3
        clear hO hP3 x0 x1 x2 x3
        obtain ⟨x0, x1, x2, x3⟩ := four_cells hO3.blk
        have hl3 : (L ++ opsOf os k ++ numB tb.toNat).length ≤ 1099511110020 := by rw [List.length_append]; omega
        go_wp2_with fail
        refine (enum_one a 1 F3 _ w3 hO3.wr ⟨by omega, by omega⟩ (by omega)).mono ?_
        rintro _ w4 ⟨rfl, hP4⟩
        obtain ⟨F4, hO4⟩ := hO3.step hP4
        clear hO3 hP4 x0 x1 x2 x3
        obtain ⟨x0, x1, x2, x3⟩ := four_cells hO4.blk
        obtain ⟨L4, HL4⟩ : ∃ L4, Hid (L ++ opsOf os k ++ numB tb.toNat ++ numB (1 : Int).toNat = L4) := ⟨_, rfl⟩
        have hl4 : L4.length ≤ 1099511110030 := by rw [← HL4.out, List.length_append]; omega
        rw [HL4.out] at hO4
        obtain ⟨L5, HL5⟩ : ∃ L5, Hid (L4 ++ intB ky = L5) := ⟨_, rfl⟩
        have hl5 : L5.length ≤ 1099511110040 := by rw [← HL5.out, List.length_append]; omega
        obtain ⟨L6, HL6⟩ : ∃ L6, Hid (L5 ++ textB tx.data.toList = L6) := ⟨_, rfl⟩
        have HE : Hid (L6 = L ++ opsOf os (k + 1)) := by show _ = _; rw [← HQ.out, HB1.out, ← HL6.out, ← HL5.out, ← HL4.out]; simp only [List.append_assoc]
        clear HQ HB1 HL4 hl3
        go_upto_region 9 with fail
        go_region_held3 (fun w' => w'.cell? ⟨O, 2, none⟩ = some (.int .i64 ky) ∧ w'.cell? ⟨O, 3, none⟩ = some (.string tx)) (go_keep) (first | (go_at_call 34; ((with_reducible refine (wint_is _ ky _ L4 _ _ hO4.drew.wr hky.1 hky.2 (by omega) HL5).mono ?_); rintro _ w5 ⟨rfl, hP5⟩; obtain ⟨F5, hO5⟩ := hO4.drew.step hP5; obtain ⟨y0, y1, y2, y3⟩ := four_cells hO5.blk)) | (go_at_call 36; ((with_reducible refine (wtext_is _ tx _ L5 _ _ hO5.wr (by omega) (by omega) HL6).mono ?_); rintro _ w6 ⟨rfl, hP6⟩; obtain ⟨F6, hO6⟩ := hO5.step hP6; obtain ⟨z0, z1, z2, z3⟩ := four_cells hO6.blk)))
        all_goals
          have HP6 := Lib.hid hO6.post
          clear hO4 hO5 hO6 hP5 hP6 x0 x1 x2 x3 y0 y1 y2 y3 z0 z1 z2 z3
          go_wp2_with fail
          go_roundw
          case rel => exact ⟨k + 1, by go_num, by omega, by rw [← HE.out]; exact HP6.out⟩
          case measure => simp [intOf]; omega
    · have hke : k = os.length := by omega
      subst hke
      have HP := Lib.hid hP
      clear hP
      go_wp2_with fail
      go_end0
      exact ⟨rfl, HP.out⟩
end Go.Proofs.Ytdkankiohoocaaa
