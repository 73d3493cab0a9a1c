/- The law EntryMany. -/
import Derived.Test.YtdkankiohoocaaaQLeG
import Derived.Test.YtdkankiohoocaaaQRfQ
namespace Go.Proofs.Ytdkankiohoocaaa
set_option linter.unusedSimpArgs false
set_option linter.unusedVariables false
open Go Go.RowKit Go.Proofs

/-- In the midst of EntryMany: the entry E, and its Ops. -/
structure MG (w0 w : World) (E : Nat) (x : Array Value) (T e1 : TypeId) (v1 : Value) (l1 : List (List Value)) : Prop where
  el : w.heap[E]? = some (.cells x T (0, 0))
  own1 : w.ownsRow 0 e1 4 v1 l1.length l1.flatten
  row1 : ∀ g, v1.ownBlock = some g → w0.heap.size ≤ g ∧ g ≠ E
  same : Same w0 w
  old : w0.heap.size ≤ E
section
variable {w0 w w' w2 : World} {E : Nat} {x : Array Value} {T e1 : TypeId} {v1 v' : Value} {l1 : List (List Value)}
theorem MG.keep (h : MG w0 w E x T e1 v1 l1) (hs : Same w w') : MG w0 w' E x T e1 v1 l1 :=
  ⟨hs.at_ h.el (fun h => h), ownsRow_keep' h.own1 hs (fun _ _ h => h), h.row1, h.same.trans hs, h.old⟩
theorem MG.cell (h : MG w0 w E x T e1 v1 l1) (i : Nat) (u : Value) (hi : x[i]? = some u) : w.cell? ⟨E, i, none⟩ = some u ∧ w.frozen? ⟨E, i, none⟩ = false := by
  constructor
  · simp [World.cell?, h.el, hi]
  · simp [World.frozen?, h.el]
theorem MG.size (h : MG w0 w E x T e1 v1 l1) : E < w.heap.size := lt_of_block h.el
theorem MG.more1 (h : MG w0 w E x T e1 v1 l1) (i : Nat) (o : Obj) (y : List Value) (ho : w2.ownsRow 0 e1 4 v' (l1.length + 1) (l1.flatten ++ y)) (hg : (w.alloc o).grownBy w2 v1.ownBlock) (hat : v'.ownBlock = v1.ownBlock ∨ v'.ownBlock = some (w.alloc o).heap.size) :
    MG w0 (w2.setCell ⟨E, i, none⟩ v') E (x.setIfInBounds i v') T e1 v' (l1 ++ [y]) := by
  have hc : Chg (fun k => v1.ownBlock = some k) (w.alloc o) w2 := Chg.of_grown hg (fun k h => h)
  have ha := h.keep (Chg.alloc_ _ w o)
  have hz := ha.size
  have hnE : ¬ v1.ownBlock = some E := fun e => (h.row1 E e).2 rfl
  have hws := ha.same.size
  have hrow : ∀ g, v'.ownBlock = some g → w0.heap.size ≤ g ∧ g ≠ E := by
    intro g hg'
    rcases hat with e | e
    · rw [e] at hg'; exact h.row1 g hg'
    · rw [e] at hg'; injection hg' with hg'; omega
  have ho' := h.old
  refine ⟨?_, ?_, hrow, ?_, h.old⟩
  · have he := hc.at_ ha.el hnE
    simp [World.setCell, Array.getElem?_modify, he]
  · have e1 : (l1 ++ [y]).length = l1.length + 1 := by simp
    have e2 : (l1 ++ [y]).flatten = l1.flatten ++ y := by simp
    rw [e1, e2]
    exact ownsRow_setCell_other ho (fun e => (hrow E e).2 rfl) _
  · exact (ha.same.trans' hc (fun i hi e => by have := (h.row1 i e).1; omega)).setCell (fun hi => by simp at hi; omega) _
theorem MG.form (h : MG w0 w E x T e1 v1 l1) : ∃ A n c, v1 = .slice A n c := by
  rcases h.own1.2 with ⟨hv, -⟩ | ⟨g, cap, cur, hv, -⟩
  · exact ⟨_, _, _, hv⟩
  · exact ⟨_, _, _, hv⟩
end
/-- The entry that it makes. -/
abbrev manyE (l : List OpD) : EntD := { noEnt with kind := 11, n := 3, ops := l }
theorem many_ok (l : List OpD) (h : ∀ o ∈ l, o.ok) (hl : l.length ≤ 1000) : (manyE l).ok := by
  have z : wholeI 0 := ⟨by omega, by omega⟩
  have y : i64I 0 := ⟨by omega, by omega⟩
  exact ⟨⟨by simp only; omega, by simp only; omega⟩, z, z, z, h, by simp [noEnt], z, z, by simp [noEnt], y, ⟨by simp only; omega, by simp only; omega⟩, y, hl, by simp [noEnt], by simp [noEnt], by simp [noEnt, ByteArray.size]⟩
theorem many_len (l : List OpD) (h : ∀ o ∈ l, o.ok) (hl : l.length ≤ 1000) : (entB (manyE l)).length ≤ 4000001 := by
  have a1 := opsB_len l h hl
  have a2 := numW_len 3 ⟨by omega, by omega⟩
  have e : entB (manyE l) = UInt8.ofNat 11 :: (numB 3 ++ opsB l) := rfl
  have a3 : (numB 3).length ≤ 10 := a2
  rw [e, List.length_cons, List.length_append]
  omega

set_option maxHeartbeats 6400000 in
set_option maxRecDepth 100000 in
theorem entryMany_any (n : Int) (hn0 : 0 ≤ n) (hn1 : n ≤ 65535) (g : Bool) (w : World) :
    Calls Try.prog 8 #[.int .u16 n, .bool g] w fun en w' => en = .returned (.bool true) ∧ Same w w' := by
  obtain ⟨m, hm⟩ : ∃ m : Nat, n.tmod 260 = (m : Int) := ⟨(n % 260).toNat, by rw [Int.tmod_eq_emod_of_nonneg hn0]; omega⟩
  have hml : m < 260 := by rw [Int.tmod_eq_emod_of_nonneg hn0] at hm; omega
  have hmw : IntKind.i64.wrap (m : Int) = (m : Int) := by rw [IntKind.wrap_i64]; omega
  obtain ⟨io, hio, hzo0, hzo1, hzo2⟩ := info_parts info_rop
  go_enter Try.func8, Try.ntmps8
  go_wp2_with fail
  refine (nine_any _).mono ?_
  rintro _ w1 ⟨rfl, hs1⟩
  have HT0 : Hid (MG w (w1.alloc (.cells #[.int .u8 11, .int .i64 0, .int .i64 0, .int .i64 0, .slice none 0 0, .slice none 0 0, .int .i64 0, .int .i64 0, .slice none 0 0, .int .i64 0, .string ⟨#[]⟩, .int .i64 3, .int .i64 0] 35)) w1.heap.size #[.int .u8 11, .int .i64 0, .int .i64 0, .int .i64 0, .slice none 0 0, .slice none 0 0, .int .i64 0, .int .i64 0, .slice none 0 0, .int .i64 0, .string ⟨#[]⟩, .int .i64 3, .int .i64 0] 35 72 (.slice none 0 0) (([] : List OpD).map opCells)) :=
    Lib.hid ⟨heap_alloc_new w1 _, World.ownsRow_nil _ _ _ _, fun g hg => by simp [Value.ownBlock] at hg, hs1.trans (Chg.alloc_ _ w1 _), hs1.size⟩
  clear hs1
  go_upto_region 4 with fail
  generalize w1.alloc (.cells #[.int .u8 11, .int .i64 0, .int .i64 0, .int .i64 0, .slice none 0 0, .slice none 0 0, .int .i64 0, .int .i64 0, .slice none 0 0, .int .i64 0, .string ⟨#[]⟩, .int .i64 3, .int .i64 0] 35) = W1 at *
  obtain ⟨E, hE⟩ : ∃ n, w1.heap.size = n := ⟨_, rfl⟩
  rw [hE] at HT0 ⊢
  clear hE
  go_wp2_with fail
  go_loopw [6] (fun i wr => ∃ (k : Nat) (l : List OpD) (v1 : Value), i = .int .i64 k ∧ k ≤ m ∧ l.length = k ∧ (∀ o ∈ l, o.ok ∧ o.table ≤ 255 ∧ o.text.size ≤ 40) ∧ MG w wr E #[.int .u8 11, .int .i64 0, .int .i64 0, .int .i64 0, v1, .slice none 0 0, .int .i64 0, .int .i64 0, .slice none 0 0, .int .i64 0, .string ⟨#[]⟩, .int .i64 3, .int .i64 0] 35 72 v1 (l.map opCells)) (fun i _ => m - (intOf i).toNat)
  case atStart => exact ⟨0, [], _, rfl, Nat.zero_le _, rfl, by simp, HT0.out⟩
  case round =>
    clear HT0
    obtain ⟨k, l, v1, rfl, hk, hl, hok, hT⟩ := hrel
    obtain ⟨Av, nv, cv, hv1⟩ := hT.form
    subst hv1
    by_cases hkl : k < m
    · have hkl' : (k : Int) < (m : Int) := by omega
      obtain ⟨y0, y1⟩ := hT.cell 4 _ rfl
      have hown := hT.own1
      have hlE := hT.size
      have hll : (l.map opCells).length = k := by simp; omega
      have hrowE : ¬ (Value.slice Av nv cv).ownBlock = some E := fun e => (hT.row1 E e).2 rfl
      go_wp2_with (at_builtin; refine wl_app _ rfl _ _ 28 rfl 72 io _ 4 40 Try.underlying28 hio hzo0 hzo1 hzo2 rfl (by omega) (.slice Av nv cv) _ _ (by rfl) (hown.alloc _) _ 1 1 [.int .i64 0, .bool g, .int .i64 k, .string ⟨#[]⟩] (by rfl) (by rfl) (four_new_cells _ _ _ _ _ _) (by simp [Value.oneCell']) (by omega) (by unfold maxLen; omega) ?_; intro A8 cp8 w8 ho8 hg8 hat8; have q8 := Chg.of_grown (S := fun k => (Value.slice Av nv cv).ownBlock = some k) hg8 (fun k h => h); have qa := Chg.alloc_ (fun _ => False) wr (.cells #[.int .i64 0, .bool g, .int .i64 k, .string ⟨#[]⟩] 72); have k8 := q8.cell' (qa.cell' y0 (fun h => h)) hrowE; have f8 : w8.frozen? ⟨E, 4, none⟩ = false := (q8.frozen (p := ⟨E, 4, none⟩) (Nat.lt_of_lt_of_le hlE qa.size) hrowE).trans ((qa.frozen (p := ⟨E, 4, none⟩) hlE (fun h => h)).trans y1); have HM8 := Lib.hid (hT.more1 4 _ _ ho8 hg8 hat8); clear ho8 hg8 hat8 q8 qa)
      go_roundw
      case rel =>
        have hz := HM8.out
        rw [hll] at hz
        refine ⟨k + 1, l ++ [⟨0, g, k, ⟨#[]⟩⟩], .slice A8 (k + 1) cp8, by go_num, by omega, by simp; omega, fun o ho => ?_, by rw [List.map_append]; exact hz⟩
        rcases List.mem_append.1 ho with ho | ho
        · exact hok o ho
        · have := List.mem_singleton.1 ho
          subst this
          exact ⟨⟨⟨by simp only; omega, by simp only; omega⟩, ⟨by simp only; omega, by simp only; omega⟩, by show (⟨#[]⟩ : ByteArray).size ≤ 1000; decide⟩, by simp only; omega, by show (⟨#[]⟩ : ByteArray).size ≤ 40; decide⟩
      case measure => simp [intOf]; omega
    · have hkm : k = m := by omega
      subst hkm
      have HOK : Hid (∀ o ∈ l, o.ok ∧ o.table ≤ 255 ∧ o.text.size ≤ 40) := Lib.hid hok
      have hE0 : EntS wr (fun b => b < wr.heap.size) (manyE l) (.slice Av nv cv) (.slice none 0 0) (.slice none 0 0) :=
        ⟨Sl.of_own (by omega) hT.own1 (by simp) (by intro x hx; obtain ⟨o, -, rfl⟩ := List.mem_map.1 hx; rfl) (fun g hg => (World.ownsRow.lt hT.own1 g hg).2), Sl.nil_ _ _ _, Sl.nil_ _ _ _⟩
      have HE0 := Lib.hid hE0
      have hL2 := many_len l (fun o ho => (hok o ho).1) (by omega)
      have HK := Lib.hid (many_ok l (fun o ho => (hok o ho).1) (by omega))
      obtain ⟨L, HL⟩ : ∃ L, Hid (entB (manyE l) = L) := ⟨_, Lib.hid rfl⟩
      rw [HL.out] at hL2
      obtain ⟨x0, x1, x2, x3, x4, x5, x6, x7, x8, x9, x10, x11, x12⟩ := ent_cells hT.el
      have HS := Lib.hid hT.same
      clear hT hok hE0
      go_wp2_with fail
      refine (rencode_any (manyE l) ⟨by simp only; omega, by simp only; omega⟩ HK.out _ _ _ wr _ HE0.out).mono ?_
      rintro _ w3 ⟨v3, rfl, R3⟩
      rw [HL.out] at R3
      obtain ⟨A3, c3, hv3⟩ := R3.form
      subst hv3
      have HB3 := Lib.hid R3.bs
      have HS3 := Lib.hid (HS.out.trans R3.sm)
      clear R3 HS x0 x1 x2 x3 x4 x5 x6 x7 x8 x9 x10 x11 x12
      go_wp2_with fail
      by_cases h255 : k ≤ 255
      · have h255' : (k : Int) ≤ 255 := by omega
        have hd : decide ((k : Int) ≤ 255) = true := by simp [h255']
        have HD : Hid (decEnt L = (manyE l, 0)) := by
          have h1 := ent_back (manyE l) ⟨HK.out, ⟨by simp only; omega, by simp only; omega⟩, by simp only; omega, by simp [noEnt], by simp [noEnt], fun o ho => (HOK.out o ho).2, by simp [noEnt], by simp [noEnt, ByteArray.size]⟩
          rw [HL.out] at h1
          exact Lib.hid h1
        refine (ntdecode_any _ _ L w3 HB3.out (by omega) ((manyE l), 0) HD).mono ?_
        rintro _ w4 ⟨do_, de_, dp_, rfl, hE4, hs4⟩
        obtain ⟨A1o, c1o, A1e, c1e, A1p, c1p, rfl, rfl, rfl⟩ := ent_forms hE4
        have HB4 := Lib.hid (HB3.out.same hs4)
        have HS4 := Lib.hid (HS3.out.trans hs4)
        clear hE4 hs4 HB3 HS3
        unfold entV
        unfold entCells
        go_wp2_with fail
        refine (reads_any _ L _ _ (HB4.out.alloc _) (by omega)).mono ?_
        rintro _ w5 ⟨rfl, hs5⟩
        go_wp2_with fail
        try rw [hd]
        go_ret
        exact ⟨rfl, HS4.out.trans ((Chg.alloc_ _ _ _).trans hs5)⟩
      · have h255' : ¬ (k : Int) ≤ 255 := by omega
        have hd : decide ((k : Int) ≤ 255) = false := by simp [h255']
        have HD : Hid (decEnt L = (noEnt, 2)) := by
          have h1 := ent_many (manyE l) rfl ⟨by simp only; omega, by simp only; omega⟩ (by simp only; omega) (by simp only; omega)
          rw [HL.out] at h1
          exact Lib.hid h1
        refine (ntdecode_any _ _ L w3 HB3.out (by omega) (noEnt, 2) HD).mono ?_
        rintro _ w4 ⟨do_, de_, dp_, rfl, hE4, hs4⟩
        obtain ⟨A1o, c1o, A1e, c1e, A1p, c1p, rfl, rfl, rfl⟩ := ent_forms hE4
        have HB4 := Lib.hid (HB3.out.same hs4)
        have HS4 := Lib.hid (HS3.out.trans hs4)
        clear hE4 hs4 HB3 HS3
        unfold entV
        unfold entCells
        go_wp2_with fail
        refine (reads_any _ L _ _ (HB4.out.alloc _) (by omega)).mono ?_
        rintro _ w5 ⟨rfl, hs5⟩
        go_wp2_with fail
        try rw [hd]
        go_ret
        exact ⟨rfl, HS4.out.trans ((Chg.alloc_ _ _ _).trans hs5)⟩
end Go.Proofs.Ytdkankiohoocaaa
