/- The walks of event.Encode and carrierref09.Encode. -/
import Derived.Test.YtdkankiohoocaaaQEv1
namespace Go.Proofs.Ytdkankiohoocaaa
set_option linter.unusedSimpArgs false
set_option linter.unusedVariables false
open Go Go.RowKit Go.Proofs

/-- An event's bytes. -/
def encB (id tx : Int) (o : ByteArray) (tries table kind key : Int) (t : ByteArray) : List UInt8 :=
  numB id.toNat ++ numB tx.toNat ++ textB o.data.toList ++ numB tries.toNat ++ numB table.toNat ++ numB kind.toNat ++ intB key ++ textB t.data.toList

theorem wnum_is (a : Nat) (n : Int) (F : Nat → Prop) (l l1 : List UInt8) (w : World) (h : Wr w F a l) (h0 : 0 ≤ n) (h1 : n ≤ 18446744073709551615) (hl : l.length ≤ 1099511627700) (hq : Hid (l ++ numB n.toNat = l1)) :
    Calls Try.prog 58 #[.pointer (some ⟨a, 0, none⟩), .int .u64 n] w fun e w' => e = .returned (.pointer (some ⟨a, 0, none⟩)) ∧ WrPost w w' F a l1 :=
  (wnum_any a n h0 h1 F l w h hl).mono fun e w' h => by rw [hq.out] at h; exact h
theorem wint_is (a : Nat) (n : Int) (F : Nat → Prop) (l l1 : List UInt8) (w : World) (h : Wr w F a l) (h0 : -9223372036854775808 ≤ n) (h1 : n ≤ 9223372036854775807) (hl : l.length ≤ 1099511627700) (hq : Hid (l ++ intB n = l1)) :
    Calls Try.prog 34 #[.pointer (some ⟨a, 0, none⟩), .int .i64 n] w fun e w' => e = .returned (.pointer (some ⟨a, 0, none⟩)) ∧ WrPost w w' F a l1 :=
  (wint_any a n h0 h1 F l w h hl).mono fun e w' h => by rw [hq.out] at h; exact h
theorem wtext_is (a : Nat) (s : ByteArray) (F : Nat → Prop) (l l1 : List UInt8) (w : World) (h : Wr w F a l) (hl : l.length ≤ 1099511627600) (hs : s.size ≤ 1099511627700) (hq : Hid (l ++ textB s.data.toList = l1)) :
    Calls Try.prog 36 #[.pointer (some ⟨a, 0, none⟩), .string s] w fun e w' => e = .returned (.pointer (some ⟨a, 0, none⟩)) ∧ WrPost w w' F a l1 :=
  (wtext_any a s F l w h hl hs).mono fun e w' h => by rw [hq.out] at h; exact h

theorem ev_cells {w : World} {B : Nat} {a0 a1 a2 a3 a4 a5 a6 a7 : Value} {t : TypeId} (h : w.heap[B]? = some (.cells #[a0, a1, a2, a3, a4, a5, a6, a7] t (0, 0))) :
    w.cell? ⟨B, 0, none⟩ = some a0 ∧ w.cell? ⟨B, 1, none⟩ = some a1 ∧ w.cell? ⟨B, 2, none⟩ = some a2 ∧ w.cell? ⟨B, 3, none⟩ = some a3 ∧ w.cell? ⟨B, 4, none⟩ = some a4 ∧ w.cell? ⟨B, 5, none⟩ = some a5 ∧ w.cell? ⟨B, 6, none⟩ = some a6 ∧ w.cell? ⟨B, 7, none⟩ = some a7 := by
  simp [World.cell?, h]
theorem fresh_since {w w1 w2 : World} {v : Value} {l : List UInt8} (hs : Same w w1) (h : Fresh w1 w2 v l) : Fresh w w2 v l := ⟨h.1.weak hs.size, hs.trans h.2⟩
/-- A step of the writer: its blocks lie behind B, and so far so much has turned since w. -/
structure WrAt (w w' : World) (B : Nat) (F : Nat → Prop) (a : Nat) (l : List UInt8) (o : Obj) : Prop where
  wr : Wr w' F a l
  far : ∀ k, F k → B < k
  blk : w'.heap[B]? = some o
  same : Same w w'
  old : w.heap.size ≤ B
theorem WrAt.step {w w1 w2 : World} {B a : Nat} {F : Nat → Prop} {l l2 : List UInt8} {o : Obj} (h : WrAt w w1 B F a l o) (hp : WrPost w1 w2 F a l2) : ∃ F2, WrAt w w2 B F2 a l2 o := by
  obtain ⟨F2, hW, hc, hn⟩ := hp
  have hlt := lt_of_block h.blk
  exact ⟨F2, hW, fun k hk => by rcases hn k hk with h1 | h1; exact h.far k h1; omega, hc.at_ h.blk (fun e => Nat.lt_irrefl _ (h.far B e)), h.same.since hc (fun k hk => by have := h.far k hk; have := h.old; omega), h.old⟩
theorem WrAt.drew {w w1 : World} {B a : Nat} {F : Nat → Prop} {l : List UInt8} {o : Obj} (h : WrAt w w1 B F a l o) : WrAt w w1.drew B F a l o := ⟨h.wr.drew, h.far, h.blk, h.same.drew, h.old⟩

set_option maxHeartbeats 4000000 in
set_option maxRecDepth 100000 in
theorem eencode_any (id tx : Int) (o : ByteArray) (tries table kind key : Int) (t : ByteArray) (w : World) (hk : EvOk id tx o.size tries table kind t.size) (h1 : id ≤ 9223372036854775807) (h2 : tx ≤ 9223372036854775807) (h3 : -9223372036854775808 ≤ key) (h4 : key ≤ 9223372036854775807) :
    Calls Try.prog 57 #[evv id tx o tries table kind key t] w fun en w' => ∃ v', en = .returned v' ∧ Fresh w w' v' (encB id tx o tries table kind key t) := by
  obtain ⟨k1, k2, k3, k4, k5, k6, k7, k8, k9, k10⟩ := hk
  unfold evv
  have e1 : IntKind.u64.wrap id = id := by rw [IntKind.wrap_u64]; omega
  have e2 : IntKind.u64.wrap tx = tx := by rw [IntKind.wrap_u64]; omega
  have e3 : IntKind.u64.wrap tries = tries := by rw [IntKind.wrap_u64]; omega
  have e4 : IntKind.u64.wrap table = table := by rw [IntKind.wrap_u64]; omega
  have e5 : IntKind.u64.wrap kind = kind := by rw [IntKind.wrap_u64]; omega
  obtain ⟨L1, H1⟩ : ∃ L : List UInt8, Hid ([] ++ numB id.toNat = L) := ⟨[] ++ numB id.toNat, Lib.hid rfl⟩
  obtain ⟨L2, H2⟩ : ∃ L : List UInt8, Hid (L1 ++ numB tx.toNat = L) := ⟨L1 ++ numB tx.toNat, Lib.hid rfl⟩
  obtain ⟨L3, H3⟩ : ∃ L : List UInt8, Hid (L2 ++ textB o.data.toList = L) := ⟨L2 ++ textB o.data.toList, Lib.hid rfl⟩
  obtain ⟨L4, H4⟩ : ∃ L : List UInt8, Hid (L3 ++ numB tries.toNat = L) := ⟨L3 ++ numB tries.toNat, Lib.hid rfl⟩
  obtain ⟨L5, H5⟩ : ∃ L : List UInt8, Hid (L4 ++ numB table.toNat = L) := ⟨L4 ++ numB table.toNat, Lib.hid rfl⟩
  obtain ⟨L6, H6⟩ : ∃ L : List UInt8, Hid (L5 ++ numB kind.toNat = L) := ⟨L5 ++ numB kind.toNat, Lib.hid rfl⟩
  obtain ⟨L7, H7⟩ : ∃ L : List UInt8, Hid (L6 ++ intB key = L) := ⟨L6 ++ intB key, Lib.hid rfl⟩
  obtain ⟨L8, H8⟩ : ∃ L : List UInt8, Hid (L7 ++ textB t.data.toList = L) := ⟨L7 ++ textB t.data.toList, Lib.hid rfl⟩
  have HE : Hid (encB id tx o tries table kind key t = L8) := by
    show _ = _
    have x1 := H1.out; have x2 := H2.out; have x3 := H3.out; have x4 := H4.out; have x5 := H5.out; have x6 := H6.out; have x7 := H7.out; have x8 := H8.out
    subst x1; subst x2; subst x3; subst x4; subst x5; subst x6; subst x7; subst x8
    rfl
  have ht1 : (textB o.data.toList).length ≤ 50 := by
    unfold textB; rw [List.length_append, size_toList]; have := (numB_len 10 o.size (by omega) (by omega)).1; omega
  have ht2 : (textB t.data.toList).length ≤ 50 := by
    unfold textB; rw [List.length_append, size_toList]; have := (numB_len 10 t.size (by omega) (by omega)).1; omega
  have hi7 : (intB key).length ≤ 10 := by
    unfold intB zig; split <;> exact numB_len10 (by omega)
  have hl1 : L1.length ≤ 10 := by rw [← H1.out]; have := numB_len10 (n := id) (by omega); simpa using this
  have hl2 : L2.length ≤ 20 := by rw [← H2.out, List.length_append]; have := numB_len10 (n := tx) (by omega); omega
  have hl3 : L3.length ≤ 70 := by rw [← H3.out, List.length_append]; omega
  have hl4 : L4.length ≤ 80 := by rw [← H4.out, List.length_append]; have := numB_len10 (n := tries) (by omega); omega
  have hl5 : L5.length ≤ 90 := by rw [← H5.out, List.length_append]; have := numB_len10 (n := table) (by omega); omega
  have hl6 : L6.length ≤ 100 := by rw [← H6.out, List.length_append]; have := numB_len10 (n := kind) (by omega); omega
  have hl7 : L7.length ≤ 110 := by rw [← H7.out, List.length_append]; omega
  have hl8 : L8.length ≤ 160 := by rw [← H8.out, List.length_append]; omega
  have hl0 : ([] : List UInt8).length ≤ 0 := Nat.le_refl _
  rw [HE.out]
  clear ht1 ht2 hi7
  go_enter Try.func57, Try.ntmps57
  go_wp2_with fail
  have hA0 : WrAt w ((w.alloc (.cells #[.int .i64 id, .int .i64 tx, .string o, .int .i64 tries, .int .i64 table, .int .u8 kind, .int .i64 key, .string t] 49)).alloc (.cells #[.slice none 0 0] 85)) w.heap.size (fun k => k = w.heap.size + 1) (w.heap.size + 1) [] (.cells #[.int .i64 id, .int .i64 tx, .string o, .int .i64 tries, .int .i64 table, .int .u8 kind, .int .i64 key, .string t] 49 (0, 0)) := by
    have hes : (w.alloc (.cells #[.int .i64 id, .int .i64 tx, .string o, .int .i64 tries, .int .i64 table, .int .u8 kind, .int .i64 key, .string t] 49)).heap.size = w.heap.size + 1 := by simp
    have hW := Wr.new (w.alloc (.cells #[.int .i64 id, .int .i64 tx, .string o, .int .i64 tries, .int .i64 table, .int .u8 kind, .int .i64 key, .string t] 49))
    rw [hes] at hW
    exact ⟨hW, fun k hk => by omega, (Chg.alloc_ (fun _ => False) _ _).at_ (heap_alloc_new w _) (fun h => h), ((Chg.refl _ w).alloc _).alloc _, Nat.le_refl _⟩
  generalize (w.alloc (.cells #[.int .i64 id, .int .i64 tx, .string o, .int .i64 tries, .int .i64 table, .int .u8 kind, .int .i64 key, .string t] 49)).alloc (.cells #[.slice none 0 0] 85) = W at *
  generalize hb : w.heap.size + 1 = a at *
  generalize hB : w.heap.size = B at *
  clear hb hB
  obtain ⟨p00, p01, p02, p03, p04, p05, p06, p07⟩ := ev_cells hA0.blk
  go_region_held3 (fun w' => w'.cell? ⟨B, 0, none⟩ = some (.int .i64 id) ∧ w'.cell? ⟨B, 1, none⟩ = some (.int .i64 tx) ∧ w'.cell? ⟨B, 2, none⟩ = some (.string o) ∧ w'.cell? ⟨B, 3, none⟩ = some (.int .i64 tries) ∧ w'.cell? ⟨B, 4, none⟩ = some (.int .i64 table) ∧ w'.cell? ⟨B, 5, none⟩ = some (.int .u8 kind)) (go_keep) (first | (go_at_call 58; ((with_reducible refine (wnum_is _ id _ [] _ _ hA0.drew.wr (by omega) (by omega) (by simp) H1).mono ?_); rintro _ w1 ⟨rfl, hP1⟩; obtain ⟨F1, hA1⟩ := hA0.drew.step hP1; obtain ⟨p10, p11, p12, p13, p14, p15, p16, p17⟩ := ev_cells hA1.blk)) | (go_at_call 58; ((with_reducible refine (wnum_is _ tx _ L1 _ _ hA1.wr (by omega) (by omega) (by omega) H2).mono ?_); rintro _ w2 ⟨rfl, hP2⟩; obtain ⟨F2, hA2⟩ := hA1.step hP2; obtain ⟨p20, p21, p22, p23, p24, p25, p26, p27⟩ := ev_cells hA2.blk)) | (go_at_call 36; ((with_reducible refine (wtext_is _ o _ L2 _ _ hA2.wr (by omega) (by omega) H3).mono ?_); rintro _ w3 ⟨rfl, hP3⟩; obtain ⟨F3, hA3⟩ := hA2.step hP3; obtain ⟨p30, p31, p32, p33, p34, p35, p36, p37⟩ := ev_cells hA3.blk)) | (go_at_call 58; ((with_reducible refine (wnum_is _ tries _ L3 _ _ hA3.wr (by omega) (by omega) (by omega) H4).mono ?_); rintro _ w4 ⟨rfl, hP4⟩; obtain ⟨F4, hA4⟩ := hA3.step hP4; obtain ⟨p40, p41, p42, p43, p44, p45, p46, p47⟩ := ev_cells hA4.blk)) | (go_at_call 58; ((with_reducible refine (wnum_is _ table _ L4 _ _ hA4.wr (by omega) (by omega) (by omega) H5).mono ?_); rintro _ w5 ⟨rfl, hP5⟩; obtain ⟨F5, hA5⟩ := hA4.step hP5; obtain ⟨p50, p51, p52, p53, p54, p55, p56, p57⟩ := ev_cells hA5.blk)) | (go_at_call 58; ((with_reducible refine (wnum_is _ kind _ L5 _ _ hA5.wr (by omega) (by omega) (by omega) H6).mono ?_); rintro _ w6 ⟨rfl, hP6⟩; obtain ⟨F6, hA6⟩ := hA5.step hP6; obtain ⟨p60, p61, p62, p63, p64, p65, p66, p67⟩ := ev_cells hA6.blk)))
  clear hA0 hA1 hA2 hA3 hA4 hA5 hP1 hP2 hP3 hP4 hP5 hP6 p00 p01 p02 p03 p04 p05 p06 p07 p10 p11 p12 p13 p14 p15 p16 p17 p20 p21 p22 p23 p24 p25 p26 p27 p30 p31 p32 p33 p34 p35 p36 p37 p40 p41 p42 p43 p44 p45 p46 p47 p50 p51 p52 p53 p54 p55 p56 p57
  go_wp2_with fail
  go_region_held3 (fun w' => w'.cell? ⟨B, 6, none⟩ = some (.int .i64 key) ∧ w'.cell? ⟨B, 7, none⟩ = some (.string t)) (go_keep) (first | (go_at_call 34; ((with_reducible refine (wint_is _ key _ L6 _ _ hA6.drew.wr (by omega) (by omega) (by omega) H7).mono ?_); rintro _ w7 ⟨rfl, hP7⟩; obtain ⟨F7, hA7⟩ := hA6.drew.step hP7; obtain ⟨p70, p71, p72, p73, p74, p75, p76, p77⟩ := ev_cells hA7.blk)) | (go_at_call 36; ((with_reducible refine (wtext_is _ t _ L7 _ _ hA7.wr (by omega) (by omega) H8).mono ?_); rintro _ w8 ⟨rfl, hP8⟩; obtain ⟨F8, hA8⟩ := hA7.step hP8; obtain ⟨p80, p81, p82, p83, p84, p85, p86, p87⟩ := ev_cells hA8.blk)) | (go_at_call 37; ((with_reducible refine (wbytes_any _ _ _ _ hA8.wr (by omega)).mono ?_); rintro _ w9 ⟨v9, rfl, R9⟩; have p96 := R9.2.cell' p86 (fun h => h); have p97 := R9.2.cell' p87 (fun h => h))))
  all_goals
    go_wp2_with fail
    go_ret
    exact ⟨_, rfl, fresh_since hA8.same R9⟩
end Go.Proofs.Ytdkankiohoocaaa
/- The walk of carrierref09.Encode. -/
namespace Go.Proofs.Ytdkankiohoocaaa
set_option linter.unusedSimpArgs false
set_option linter.unusedVariables false
open Go Go.RowKit Go.Proofs

theorem Fresh.sm {w w' : World} {v : Value} {l : List UInt8} (h : Fresh w w' v l) : Same w w' := h.2
theorem Bs.drew {w : World} {F : Nat → Prop} {v : Value} {l : List UInt8} (h : Bs w F v l) : Bs w.drew F v l := h
theorem join_is (A B : Option Addr) (n m c1 c2 : Nat) (la lb l : List UInt8) (F G : Nat → Prop) (w : World) (ha : Bs w F (.slice A n c1) la) (hb : Bs w G (.slice B m c2) lb) (hl : la.length + lb.length ≤ 140737488355328) (hq : Hid (la ++ lb = l)) :
    Calls Try.prog 22 #[.slice A n c1, .slice B m c2] w fun e w' => ∃ v', e = .returned v' ∧ Fresh w w' v' l :=
  (join_any _ _ la lb F G w ha hb hl).mono fun e w' h => by rw [hq.out] at h; exact h
theorem rnumb_s (n : Int) (h0 : 0 ≤ n) (h1 : n ≤ 18446744073709551615) (w : World) (l : List UInt8) (hq : Hid (numB n.toNat = l)) :
    Calls Try.prog 70 #[.int .u64 n] w fun e w' => ∃ A c, e = .returned (.slice A l.length c) ∧ Fresh w w' (.slice A l.length c) l :=
  (rnum_any n h0 h1 w).mono fun en w' ⟨v, h1, h2⟩ => by
    rw [hq.out] at h2
    obtain ⟨A, c, rfl⟩ := h2.form
    exact ⟨A, c, h1, h2⟩
theorem rintb_s (n : Int) (h0 : -9223372036854775808 ≤ n) (h1 : n ≤ 9223372036854775807) (w : World) (l : List UInt8) (hq : Hid (intB n = l)) :
    Calls Try.prog 45 #[.int .i64 n] w fun e w' => ∃ A c, e = .returned (.slice A l.length c) ∧ Fresh w w' (.slice A l.length c) l :=
  (rint_any n h0 h1 w).mono fun en w' ⟨v, h1, h2⟩ => by
    rw [hq.out] at h2
    obtain ⟨A, c, rfl⟩ := h2.form
    exact ⟨A, c, h1, h2⟩
theorem rtextb_s (s : ByteArray) (hs : s.size ≤ 1099511627700) (w : World) (l : List UInt8) (hq : Hid (textB s.data.toList = l)) :
    Calls Try.prog 46 #[.string s] w fun e w' => ∃ A c, e = .returned (.slice A l.length c) ∧ Fresh w w' (.slice A l.length c) l :=
  (rtext_any s hs w).mono fun en w' ⟨v, h1, h2⟩ => by
    rw [hq.out] at h2
    obtain ⟨A, c, rfl⟩ := h2.form
    exact ⟨A, c, h1, h2⟩
theorem join_s (A B : Option Addr) (n m c1 c2 : Nat) (la lb l : List UInt8) (F G : Nat → Prop) (w : World) (ha : Bs w F (.slice A n c1) la) (hb : Bs w G (.slice B m c2) lb) (hl : la.length + lb.length ≤ 140737488355328) (hq : Hid (la ++ lb = l)) :
    Calls Try.prog 22 #[.slice A n c1, .slice B m c2] w fun e w' => ∃ A' c', e = .returned (.slice A' l.length c') ∧ Fresh w w' (.slice A' l.length c') l :=
  (join_is A B n m c1 c2 la lb l F G w ha hb hl hq).mono fun en w' ⟨v, h1, h2⟩ => by
    obtain ⟨A, c, rfl⟩ := h2.form
    exact ⟨A, c, h1, h2⟩

theorem numB_byte (b : UInt8) (h : b.toNat < 128) : numB ((b.toNat : Int)).toNat = [b] := by
  have e : ((b.toNat : Int)).toNat = b.toNat := by omega
  rw [e, numB_small h]
  simp [dLast]

set_option maxHeartbeats 4000000 in
set_option maxRecDepth 100000 in
theorem pencode_any (id tx : Int) (o : ByteArray) (tries table kind key : Int) (t : ByteArray) (w : World) (hk : EvOk id tx o.size tries table kind t.size) (h1 : id ≤ 9223372036854775807) (h2 : tx ≤ 9223372036854775807) (h3 : -9223372036854775808 ≤ key) (h4 : key ≤ 9223372036854775807) :
    Calls Try.prog 71 #[evv id tx o tries table kind key t] w fun en w' => ∃ v', en = .returned v' ∧ Fresh w w' v' (encB id tx o tries table kind key t) := by
  obtain ⟨k1, k2, k3, k4, k5, k6, k7, k8, k9, k10⟩ := hk
  unfold evv
  obtain ⟨bt, hbt⟩ : ∃ b : UInt8, table = (b.toNat : Int) := ⟨UInt8.ofNat table.toNat, by rw [UInt8.toNat_ofNat']; omega⟩
  obtain ⟨bk, hbk⟩ : ∃ b : UInt8, kind = (b.toNat : Int) := ⟨UInt8.ofNat kind.toNat, by rw [UInt8.toNat_ofNat']; omega⟩
  subst hbt
  subst hbk
  have e1 : IntKind.u64.wrap id = id := by rw [IntKind.wrap_u64]; omega
  have e2 : IntKind.u64.wrap tx = tx := by rw [IntKind.wrap_u64]; omega
  have e3 : IntKind.u64.wrap tries = tries := by rw [IntKind.wrap_u64]; omega
  have e4 : IntKind.u8.wrap (bt.toNat : Int) = (bt.toNat : Int) := by rw [IntKind.wrap_u8]; omega
  have e4' : (bt.toNat : Int) % 256 = (bt.toNat : Int) := by omega
  obtain ⟨M1, G1⟩ : ∃ L : List UInt8, Hid (numB id.toNat = L) := ⟨_, Lib.hid rfl⟩
  obtain ⟨M2, G2⟩ : ∃ L : List UInt8, Hid (numB tx.toNat = L) := ⟨_, Lib.hid rfl⟩
  obtain ⟨M3, G3⟩ : ∃ L : List UInt8, Hid (textB o.data.toList = L) := ⟨_, Lib.hid rfl⟩
  obtain ⟨M4, G4⟩ : ∃ L : List UInt8, Hid (numB tries.toNat = L) := ⟨_, Lib.hid rfl⟩
  obtain ⟨M6, G6⟩ : ∃ L : List UInt8, Hid (intB key = L) := ⟨_, Lib.hid rfl⟩
  obtain ⟨M7, G7⟩ : ∃ L : List UInt8, Hid (textB t.data.toList = L) := ⟨_, Lib.hid rfl⟩
  obtain ⟨N1, H1⟩ : ∃ L : List UInt8, Hid (M1 ++ M2 = L) := ⟨_, Lib.hid rfl⟩
  obtain ⟨N2, H2⟩ : ∃ L : List UInt8, Hid (N1 ++ M3 = L) := ⟨_, Lib.hid rfl⟩
  obtain ⟨N3, H3⟩ : ∃ L : List UInt8, Hid (N2 ++ M4 = L) := ⟨_, Lib.hid rfl⟩
  obtain ⟨N4, H4⟩ : ∃ L : List UInt8, Hid (N3 ++ [bt, bk] = L) := ⟨_, Lib.hid rfl⟩
  obtain ⟨N5, H5⟩ : ∃ L : List UInt8, Hid (N4 ++ M6 = L) := ⟨_, Lib.hid rfl⟩
  obtain ⟨N6, H6⟩ : ∃ L : List UInt8, Hid (N5 ++ M7 = L) := ⟨_, Lib.hid rfl⟩
  have HE : Hid (encB id tx o tries (bt.toNat : Int) (bk.toNat : Int) key t = N6) := by
    show _ = _
    unfold encB
    rw [numB_byte bt (by omega), numB_byte bk (by omega), G1.out, G2.out, G3.out, G4.out, G6.out, G7.out, H1.out, H2.out, H3.out, ← H6.out, ← H5.out, ← H4.out]
    simp only [List.append_assoc, List.cons_append, List.nil_append]
  have g1 : M1.length ≤ 10 := by rw [← G1.out]; exact numB_len10 (by omega)
  have g2 : M2.length ≤ 10 := by rw [← G2.out]; exact numB_len10 (by omega)
  have g3 : M3.length ≤ 50 := by
    rw [← G3.out]; unfold textB; rw [List.length_append, size_toList]; have := (numB_len 10 o.size (by omega) (by omega)).1; omega
  have g4 : M4.length ≤ 10 := by rw [← G4.out]; exact numB_len10 (by omega)
  have g6 : M6.length ≤ 10 := by
    rw [← G6.out]; unfold intB zig; split <;> exact numB_len10 (by omega)
  have g7 : M7.length ≤ 50 := by
    rw [← G7.out]; unfold textB; rw [List.length_append, size_toList]; have := (numB_len 10 t.size (by omega) (by omega)).1; omega
  have n1 : N1.length ≤ 20 := by rw [← H1.out, List.length_append]; omega
  have n2 : N2.length ≤ 70 := by rw [← H2.out, List.length_append]; omega
  have n3 : N3.length ≤ 80 := by rw [← H3.out, List.length_append]; omega
  have n4 : N4.length ≤ 82 := by rw [← H4.out, List.length_append]; simp; omega
  have n5 : N5.length ≤ 92 := by rw [← H5.out, List.length_append]; omega
  rw [HE.out]
  go_enter Try.func71, Try.ntmps71
  go_wp2_with fail
  have hblk := heap_alloc_new w (.cells #[.int .i64 id, .int .i64 tx, .string o, .int .i64 tries, .int .i64 (bt.toNat : Int), .int .u8 (bk.toNat : Int), .int .i64 key, .string t] 49)
  have hsame : Same w (w.alloc (.cells #[.int .i64 id, .int .i64 tx, .string o, .int .i64 tries, .int .i64 (bt.toNat : Int), .int .u8 (bk.toNat : Int), .int .i64 key, .string t] 49)) := Chg.alloc_ _ _ _
  generalize w.alloc (.cells #[.int .i64 id, .int .i64 tx, .string o, .int .i64 tries, .int .i64 (bt.toNat : Int), .int .u8 (bk.toNat : Int), .int .i64 key, .string t] 49) = W at *
  have HB := Lib.hid hblk
  generalize w.heap.size = B at *
  obtain ⟨p00, p01, -, -, -, -, -, -⟩ := ev_cells hblk
  clear hblk
  go_region_held3 (fun w' => w'.cell? ⟨B, 0, none⟩ = some (.int .i64 id) ∧ w'.cell? ⟨B, 1, none⟩ = some (.int .i64 tx)) (go_keep) (first | (go_at_call 70; ((with_reducible refine (rnumb_s id (by omega) (by omega) _ M1 G1).mono ?_); rintro _ w1 ⟨A1, c1, rfl, R1⟩; have p10 := R1.sm.cell' p00 (fun h => h); have p11 := R1.sm.cell' p01 (fun h => h))) | (go_at_call 70; ((with_reducible refine (rnumb_s tx (by omega) (by omega) _ M2 G2).mono ?_); rintro _ w2 ⟨A2, c2, rfl, R2⟩; have p20 := R2.sm.cell' p10 (fun h => h); have p21 := R2.sm.cell' p11 (fun h => h))) | (go_at_call 22; ((with_reducible refine (join_s _ _ _ _ _ _ M1 M2 N1 _ _ _ (R1.bs.same R2.sm) R2.bs (by omega) H1).mono ?_); rintro _ w3 ⟨A3, c3, rfl, R3⟩; have p30 := R3.sm.cell' p20 (fun h => h); have p31 := R3.sm.cell' p21 (fun h => h))))
  have hs3 : Same W w3 := (((Chg.refl _ W).drew.trans R1.sm).trans R2.sm).trans R3.sm
  obtain ⟨-, -, p2, p3, p4, p5, p6, p7⟩ := ev_cells (hs3.at_ HB.out (fun h => h))
  have hb3 := R3.bs
  clear R1 R2 R3 p00 p01 p10 p11 p20 p21 p30 p31
  go_wp2_with fail
  refine (rtextb_s o (by omega) _ M3 G3).mono ?_
  rintro _ w4 ⟨A4, c4, rfl, R4⟩
  go_wp2_with fail
  refine (join_s _ _ _ _ _ _ N1 M3 N2 _ _ _ (hb3.same R4.sm) R4.bs (by omega) H2).mono ?_
  rintro _ w5 ⟨A5, c5, rfl, R5⟩
  have hs5 := R4.sm.trans R5.sm
  have p35 := hs5.cell' p3 (fun h => h)
  have p45 := hs5.cell' p4 (fun h => h)
  have p55 := hs5.cell' p5 (fun h => h)
  have p65 := hs5.cell' p6 (fun h => h)
  have p75 := hs5.cell' p7 (fun h => h)
  have hb5 := R5.bs
  have hsame5 := hs3.trans hs5
  clear R4 R5 hb3 p2 p3 p4 p5 p6 p7 hs3 hs5
  go_wp2_with fail
  refine (rnumb_s tries (by omega) (by omega) _ M4 G4).mono ?_
  rintro _ w6 ⟨A6, c6, rfl, R6⟩
  go_wp2_with fail
  refine (join_s _ _ _ _ _ _ N2 M4 N3 _ _ _ (hb5.same R6.sm) R6.bs (by omega) H3).mono ?_
  rintro _ w7 ⟨A7, c7, rfl, R7⟩
  have hs7 := R6.sm.trans R7.sm
  have p47 := hs7.cell' p45 (fun h => h)
  have p57 := hs7.cell' p55 (fun h => h)
  have p67 := hs7.cell' p65 (fun h => h)
  have p77 := hs7.cell' p75 (fun h => h)
  have hF7 := fresh_since (hsame5.trans R6.sm) R7
  clear R6 R7 hb5 p35 p45 p55 p65 p75 hs7 hsame5
  have hlit := Lib.hid (bs_lit w7 5 #[.int .u8 (bt.toNat : Int), .int .u8 (bk.toNat : Int)] [bt, bk] 2 rfl (by unfold maxLen; simp) rfl)
  have hF7' := Lib.hid hF7
  clear hF7
  have hown := Lib.hid (hF7'.out.own (Chg.alloc_ _ w7 (.cells #[.int .u8 (bt.toNat : Int), .int .u8 (bk.toNat : Int)] 5)))
  go_wp2_with (at_builtin; refine wl_appB rfl _ _ rfl _ N3 _ _ _ _ [bt, bk] rfl rfl hown.out hlit.out ?e2 ?_)
  case e2 => simp; omega
  intro A8 m8 c8 w8 hout
  have hF8 := hF7'.out.app (Chg.alloc_ _ _ _) hout
  rw [H4.out] at hF8
  obtain ⟨A8', c8', hv⟩ := hF8.form
  injection hv with hv1 hv2 hv3
  subst hv1; subst hv2; subst hv3
  obtain ⟨-, -, -, -, -, -, q6, q7⟩ := ev_cells (hF8.sm.at_ HB.out (fun h => h))
  have hb8 := hF8.bs
  clear hout hown hlit hF7' p47 p57 p67 p77
  go_wp2_with fail
  go_region_held3 (fun w' => w'.cell? ⟨B, 6, none⟩ = some (.int .i64 key) ∧ w'.cell? ⟨B, 7, none⟩ = some (.string t)) (go_keep) (first | (go_at_call 45; ((with_reducible refine (rintb_s key (by omega) (by omega) _ M6 G6).mono ?_); rintro _ w9 ⟨A9, c9, rfl, R9⟩; have q96 := R9.sm.cell' q6 (fun h => h); have q97 := R9.sm.cell' q7 (fun h => h))) | (go_at_call 22; ((with_reducible refine (join_s _ _ _ _ _ _ N4 M6 N5 _ _ _ (hb8.drew.same R9.sm) R9.bs (by omega) H5).mono ?_); rintro _ w10 ⟨A10, c10, rfl, R10⟩; have q106 := R10.sm.cell' q96 (fun h => h); have q107 := R10.sm.cell' q97 (fun h => h))) | (go_at_call 46; ((with_reducible refine (rtextb_s t (by omega) _ M7 G7).mono ?_); rintro _ w11 ⟨A11, c11, rfl, R11⟩; have q116 := R11.sm.cell' q106 (fun h => h); have q117 := R11.sm.cell' q107 (fun h => h))) | (go_at_call 22; ((with_reducible refine (join_s _ _ _ _ _ _ N5 M7 N6 _ _ _ (R10.bs.same R11.sm) R11.bs (by omega) H6).mono ?_); rintro _ w12 ⟨A12, c12, rfl, R12⟩; have q126 := R12.sm.cell' q116 (fun h => h); have q127 := R12.sm.cell' q117 (fun h => h))))
  all_goals
    go_wp2_with fail
    go_ret
    exact ⟨_, rfl, fresh_since (hsame.trans ((((hF8.sm.drew).trans R9.sm).trans R10.sm).trans R11.sm)) R12⟩
end Go.Proofs.Ytdkankiohoocaaa
