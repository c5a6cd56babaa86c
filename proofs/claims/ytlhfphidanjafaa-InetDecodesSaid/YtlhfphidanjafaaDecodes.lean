/- InetDecodes: the walk of the statement. -/
import Derived.Test.YtlhfphidanjafaaRef09d
import Derived.Test.YtlhfphidanjafaaOwned
import Derived.Test.YtlhfphidanjafaaAwake
set_option linter.unusedVariables false
set_option linter.unusedSimpArgs false
namespace Go.Proofs.Ytlhfphidanjafaa
open Go.RowKit

theorem rdec_bad {A : Option Addr} {l : List UInt8} {n c : Nat} {w : World} (k : Nat) (hk : decE l = k) (h0 : ¬ k = 0)
    (h : Calls Try.prog 15 #[.slice A n c] w fun e w' => e = .returned (.tuple #[.agg z7.toArray, .slice none 0 0, .int .i64 k]) ∧ Below w.heap.size w w') :
    Calls Try.prog 15 #[.slice A n c] w fun e w' => ∃ v, e = .returned (.tuple #[(decH l).val, v, .int .i64 (decE l)]) ∧ Own w' w.heap.size v (decL l) ∧ Below w.heap.size w w' := by
  refine h.mono ?_
  rintro e w' ⟨rfl, hw'⟩
  subst hk
  refine ⟨.slice none 0 0, ?_, ?_, hw'⟩
  · simp [decH, h0, hd0, Hd.val, z7]
  · simp only [decL, if_neg h0]; exact Own.nil _ _

theorem rDecode_any (A : Option Addr) (l : List UInt8) (n c : Nat) (w : World) (hn : n = l.length) (hA : RA w A l) (hc : n ≤ c) (hcm : c ≤ 9223372036854775807) (hbig : n ≤ 140737488351232) :
    Calls Try.prog 15 #[.slice A n c] w fun e w' => ∃ v, e = .returned (.tuple #[(decH l).val, v, .int .i64 (decE l)]) ∧ Own w' w.heap.size v (decL l) ∧ Below w.heap.size w w' := by
  subst hn
  by_cases hl : l.length < 20
  · exact rdec_bad 5 (by simp [decE, hl]) (by omega) (rDecode_short A l.length c w hl)
  have hl' : 20 ≤ l.length := by omega
  have g0 : l.getD 0 0 = l[0] := by simp [List.getD, List.getElem?_eq_getElem (show 0 < l.length by omega)]
  have g1 : l.getD 1 0 = l[1] := by simp [List.getD, List.getElem?_eq_getElem (show 1 < l.length by omega)]
  have g8 : l.getD 8 0 = l[8] := by simp [List.getD, List.getElem?_eq_getElem (show 8 < l.length by omega)]
  have g9 : l.getD 9 0 = l[9] := by simp [List.getD, List.getElem?_eq_getElem (show 9 < l.length by omega)]
  by_cases h1 : l[0].toNat / 16 = 4
  case neg => exact rdec_bad 90 (by simp only [decE, g0]; rw [if_neg hl, if_pos h1]) (by omega) (rDecode_version A l c w hA hc hcm hl' hbig h1)
  by_cases h2 : l[0].toNat % 16 ≤ 5
  case neg => exact rdec_bad 91 (by simp only [decE, g0]; rw [if_neg hl, if_neg (not_not_intro h1), if_pos h2]) (by omega) (rDecode_options A l c w hA hc hcm hl' hbig h1 h2)
  by_cases h3 : l[0].toNat % 16 = 5 ∧ 20 ≤ ofBe ((l.drop 2).take 2) ∧ ofBe ((l.drop 2).take 2) ≤ l.length
  case neg => exact rdec_bad 92 (by simp only [decE, g0]; rw [if_neg hl, if_neg (not_not_intro h1), if_neg (not_not_intro h2), if_pos h3]) (by omega) (rDecode_length A l c w hA hc hcm hl' hbig h1 h2 h3)
  have hh : headOk l hl' := ⟨h1, h3⟩
  by_cases h4 : csum (l.take 20) = 0
  case neg => exact rdec_bad 93 (by simp only [decE, g0]; rw [if_neg hl, if_neg (not_not_intro h1), if_neg (not_not_intro h2), if_neg (not_not_intro h3), if_pos h4]) (by omega) (rDecode_sum A l c w hA hc hcm hl' hbig hh h4)
  by_cases h5 : ofBe ((l.drop 6).take 2) % 16384 = 0
  case neg => exact rdec_bad 94 (by simp only [decE, g0]; rw [if_neg hl, if_neg (not_not_intro h1), if_neg (not_not_intro h2), if_neg (not_not_intro h3), if_neg (not_not_intro h4), if_pos h5]) (by omega) (rDecode_fragment A l c w hA hc hcm hl' hbig hh h4 h5)
  by_cases h6 : l[8].toNat = 0
  case pos => exact rdec_bad 95 (by simp only [decE, g0, g8]; rw [if_neg hl, if_neg (not_not_intro h1), if_neg (not_not_intro h2), if_neg (not_not_intro h3), if_neg (not_not_intro h4), if_neg (not_not_intro h5), if_pos h6]) (by omega) (rDecode_ttl A l c w hA hc hcm hl' hbig hh h4 h5 h6)
  have hE : decE l = 0 := by simp only [decE, g0, g8]; rw [if_neg hl, if_neg (not_not_intro h1), if_neg (not_not_intro h2), if_neg (not_not_intro h3), if_neg (not_not_intro h4), if_neg (not_not_intro h5), if_neg h6]
  refine (rDecode_ok A l c w hA hc hcm hl' hbig hh h4 h5 h6).mono ?_
  rintro e w' ⟨v, rfl, hv, hw'⟩
  refine ⟨v, ?_, ?_, hw'⟩
  · simp only [decH, if_pos hE, hE, Hd.val, g1, g8, g9]; rfl
  · simp only [decL, if_pos hE]; exact hv

/-- how memory stands in the statement: boxes of heads, what came out -/
structure LawD (w W : World) (bx : List (Nat × List Value)) (L : List (Value × List UInt8)) : Prop where
  box : ∀ b ∈ bx, Blk W b.1 27 b.2
  old : Below w.heap.size w W
  pool : Pool W w.heap.size L
section
variable {w W W' : World} {bx : List (Nat × List Value)} {L : List (Value × List UInt8)}
theorem LawD.below (h : LawD w W bx L) (hb : Below W.heap.size W W') : LawD w W' bx L := ⟨fun b hb' => (h.box b hb').beyond hb, below_then' h.old h.old.size hb, h.pool.below hb⟩
theorem LawD.add (h : LawD w W bx L) (hb : Below W.heap.size W W') {v : Value} {l : List UInt8} (hv : Own W' W.heap.size v l) : LawD w W' bx (L ++ [(v, l)]) :=
  ⟨fun b hb' => (h.box b hb').beyond hb, below_then' h.old h.old.size hb, h.pool.add h.old.size hb hv⟩
theorem LawD.boxed (h : LawD w W bx L) (cs : List Value) : LawD w (W.alloc (.cells cs.toArray 27)) (bx ++ [(W.heap.size, cs)]) L := by
  have h1 := h.below ((Below.refl _ W).alloc (Nat.le_refl _) (.cells cs.toArray 27))
  refine ⟨fun b hb => ?_, h1.old, h1.pool⟩
  rcases List.mem_append.1 hb with hb | hb
  · exact h1.box b hb
  · obtain rfl : b = (W.heap.size, cs) := by simpa using hb
    exact Blk.new W _ _
theorem LawD.lent {L1 L2 : List (Value × List UInt8)} {g k : Nat} {l : List UInt8} (h : LawD w W bx (L1 ++ (.slice (some ⟨g, 0, none⟩) k k, l) :: L2)) (f : Fr (· = g) W W') : LawD w W' bx (L1 ++ L2) := by
  have hm : (Value.slice (some ⟨g, 0, none⟩) k k, l) ∈ L1 ++ (.slice (some ⟨g, 0, none⟩) k k, l) :: L2 := by simp
  have ho := h.pool.own _ hm
  have f' : Fr (fun b => (Value.slice (some ⟨g, 0, none⟩) k k).ownBlock = some b) W W' := f.mono fun b _ e => by subst e; rfl
  exact ⟨fun b hb => (h.box b hb).fr f fun e => owns_blk ho (h.box b hb) (by decide) (by rw [e]; rfl), f.on_below h.old h.old.size fun b hb e => by subst e; have := (owns_lt ho (g := b) rfl).1; omega, h.pool.drop1 f'⟩
end
theorem decL_le (l : List UInt8) : (decL l).length ≤ l.length := by
  unfold decL
  split
  · simp; omega
  · simp
theorem lent_reads' {w : World} {base g k : Nat} {l : List UInt8} (h : Own w base (.slice (some ⟨g, 0, none⟩) k k) (l ++ [71, 72])) : RA w (some ⟨g, 0, none⟩) l := by
  simpa using h.buf.reads 0 l.length (by simp)

set_option maxRecDepth 100000 in
set_option maxHeartbeats 4000000 in
theorem InetDecodes_any (A : Option Addr) (l : List UInt8) (n c : Nat) (C : Option Addr) (m : List UInt8) (k d : Nat) (w : World) (hn : n = l.length) (hA : RA w A l) (hc : n ≤ c) (hcm : c ≤ 9223372036854775807) (hl : n ≤ 140737488351232)
    (hk : k = m.length) (hC : RA w C m) (hd : k ≤ d) (hdm : d ≤ 9223372036854775807) (hm : k ≤ 140737488351232) :
    Calls Try.prog 5 #[.slice A n c, .slice C k d] w fun e w' => e = .returned (.bool true) ∧ Below w.heap.size w w' := by
  subst hn hk
  have EH := fun W => @rDecode_any A l l.length c W rfl
  have EG := fun W => @rDecode_any C m m.length d W rfl
  have FH := fun B c W => @Decode_any B l l.length c W rfl
  have FG := fun B c W => @Decode_any B m m.length c W rfl
  have hL1 := decL_le l
  have hL2 := decL_le m
  generalize decE l = e1 at EH FH
  generalize decL l = L1 at EH FH hL1
  generalize decH l = H1 at EH FH
  generalize decE m = e2 at EG FG
  generalize decL m = L2 at EG FG hL2
  generalize decH m = H2 at EG FG
  obtain ⟨tos, id, ttl, proto, keep, src, dst⟩ := H1
  obtain ⟨tos', id', ttl', proto', keep', src', dst'⟩ := H2
  unfold Hd.val at EH EG FH FG
  simp only at EH EG FH FG ⊢
  have EH' := Lib.hid EH
  have EG' := Lib.hid EG
  have FH' := Lib.hid FH
  have FG' := Lib.hid FG
  have HA := Lib.hid hA
  have HC := Lib.hid hC
  have T0 : Hid (LawD w w [] []) := Lib.hid ⟨fun b hb => by simp at hb, Below.refl _ _, Pool.nil _ _⟩
  clear EH EG FH FG hA hC
  go_enter Try.func5, Try.ntmps5
  go_wp2_with fail
  refine (awake_any _).mono ?_
  rintro e w1 ⟨rfl, hb1⟩
  have T1 := Lib.hid (T0.out.below hb1)
  clear T0 hb1
  go_wp2_with fail
  refine (EH'.out _ (HA.out.below T1.out.old) hc hcm hl).mono ?_
  rintro e w2 ⟨v2, rfl, ho, hb⟩
  have U2 := Lib.hid ((T1.out.add hb ho).boxed [.int .i64 tos, .int .i64 id, .int .i64 ttl, .int .i64 proto, .bool keep, .int .u32 src, .int .u32 dst])
  obtain ⟨A2, c2, rfl, _, _, _⟩ := ho.form
  clear ho hb T1
  go_wp2_with fail
  have T2 := U2
  clear U2
  generalize w2.alloc (.cells ([.int .i64 tos, .int .i64 id, .int .i64 ttl, .int .i64 proto, .bool keep, .int .u32 src, .int .u32 dst]).toArray 27) = y2 at T2 ⊢
  refine (EG'.out _ (HC.out.below T2.out.old) hd hdm hm).mono ?_
  rintro e w3 ⟨v3, rfl, ho, hb⟩
  have U3 := Lib.hid ((T2.out.add hb ho).boxed [.int .i64 tos', .int .i64 id', .int .i64 ttl', .int .i64 proto', .bool keep', .int .u32 src', .int .u32 dst'])
  obtain ⟨A3, c3, rfl, _, _, _⟩ := ho.form
  clear ho hb T2
  go_wp2_with fail
  have T3 := U3
  clear U3
  generalize w3.alloc (.cells ([.int .i64 tos', .int .i64 id', .int .i64 ttl', .int .i64 proto', .bool keep', .int .u32 src', .int .u32 dst']).toArray 27) = y3 at T3 ⊢
  refine (Lent_any A l l.length c _ rfl (HA.out.below T3.out.old) hl).mono ?_
  rintro e w4 ⟨rfl, hB, hb⟩
  have T4 := Lib.hid (T3.out.add hb (hB.whole (base := y3.heap.size) (n := l.length + 2) (Nat.le_refl _) (by simp) (by simp only [maxLen]; omega)))
  clear T3 hb hB
  go_wp2_with fail
  refine (Lent_any C m m.length d _ rfl (HC.out.below T4.out.old) hm).mono ?_
  rintro e w5 ⟨rfl, hB, hb⟩
  have T5 := Lib.hid (T4.out.add hb (hB.whole (base := w4.heap.size) (n := m.length + 2) (Nat.le_refl _) (by simp) (by simp only [maxLen]; omega)))
  clear T4 hb hB
  go_wp2_with fail
  refine (FH'.out _ _ _ (lent_reads' (T5.out.pool.own (.slice (some ⟨y3.heap.size, 0, none⟩) (l.length + 2) (l.length + 2), l ++ [71, 72]) (by simp))) (by omega) (by omega)).mono ?_
  rintro e w6 ⟨v6, rfl, ho, hb⟩
  have U6 := Lib.hid ((T5.out.add hb ho).boxed [.int .i64 tos, .int .i64 id, .int .i64 ttl, .int .i64 proto, .bool keep, .int .u32 src, .int .u32 dst])
  obtain ⟨A6, c6, rfl, _, _, _⟩ := ho.form
  clear ho hb T5
  go_wp2_with fail
  have T6 := U6
  clear U6
  generalize w6.alloc (.cells ([.int .i64 tos, .int .i64 id, .int .i64 ttl, .int .i64 proto, .bool keep, .int .u32 src, .int .u32 dst]).toArray 27) = y6 at T6 ⊢
  refine (FG'.out _ _ _ (lent_reads' (T6.out.pool.own (.slice (some ⟨w4.heap.size, 0, none⟩) (m.length + 2) (m.length + 2), m ++ [71, 72]) (by simp))) (by omega) (by omega)).mono ?_
  rintro e w7 ⟨v7, rfl, ho, hb⟩
  have U7 := Lib.hid ((T6.out.add hb ho).boxed [.int .i64 tos', .int .i64 id', .int .i64 ttl', .int .i64 proto', .bool keep', .int .u32 src', .int .u32 dst'])
  obtain ⟨A7, c7, rfl, _, _, _⟩ := ho.form
  clear ho hb T6
  go_wp2_with fail
  have T7 := U7
  clear U7
  generalize w7.alloc (.cells ([.int .i64 tos', .int .i64 id', .int .i64 ttl', .int .i64 proto', .bool keep', .int .u32 src', .int .u32 dst']).toArray 27) = y7 at T7 ⊢
  refine (FH'.out _ _ _ (lent_reads' (T7.out.pool.own (.slice (some ⟨y3.heap.size, 0, none⟩) (l.length + 2) (l.length + 2), l ++ [71, 72]) (by simp))) (by omega) (by omega)).mono ?_
  rintro e w8 ⟨v8, rfl, ho, hb⟩
  have U8 := Lib.hid ((T7.out.add hb ho).boxed [.int .i64 tos, .int .i64 id, .int .i64 ttl, .int .i64 proto, .bool keep, .int .u32 src, .int .u32 dst])
  obtain ⟨A8, c8, rfl, _, _, _⟩ := ho.form
  clear ho hb T7
  go_wp2_with fail
  have T8 := U8
  clear U8
  generalize w8.alloc (.cells ([.int .i64 tos, .int .i64 id, .int .i64 ttl, .int .i64 proto, .bool keep, .int .u32 src, .int .u32 dst]).toArray 27) = y8 at T8 ⊢
  refine (AsLent_any _ A l l.length _ c _ rfl rfl (T8.out.pool.own (.slice (some ⟨y3.heap.size, 0, none⟩) (l.length + 2) (l.length + 2), l ++ [71, 72]) (by simp)).buf (HA.out.below T8.out.old) hl).mono ?_
  rintro e w9 ⟨rfl, hf⟩
  have T9 := Lib.hid (LawD.lent (L1 := [_, _]) T8.out hf)
  clear T8 hf
  go_wp2_with fail
  refine (AsLent_any _ C m m.length _ d _ rfl rfl (T9.out.pool.own (.slice (some ⟨w4.heap.size, 0, none⟩) (m.length + 2) (m.length + 2), m ++ [71, 72]) (by simp)).buf (HC.out.below T9.out.old) hm).mono ?_
  rintro e w10 ⟨rfl, hf⟩
  have T10 := Lib.hid (LawD.lent (L1 := [_, _]) T9.out hf)
  clear T9 hf
  have s2 := conv_str L1.length c2 rfl (T10.out.pool.own (.slice A2 L1.length c2, L1) (by simp)).ra
  have s3 := conv_str L2.length c3 rfl (T10.out.pool.own (.slice A3 L2.length c3, L2) (by simp)).ra
  have s6 := conv_str L1.length c6 rfl (T10.out.pool.own (.slice A6 L1.length c6, L1) (by simp)).ra
  have s7 := conv_str L2.length c7 rfl (T10.out.pool.own (.slice A7 L2.length c7, L2) (by simp)).ra
  have s8 := conv_str L1.length c8 rfl (T10.out.pool.own (.slice A8 L1.length c8, L1) (by simp)).ra
  have b2 := T10.out.box (w2.heap.size, [.int .i64 tos, .int .i64 id, .int .i64 ttl, .int .i64 proto, .bool keep, .int .u32 src, .int .u32 dst]) (by simp)
  have b20 := b2.cell 0
  have b21 := b2.cell 1
  have b22 := b2.cell 2
  have b23 := b2.cell 3
  have b24 := b2.cell 4
  have b25 := b2.cell 5
  have b26 := b2.cell 6
  simp only [List.getElem?_cons_zero, List.getElem?_cons_succ] at b20 b21 b22 b23 b24 b25 b26
  clear b2
  have b3 := T10.out.box (w3.heap.size, [.int .i64 tos', .int .i64 id', .int .i64 ttl', .int .i64 proto', .bool keep', .int .u32 src', .int .u32 dst']) (by simp)
  have b30 := b3.cell 0
  have b31 := b3.cell 1
  have b32 := b3.cell 2
  have b33 := b3.cell 3
  have b34 := b3.cell 4
  have b35 := b3.cell 5
  have b36 := b3.cell 6
  simp only [List.getElem?_cons_zero, List.getElem?_cons_succ] at b30 b31 b32 b33 b34 b35 b36
  clear b3
  have b6 := T10.out.box (w6.heap.size, [.int .i64 tos, .int .i64 id, .int .i64 ttl, .int .i64 proto, .bool keep, .int .u32 src, .int .u32 dst]) (by simp)
  have b60 := b6.cell 0
  have b61 := b6.cell 1
  have b62 := b6.cell 2
  have b63 := b6.cell 3
  have b64 := b6.cell 4
  have b65 := b6.cell 5
  have b66 := b6.cell 6
  simp only [List.getElem?_cons_zero, List.getElem?_cons_succ] at b60 b61 b62 b63 b64 b65 b66
  clear b6
  have b7 := T10.out.box (w7.heap.size, [.int .i64 tos', .int .i64 id', .int .i64 ttl', .int .i64 proto', .bool keep', .int .u32 src', .int .u32 dst']) (by simp)
  have b70 := b7.cell 0
  have b71 := b7.cell 1
  have b72 := b7.cell 2
  have b73 := b7.cell 3
  have b74 := b7.cell 4
  have b75 := b7.cell 5
  have b76 := b7.cell 6
  simp only [List.getElem?_cons_zero, List.getElem?_cons_succ] at b70 b71 b72 b73 b74 b75 b76
  clear b7
  have b8 := T10.out.box (w8.heap.size, [.int .i64 tos, .int .i64 id, .int .i64 ttl, .int .i64 proto, .bool keep, .int .u32 src, .int .u32 dst]) (by simp)
  have b80 := b8.cell 0
  have b81 := b8.cell 1
  have b82 := b8.cell 2
  have b83 := b8.cell 3
  have b84 := b8.cell 4
  have b85 := b8.cell 5
  have b86 := b8.cell 6
  simp only [List.getElem?_cons_zero, List.getElem?_cons_succ] at b80 b81 b82 b83 b84 b85 b86
  clear b8
  obtain ⟨wB, hwB⟩ : ∃ wB : World, wB = w10 := ⟨_, rfl⟩
  subst hwB
  have hbk := BookAt.empty wB w.heap.size 37
  have B0 := Lib.hid hbk
  clear hbk
  go_wp2_with fail
  have P0 := Lib.hid (T10.out.pool.below ((Below.refl _ _).alloc (Nat.le_refl _) (.cells #[.slice none 0 0, .slice none 0 0] 37)))
  have O0 := Lib.hid (T10.out.old.alloc T10.out.old.size (.cells #[.slice none 0 0, .slice none 0 0] 37))
  have K0 : w.heap.size ≤ wB.heap.size := T10.out.old.size
  have Z0 : Hid (w.heap.size ≤ (wB.alloc (.cells #[.slice none 0 0, .slice none 0 0] 37)).heap.size) := Lib.hid (by simp; omega)
  clear s2 s3 s6 s7 s8 T10 b20 b21 b22 b23 b24 b25 b26 b30 b31 b32 b33 b34 b35 b36 b60 b61 b62 b63 b64 b65 b66 b70 b71 b72 b73 b74 b75 b76 b80 b81 b82 b83 b84 b85 b86
  refine (Take_any w.heap.size wB.heap.size 37 _ 0 [] A6 L1 _ c6 _ B0.out Z0.out (by decide) (by decide) (by decide) rfl (P0.out.own (.slice A6 (L1).length c6, L1) (by simp)).ra (P0.out.own (.slice A6 (L1).length c6, L1) (by simp)).ty8 (by simp) (by omega)).mono ?_
  rintro e v1 ⟨rfl, cs1, _, _, hb, hf⟩
  have hl := law_take P0.out O0.out Z0.out B0.out.blk K0 (by decide) hf
  have B1 := Lib.hid hb
  have P1 := Lib.hid hl.1
  have O1 := Lib.hid hl.2.1
  have Z1 := Lib.hid hl.2.2
  clear hb hf hl B0 P0 O0 Z0
  go_wp2_with fail
  refine (Take_any w.heap.size wB.heap.size 37 _ 0 ([] ++ [(.slice A6 L1.length c6, L1)]) A7 L2 _ c7 _ B1.out Z1.out (by decide) (by decide) (by decide) rfl (P1.out.own (.slice A7 (L2).length c7, L2) (by simp)).ra (P1.out.own (.slice A7 (L2).length c7, L2) (by simp)).ty8 (by simp) (by omega)).mono ?_
  rintro e v2 ⟨rfl, cs2, _, _, hb, hf⟩
  have hl := law_take P1.out O1.out Z1.out B1.out.blk K0 (by decide) hf
  have B2 := Lib.hid hb
  have P2 := Lib.hid hl.1
  have O2 := Lib.hid hl.2.1
  have Z2 := Lib.hid hl.2.2
  clear hb hf hl B1 P1 O1 Z1
  go_wp2_with fail
  refine (Take_any w.heap.size wB.heap.size 37 _ 0 ([] ++ [(.slice A6 L1.length c6, L1)] ++ [(.slice A7 L2.length c7, L2)]) A8 L1 _ c8 _ B2.out Z2.out (by decide) (by decide) (by decide) rfl (P2.out.own (.slice A8 (L1).length c8, L1) (by simp)).ra (P2.out.own (.slice A8 (L1).length c8, L1) (by simp)).ty8 (by simp) (by omega)).mono ?_
  rintro e v3 ⟨rfl, cs3, _, _, hb, hf⟩
  have hl := law_take P2.out O2.out Z2.out B2.out.blk K0 (by decide) hf
  have B3 := Lib.hid hb
  have P3 := Lib.hid hl.1
  have O3 := Lib.hid hl.2.1
  have Z3 := Lib.hid hl.2.2
  clear hb hf hl B2 P2 O2 Z2
  go_wp2_with fail
  have hP := Pool.right (L := [(.slice A2 L1.length c2, L1), (.slice A3 L2.length c3, L2)]) (M := [(.slice A6 L1.length c6, L1), (.slice A7 L2.length c7, L2), (.slice A8 L1.length c8, L1)]) P3.out
  refine (Owned_any w.heap.size _ _ cs3 0 [(.slice A6 L1.length c6, L1), (.slice A7 L2.length c7, L2), (.slice A8 L1.length c8, L1)] _ B3.out hP (by decide) Z3.out (by simp) (by simp; omega)).mono ?_
  rintro e w11 ⟨rfl, hf⟩
  have hO := hf.on_below O3.out Z3.out (fun b hb ⟨x, hx, he⟩ => by have := (hP.lt hx he).1; omega)
  clear hP hf
  go_wp2
  go_ret
  exact ⟨rfl, hO⟩
end Go.Proofs.Ytlhfphidanjafaa
