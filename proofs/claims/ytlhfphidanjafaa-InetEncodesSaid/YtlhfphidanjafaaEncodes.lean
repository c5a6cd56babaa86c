/- InetEncodes: the walk of the statement. -/
import Derived.Test.YtlhfphidanjafaaRef09b
import Derived.Test.YtlhfphidanjafaaOwned
import Derived.Test.YtlhfphidanjafaaAwake
set_option linter.unusedVariables false
set_option linter.unusedSimpArgs false
namespace Go.Proofs.Ytlhfphidanjafaa
open Go.RowKit

/-- how memory stands in the statement: two boxes, what came out -/
structure Law9 (w W : World) (hs gs : List Value) (L : List (Value × List UInt8)) : Prop where
  x4 : Blk W w.heap.size 27 hs
  x6 : Blk W (w.heap.size + 1) 27 gs
  old : Below w.heap.size w W
  pool : Pool W w.heap.size L
theorem Law9.below {w W W' : World} {hs gs : List Value} {L : List (Value × List UInt8)} (h : Law9 w W hs gs L) (hb : Below W.heap.size W W') : Law9 w W' hs gs L :=
  ⟨h.x4.beyond hb, h.x6.beyond hb, below_then' h.old h.old.size hb, h.pool.below hb⟩
theorem Law9.add {w W W' : World} {hs gs : List Value} {L : List (Value × List UInt8)} (h : Law9 w W hs gs L) (hb : Below W.heap.size W W') {v : Value} {l : List UInt8} (hv : Own W' W.heap.size v l) : Law9 w W' hs gs (L ++ [(v, l)]) :=
  ⟨h.x4.beyond hb, h.x6.beyond hb, below_then' h.old h.old.size hb, h.pool.add h.old.size hb hv⟩
theorem Law9.lent {w W W' : World} {hs gs : List Value} {L1 L2 : List (Value × List UInt8)} {g k : Nat} {l : List UInt8} (h : Law9 w W hs gs (L1 ++ (.slice (some ⟨g, 0, none⟩) k k, l) :: L2)) (f : Fr (· = g) W W') : Law9 w W' hs gs (L1 ++ L2) := by
  have hm : (Value.slice (some ⟨g, 0, none⟩) k k, l) ∈ L1 ++ (.slice (some ⟨g, 0, none⟩) k k, l) :: L2 := by simp
  have ho := h.pool.own _ hm
  have f' : Fr (fun b => (Value.slice (some ⟨g, 0, none⟩) k k).ownBlock = some b) W W' := f.mono fun b _ e => by subst e; rfl
  exact ⟨h.x4.fr f fun e => owns_blk ho h.x4 (by decide) (by rw [e]; rfl), h.x6.fr f fun e => owns_blk ho h.x6 (by decide) (by rw [e]; rfl),
    f.on_below h.old h.old.size fun b hb e => by subst e; have := (owns_lt ho (g := b) rfl).1; omega, h.pool.drop1 f'⟩

theorem encL_le (h : Hd) (l : List UInt8) : (encL h l).length ≤ 1500 := by
  unfold encL
  by_cases hb : h.bad
  · simp [encE, hb]
  by_cases h2 : 1480 < l.length
  · simp [encE, hb, h2]
  simp [encE, hb, h2, encB_length]; omega
theorem lent_reads {w : World} {base g k : Nat} {l : List UInt8} (h : Own w base (.slice (some ⟨g, 0, none⟩) k k) (l ++ [71, 72])) : RA w (some ⟨g, 0, none⟩) l := by
  simpa using h.buf.reads 0 l.length (by simp)
set_option maxRecDepth 100000 in
set_option maxHeartbeats 4000000 in
theorem InetEncodes_any (h g : Hd) (hw : h.wf) (gw : g.wf) (A : Option Addr) (l : List UInt8) (n c : Nat) (C : Option Addr) (m : List UInt8) (k d : Nat) (w : World) (hn : n = l.length) (hA : RA w A l) (hc : n ≤ c) (hcm : c ≤ 9223372036854775807) (hl : n ≤ 140737488351232)
    (hk : k = m.length) (hC : RA w C m) (hd : k ≤ d) (hdm : d ≤ 9223372036854775807) (hm : k ≤ 140737488351232) :
    Calls Try.prog 4 #[h.val, .slice A n c, g.val, .slice C k d] w fun e w' => e = .returned (.bool true) ∧ Below w.heap.size w w' := by
  subst hn hk
  have EH := fun W => @rEncode_any h hw A l l.length c W rfl
  have EG := fun W => @rEncode_any g gw C m m.length d W rfl
  have FH := fun B c W => @Encode_any h hw B l l.length c W rfl
  have FG := fun B c W => @Encode_any g gw B m m.length c W rfl
  have hL1 := encL_le h l
  have hL2 := encL_le g m
  generalize encE h l.length = e1 at EH FH
  generalize encL h l = L1 at EH FH hL1
  generalize encE g m.length = e2 at EG FG
  generalize encL g m = L2 at EG FG hL2
  obtain ⟨tos, id, ttl, proto, keep, src, dst⟩ := h
  obtain ⟨tos', id', ttl', proto', keep', src', dst'⟩ := g
  unfold Hd.val at *
  simp only at EH EG FH FG ⊢
  have EH' := Lib.hid EH
  have EG' := Lib.hid EG
  have FH' := Lib.hid FH
  have FG' := Lib.hid FG
  have HA := Lib.hid hA
  have HC := Lib.hid hC
  clear EH EG FH FG hA hC hw gw
  have hX4 : Blk ((w.alloc (.cells #[.int .i64 tos, .int .i64 id, .int .i64 ttl, .int .i64 proto, .bool keep, .int .u32 src, .int .u32 dst] 27)).alloc (.cells #[.int .i64 tos', .int .i64 id', .int .i64 ttl', .int .i64 proto', .bool keep', .int .u32 src', .int .u32 dst'] 27)) w.heap.size 27 [.int .i64 tos, .int .i64 id, .int .i64 ttl, .int .i64 proto, .bool keep, .int .u32 src, .int .u32 dst] := (Blk.new w _ _).alloc _
  have hX6 : Blk ((w.alloc (.cells #[.int .i64 tos, .int .i64 id, .int .i64 ttl, .int .i64 proto, .bool keep, .int .u32 src, .int .u32 dst] 27)).alloc (.cells #[.int .i64 tos', .int .i64 id', .int .i64 ttl', .int .i64 proto', .bool keep', .int .u32 src', .int .u32 dst'] 27)) (w.heap.size + 1) 27 [.int .i64 tos', .int .i64 id', .int .i64 ttl', .int .i64 proto', .bool keep', .int .u32 src', .int .u32 dst'] := by
    have := Blk.new (w.alloc (.cells #[.int .i64 tos, .int .i64 id, .int .i64 ttl, .int .i64 proto, .bool keep, .int .u32 src, .int .u32 dst] 27)) 27 [.int .i64 tos', .int .i64 id', .int .i64 ttl', .int .i64 proto', .bool keep', .int .u32 src', .int .u32 dst']
    simpa using this
  have S0 : Law9 w _ _ _ [] := ⟨hX4, hX6, ((Below.refl _ _).alloc (Nat.le_refl _) _).alloc (by simp) _, Pool.nil _ _⟩
  have T0 := Lib.hid S0
  clear hX4 hX6 S0
  go_enter Try.func4, Try.ntmps4
  go_wp2_with fail
  generalize (w.alloc (.cells #[.int .i64 tos, .int .i64 id, .int .i64 ttl, .int .i64 proto, .bool keep, .int .u32 src, .int .u32 dst] 27)).alloc (.cells #[.int .i64 tos', .int .i64 id', .int .i64 ttl', .int .i64 proto', .bool keep', .int .u32 src', .int .u32 dst'] 27) = W0 at T0 ⊢
  refine (awake_any _).mono ?_
  rintro e w1 ⟨rfl, hb1⟩
  have T1 := Lib.hid (T0.out.below hb1)
  clear T0 hb1
  have k0 := (T1.out).x4.cell 0
  have k1 := (T1.out).x4.cell 1
  have k2 := (T1.out).x4.cell 2
  have k3 := (T1.out).x4.cell 3
  have k4 := (T1.out).x4.cell 4
  have k5 := (T1.out).x4.cell 5
  have k6 := (T1.out).x4.cell 6
  simp only [List.getElem?_cons_zero, List.getElem?_cons_succ] at k0 k1 k2 k3 k4 k5 k6
  go_wp2_with fail
  clear k0 k1 k2 k3 k4 k5 k6
  refine (EH'.out _ (HA.out.below T1.out.old) hc hcm hl).mono ?_
  rintro e w2 ⟨v2, rfl, ho, hb⟩
  have T2 := Lib.hid (T1.out.add hb ho)
  obtain ⟨A2, c2, rfl, hr2, _, _⟩ := ho.form
  clear T1 hb ho hr2
  have k0 := (T2.out).x6.cell 0
  have k1 := (T2.out).x6.cell 1
  have k2 := (T2.out).x6.cell 2
  have k3 := (T2.out).x6.cell 3
  have k4 := (T2.out).x6.cell 4
  have k5 := (T2.out).x6.cell 5
  have k6 := (T2.out).x6.cell 6
  simp only [List.getElem?_cons_zero, List.getElem?_cons_succ] at k0 k1 k2 k3 k4 k5 k6
  go_wp2_with fail
  clear k0 k1 k2 k3 k4 k5 k6
  refine (EG'.out _ (HC.out.below T2.out.old) hd hdm hm).mono ?_
  rintro e w3 ⟨v3, rfl, ho, hb⟩
  have T3 := Lib.hid (T2.out.add hb ho)
  obtain ⟨A3, c3, rfl, hr3, _, _⟩ := ho.form
  clear T2 hb ho hr3
  go_wp2_with fail
  refine (Lent_any A l l.length c _ rfl (HA.out.below T3.out.old) hl).mono ?_
  rintro e w4 ⟨rfl, hB, hb⟩
  have T4 := Lib.hid (T3.out.add hb (hB.whole (base := w3.heap.size) (n := l.length + 2) (Nat.le_refl _) (by simp) (by simp only [maxLen]; omega)))
  clear T3 hb hB
  go_wp2_with fail
  refine (Lent_any C m m.length d _ rfl (HC.out.below T4.out.old) hm).mono ?_
  rintro e w5 ⟨rfl, hB, hb⟩
  have T5 := Lib.hid (T4.out.add hb (hB.whole (base := w4.heap.size) (n := m.length + 2) (Nat.le_refl _) (by simp) (by simp only [maxLen]; omega)))
  clear T4 hb hB
  have k0 := (T5.out).x4.cell 0
  have k1 := (T5.out).x4.cell 1
  have k2 := (T5.out).x4.cell 2
  have k3 := (T5.out).x4.cell 3
  have k4 := (T5.out).x4.cell 4
  have k5 := (T5.out).x4.cell 5
  have k6 := (T5.out).x4.cell 6
  simp only [List.getElem?_cons_zero, List.getElem?_cons_succ] at k0 k1 k2 k3 k4 k5 k6
  go_wp2_with fail
  clear k0 k1 k2 k3 k4 k5 k6
  refine (FH'.out _ _ _ (lent_reads (T5.out.pool.own (.slice (some ⟨w3.heap.size, 0, none⟩) (l.length + 2) (l.length + 2), l ++ [71, 72]) (by simp))) (by omega) (by omega) hl).mono ?_
  rintro e w6 ⟨v6, rfl, ho, hb⟩
  have T6 := Lib.hid (T5.out.add hb ho)
  obtain ⟨A6, c6, rfl, hr6, _, _⟩ := ho.form
  clear T5 hb ho hr6
  have k0 := (T6.out).x6.cell 0
  have k1 := (T6.out).x6.cell 1
  have k2 := (T6.out).x6.cell 2
  have k3 := (T6.out).x6.cell 3
  have k4 := (T6.out).x6.cell 4
  have k5 := (T6.out).x6.cell 5
  have k6 := (T6.out).x6.cell 6
  simp only [List.getElem?_cons_zero, List.getElem?_cons_succ] at k0 k1 k2 k3 k4 k5 k6
  go_wp2_with fail
  clear k0 k1 k2 k3 k4 k5 k6
  refine (FG'.out _ _ _ (lent_reads (T6.out.pool.own (.slice (some ⟨w4.heap.size, 0, none⟩) (m.length + 2) (m.length + 2), m ++ [71, 72]) (by simp))) (by omega) (by omega) hm).mono ?_
  rintro e w7 ⟨v7, rfl, ho, hb⟩
  have T7 := Lib.hid (T6.out.add hb ho)
  obtain ⟨A7, c7, rfl, hr7, _, _⟩ := ho.form
  clear T6 hb ho hr7
  have k0 := (T7.out).x4.cell 0
  have k1 := (T7.out).x4.cell 1
  have k2 := (T7.out).x4.cell 2
  have k3 := (T7.out).x4.cell 3
  have k4 := (T7.out).x4.cell 4
  have k5 := (T7.out).x4.cell 5
  have k6 := (T7.out).x4.cell 6
  simp only [List.getElem?_cons_zero, List.getElem?_cons_succ] at k0 k1 k2 k3 k4 k5 k6
  go_wp2_with fail
  clear k0 k1 k2 k3 k4 k5 k6
  refine (FH'.out _ _ _ (lent_reads (T7.out.pool.own (.slice (some ⟨w3.heap.size, 0, none⟩) (l.length + 2) (l.length + 2), l ++ [71, 72]) (by simp))) (by omega) (by omega) hl).mono ?_
  rintro e w8 ⟨v8, rfl, ho, hb⟩
  have T8 := Lib.hid (T7.out.add hb ho)
  obtain ⟨A8, c8, rfl, hr8, _, _⟩ := ho.form
  clear T7 hb ho hr8
  go_wp2_with fail
  refine (AsLent_any _ A l l.length _ c _ rfl rfl (T8.out.pool.own (.slice (some ⟨w3.heap.size, 0, none⟩) (l.length + 2) (l.length + 2), l ++ [71, 72]) (by simp)).buf (HA.out.below T8.out.old) hl).mono ?_
  rintro e w9 ⟨rfl, hf⟩
  have T9 := Lib.hid (Law9.lent (L1 := [_, _]) T8.out hf)
  clear T8 hf
  go_wp2_with fail
  refine (AsLent_any _ C m m.length _ d _ rfl rfl (T9.out.pool.own (.slice (some ⟨w4.heap.size, 0, none⟩) (m.length + 2) (m.length + 2), m ++ [71, 72]) (by simp)).buf (HC.out.below T9.out.old) hm).mono ?_
  rintro e w10 ⟨rfl, hf⟩
  have T10 := Lib.hid (Law9.lent (L1 := [_, _]) T9.out hf)
  clear T9 hf
  have s2 := conv_str L1.length c2 rfl (T10.out.pool.own (.slice A2 L1.length c2, L1) (by simp)).ra
  have s3 := conv_str L2.length c3 rfl (T10.out.pool.own (.slice A3 L2.length c3, L2) (by simp)).ra
  have s6 := conv_str L1.length c6 rfl (T10.out.pool.own (.slice A6 L1.length c6, L1) (by simp)).ra
  have s7 := conv_str L2.length c7 rfl (T10.out.pool.own (.slice A7 L2.length c7, L2) (by simp)).ra
  have s8 := conv_str L1.length c8 rfl (T10.out.pool.own (.slice A8 L1.length c8, L1) (by simp)).ra
  have hbk := BookAt.empty w10 w.heap.size 37
  have B0 := Lib.hid hbk
  clear hbk
  go_wp2_with fail
  have P0 := Lib.hid (T10.out.pool.below ((Below.refl _ _).alloc (Nat.le_refl _) (.cells #[.slice none 0 0, .slice none 0 0] 37)))
  have O0 := Lib.hid (T10.out.old.alloc T10.out.old.size (.cells #[.slice none 0 0, .slice none 0 0] 37))
  have K0 : w.heap.size ≤ w10.heap.size := T10.out.old.size
  have Z0 : Hid (w.heap.size ≤ (w10.alloc (.cells #[.slice none 0 0, .slice none 0 0] 37)).heap.size) := Lib.hid (by simp; omega)
  clear s2 s3 s6 s7 s8 T10
  refine (Take_any w.heap.size w10.heap.size 37 _ 0 [] A6 L1 _ c6 _ B0.out Z0.out (by decide) (by decide) (by decide) rfl (P0.out.own (.slice A6 (L1).length c6, L1) (by simp)).ra (P0.out.own (.slice A6 (L1).length c6, L1) (by simp)).ty8 (by simp) (by omega)).mono ?_
  rintro e v1 ⟨rfl, cs1, _, _, hb, hf⟩
  have hl := law_take P0.out O0.out Z0.out B0.out.blk K0 (by decide) hf
  have B1 := Lib.hid hb
  have P1 := Lib.hid hl.1
  have O1 := Lib.hid hl.2.1
  have Z1 := Lib.hid hl.2.2
  clear hb hf hl B0 P0 O0 Z0
  go_wp2_with fail
  refine (Take_any w.heap.size w10.heap.size 37 _ 0 ([] ++ [(.slice A6 L1.length c6, L1)]) A7 L2 _ c7 _ B1.out Z1.out (by decide) (by decide) (by decide) rfl (P1.out.own (.slice A7 (L2).length c7, L2) (by simp)).ra (P1.out.own (.slice A7 (L2).length c7, L2) (by simp)).ty8 (by simp) (by omega)).mono ?_
  rintro e v2 ⟨rfl, cs2, _, _, hb, hf⟩
  have hl := law_take P1.out O1.out Z1.out B1.out.blk K0 (by decide) hf
  have B2 := Lib.hid hb
  have P2 := Lib.hid hl.1
  have O2 := Lib.hid hl.2.1
  have Z2 := Lib.hid hl.2.2
  clear hb hf hl B1 P1 O1 Z1
  go_wp2_with fail
  refine (Take_any w.heap.size w10.heap.size 37 _ 0 ([] ++ [(.slice A6 L1.length c6, L1)] ++ [(.slice A7 L2.length c7, L2)]) A8 L1 _ c8 _ B2.out Z2.out (by decide) (by decide) (by decide) rfl (P2.out.own (.slice A8 (L1).length c8, L1) (by simp)).ra (P2.out.own (.slice A8 (L1).length c8, L1) (by simp)).ty8 (by simp) (by omega)).mono ?_
  rintro e v3 ⟨rfl, cs3, _, _, hb, hf⟩
  have hl := law_take P2.out O2.out Z2.out B2.out.blk K0 (by decide) hf
  have B3 := Lib.hid hb
  have P3 := Lib.hid hl.1
  have O3 := Lib.hid hl.2.1
  have Z3 := Lib.hid hl.2.2
  clear hb hf hl B2 P2 O2 Z2
  go_wp2_with fail
  have hP := Pool.right (L := [(.slice A2 L1.length c2, L1), (.slice A3 L2.length c3, L2)]) (M := [(.slice A6 L1.length c6, L1), (.slice A7 L2.length c7, L2), (.slice A8 L1.length c8, L1)]) P3.out
  refine (Owned_any w.heap.size _ _ cs3 0 [(.slice A6 L1.length c6, L1), (.slice A7 L2.length c7, L2), (.slice A8 L1.length c8, L1)] _ B3.out hP (by decide) Z3.out (by simp) (by simp; omega)).mono ?_
  rintro e w11 ⟨rfl, hf⟩
  have hO := hf.on_below O3.out Z3.out (fun b hb ⟨x, hx, he⟩ => by have := (hP.lt hx he).1; omega)
  clear hP hf
  go_wp2
  go_ret
  exact ⟨rfl, hO⟩
end Go.Proofs.Ytlhfphidanjafaa
