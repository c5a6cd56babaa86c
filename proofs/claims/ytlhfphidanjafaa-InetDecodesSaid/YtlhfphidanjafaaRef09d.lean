/- slipwayref09.Decode where the head is right. -/
import Derived.Test.YtlhfphidanjafaaRef09c
import Derived.Outline
set_option linter.unusedVariables false
set_option linter.unusedSimpArgs false
namespace Go.Proofs.Ytlhfphidanjafaa
open Go.RowKit

set_option maxRecDepth 100000 in
set_option maxHeartbeats 4000000 in
theorem rDecode_ok (A : Option Addr) (l : List UInt8) (c : Nat) (w : World) (hA : RA w A l) (hc : l.length ≤ c) (hcm : c ≤ 9223372036854775807) (hl : 20 ≤ l.length) (hbig : l.length ≤ 140737488351232) (hh : headOk l hl) (h5 : csum (l.take 20) = 0)
    (h6 : ofBe ((l.drop 6).take 2) % 16384 = 0) (h7 : ¬ l[8].toNat = 0) :
    Calls Try.prog 15 #[.slice A l.length c] w fun e w' => ∃ v, e = .returned (.tuple #[.agg #[.int .i64 l[1].toNat, .int .i64 (ofBe ((l.drop 4).take 2)), .int .i64 l[8].toNat, .int .i64 l[9].toNat, .bool (decide (ofBe ((l.drop 6).take 2) / 16384 % 2 = 1)), .int .u32 (ofBe ((l.drop 12).take 4)), .int .u32 (ofBe ((l.drop 16).take 4))], v, .int .i64 0]) ∧
      Own w' w.heap.size v ((l.take (ofBe ((l.drop 2).take 2))).drop 20) ∧ Below w.heap.size w w' := by
  obtain ⟨h1, h2, h3, h4⟩ := hh
  have t1 : (((l[0].toNat : Int) / 16) != 4) = false := by simp; omega
  have t2 : ¬ (5 : Int) < (l[0].toNat : Int) % 16 := by omega
  have t3 : ¬ (l[0].toNat : Int) % 16 < 5 := by omega
  have t4 : ¬ ((ofBe ((l.drop 2).take 2) : Nat) : Int) < 20 := by omega
  have t5 : ¬ (l.length : Int) < ((ofBe ((l.drop 2).take 2) : Nat) : Int) := by omega
  have t5' : decide (l.length < ofBe ((l.drop 2).take 2)) = false := by simp; omega
  have t6 : (((csum (l.take 20) : Nat) : Int) != 0) = false := by simp; omega
  have t7 : (((ofBe ((l.drop 6).take 2) : Nat) : Int) / 8192 % 2 == 1) = false := beq_eq_false_iff_ne.2 (by omega)
  have t8 : (((ofBe ((l.drop 6).take 2) : Nat) : Int) % 8192 != 0) = false := by rw [bne_eq_false_iff_eq]; omega
  have t9 : ((l[8].toNat : Int) == 0) = false := beq_eq_false_iff_ne.2 (by omega)
  have t10 : (((ofBe ((l.drop 6).take 2) : Nat) : Int) / 16384 % 2 == 1) = decide (ofBe ((l.drop 6).take 2) / 16384 % 2 = 1) := by
    rw [Bool.eq_iff_iff, beq_iff_eq, decide_eq_true_iff]; omega
  have hF6 : ofBe ((l.drop 6).take 2) < 65536 := by
    have h := ofBe_lt ((l.drop 6).take 2)
    rwa [show ((l.drop 6).take 2).length = 2 from by simp; omega] at h
  have t11 : ((IntKind.i64.wrap (((ofBe ((l.drop 6).take 2) : Nat) : Int) / 16384)).tmod 2 == 1) = decide (ofBe ((l.drop 6).take 2) / 16384 % 2 = 1) := by
    rw [show IntKind.i64.wrap (((ofBe ((l.drop 6).take 2) : Nat) : Int) / 16384) = ((ofBe ((l.drop 6).take 2) : Nat) : Int) / 16384 from by rw [IntKind.wrap_i64]; omega, Int.tmod_eq_emod_of_nonneg (by omega)]
    exact t10
  have z12 := ofBe_lt ((l.drop 12).take 4)
  have z16 := ofBe_lt ((l.drop 16).take 4)
  rw [show ((l.drop 12).take 4).length = 4 from by simp; omega] at z12
  rw [show ((l.drop 16).take 4).length = 4 from by simp; omega] at z16
  have u12 : IntKind.u32.wrap ((ofBe ((l.drop 12).take 4) : Nat) : Int) = (ofBe ((l.drop 12).take 4) : Nat) := by rw [IntKind.wrap_u32]; omega
  have u16 : IntKind.u32.wrap ((ofBe ((l.drop 16).take 4) : Nat) : Int) = (ofBe ((l.drop 16).take 4) : Nat) := by rw [IntKind.wrap_u32]; omega
  have u1 : IntKind.i64.wrap (l[1].toNat : Int) = l[1].toNat := by have := l[1].toNat_lt; rw [IntKind.wrap_i64]; omega
  have u8 : IntKind.i64.wrap (l[8].toNat : Int) = l[8].toNat := by have := l[8].toNat_lt; rw [IntKind.wrap_i64]; omega
  have u9 : IntKind.i64.wrap (l[9].toNat : Int) = l[9].toNat := by have := l[9].toNat_lt; rw [IntKind.wrap_i64]; omega
  have q1 : (1 : Int) < l.length := by omega
  have q8 : (8 : Int) < l.length := by omega
  have q9 : (9 : Int) < l.length := by omega
  have s20 : 20 ≤ ofBe ((l.drop 2).take 2) := h3
  have sl' : ofBe ((l.drop 2).take 2) ≤ l.length := h4
  clear h1 h2 h3 h4 h5 h6 h7
  have K4 := Lib.hid (fun (ad : Addr) (W : World) (h : RA W (some ad) l) => rnumber_at 4 2 (some ad) l c 4 2 W rfl rfl h (by omega) (by omega) (by omega) (by omega))
  have K12 := Lib.hid (fun (ad : Addr) (W : World) (h : RA W (some ad) l) => rnumber_at 12 4 (some ad) l c 12 4 W rfl rfl h (by omega) (by omega) (by omega) (by omega))
  have K16 := Lib.hid (fun (ad : Addr) (W : World) (h : RA W (some ad) l) => rnumber_at 16 4 (some ad) l c 16 4 W rfl rfl h (by omega) (by omega) (by omega) (by omega))
  obtain ⟨ad, rfl, hlt, _⟩ := hA.at_ (j := 0) (by omega)
  have hA0 := hA.alloc (.cells #[.int .i64 0, .int .i64 0, .int .i64 0, .int .i64 0, .bool false, .int .u32 0, .int .u32 0] 27)
  have hO0 : Below w.heap.size w (w.alloc (.cells #[.int .i64 0, .int .i64 0, .int .i64 0, .int .i64 0, .bool false, .int .u32 0, .int .u32 0] 27)) := (Below.refl _ w).alloc (Nat.le_refl _) _
  have hX0 : Blk (w.alloc (.cells #[.int .i64 0, .int .i64 0, .int .i64 0, .int .i64 0, .bool false, .int .u32 0, .int .u32 0] 27)) w.heap.size 27 z7 := Blk.new w _ z7
  obtain ⟨ad', hee, hlt0, hcell⟩ := hA0.at_ (j := 0) (by omega)
  injection hee with hee
  subst hee
  have x0 := hcell 0 (by omega)
  rw [show ad.add 0 = ad from by simp [Addr.add]] at x0
  unfold bv at x0
  have hf6 : ofBe ((l.drop 6).take 2) < 65536 := by
    have h := ofBe_lt ((l.drop 6).take 2)
    rwa [show ((l.drop 6).take 2).length = 2 from by simp; omega] at h
  have q0 : (0 : Int) < l.length := by omega
  have q20 : (20 : Int) ≤ l.length := by omega
  have q20c : (20 : Int) ≤ c := by omega
  have HA0 := Lib.hid hA0
  have HO0 := Lib.hid hO0
  have HX0 := Lib.hid hX0
  have hv0 := l[0].toNat_lt
  have hs0 : csum (l.take 20) ≤ 65535 := by unfold csum; omega
  clear hA0 hO0 hX0 hcell
  go_enter Try.func15, Try.ntmps15
  go_wp2_with fail
  generalize w.alloc (.cells #[.int .i64 0, .int .i64 0, .int .i64 0, .int .i64 0, .bool false, .int .u32 0, .int .u32 0] 27) = W0 at HA0 HO0 HX0 x0 hlt0 ⊢
  refine (rnumber_at _ _ _ l c 2 2 _ rfl rfl HA0.out (by omega) (by omega) (by omega) (by omega)).mono ?_
  rintro e w1 ⟨rfl, rfl⟩
  go_wp2_with fail
  have hR := HA0.out.cut 0 20 c (by omega) hl hc
  rw [if_neg (by omega)] at hR
  have HR : Hid (RA W0 (some ad) (l.take 20)) := Lib.hid (by simpa [Addr.add] using hR)
  clear hR x0
  refine (SumOf_any _ (l.take 20) 20 c _ (by rw [List.length_take]; omega) (by omega) HR.out).mono ?_
  rintro e w1 ⟨rfl, hb1⟩
  have HA1 := Lib.hid (HA0.out.below hb1)
  have HX1 := Lib.hid (HX0.out.beyond hb1)
  have HO1 := Lib.hid (below_then' HO0.out HO0.out.size hb1)
  obtain ⟨ad', hee, hlt1, hcell⟩ := HA1.out.at_ (j := 0) (by omega)
  injection hee with hee
  subst hee
  have x0 := hcell 0 (by omega)
  rw [show ad.add 0 = ad from by simp [Addr.add]] at x0
  have x1 := hcell 1 (by omega)
  have x8 := hcell 8 (by omega)
  have x9 := hcell 9 (by omega)
  unfold bv at x0 x1 x8 x9
  simp only [Addr.add, Nat.reduceEqDiff, if_false] at x1 x8 x9
  clear hb1 hcell HA0 HX0 HO0 HR
  go_wp2_with fail
  refine (rnumber_at _ _ _ l c 6 2 _ rfl rfl HA1.out (by omega) (by omega) (by omega) (by omega)).mono ?_
  rintro e w2 ⟨rfl, rfl⟩
  go_wp2_with fail
  go_region_held3 (fun w' => w'.cell? ⟨ad.block, ad.off + 1, none⟩ = some (.int .u8 (l[1].toNat : Int)) ∧ w'.cell? ⟨ad.block, ad.off + 8, none⟩ = some (.int .u8 (l[8].toNat : Int)) ∧ w'.cell? ⟨ad.block, ad.off + 9, none⟩ = some (.int .u8 (l[9].toNat : Int)) ∧ RA w' (some ad) l ∧ ad.block < w'.heap.size)
    (first
      | (go_keep; done)
      | (go_split_ands; exact ⟨by assumption, by assumption, by assumption, by assumption, by assumption⟩)
      | (go_split_ands; exact ⟨(World.cell?_alloc_lt _ _ _ (by assumption)).trans (by assumption), (World.cell?_alloc_lt _ _ _ (by assumption)).trans (by assumption), (World.cell?_alloc_lt _ _ _ (by assumption)).trans (by assumption), RA.alloc (by assumption) _, by simp; omega⟩))
    ((first
      | (go_at_call 22; ((with_reducible refine (K4.out _ _ (by go_split_ands; assumption)).mono ?_); rintro e w2 ⟨rfl, rfl⟩))
      | (go_at_call 22; ((with_reducible refine (K12.out _ _ (by go_split_ands; assumption)).mono ?_); rintro e w2 ⟨rfl, rfl⟩))
      | (go_at_call 22; ((with_reducible refine (K16.out _ _ (by go_split_ands; assumption)).mono ?_); rintro e w2 ⟨rfl, rfl⟩))))
  all_goals
    obtain ⟨vs, hvs⟩ : ∃ vs : List Value, vs = [.int .i64 (l[1].toNat : Int), .int .i64 (ofBe ((l.drop 4).take 2) : Nat), .int .i64 (l[8].toNat : Int), .int .i64 (l[9].toNat : Int), .bool (decide (ofBe ((l.drop 6).take 2) / 16384 % 2 = 1)), .int .u32 (ofBe ((l.drop 12).take 4) : Nat), .int .u32 (ofBe ((l.drop 16).take 4) : Nat)] := ⟨_, rfl⟩
    have hX2 : Blk (w1.alloc (.cells #[.int .i64 (l[1].toNat : Int), .int .i64 (ofBe ((l.drop 4).take 2) : Nat), .int .i64 (l[8].toNat : Int), .int .i64 (l[9].toNat : Int), .bool (decide (ofBe ((l.drop 6).take 2) / 16384 % 2 = 1)), .int .u32 (ofBe ((l.drop 12).take 4) : Nat), .int .u32 (ofBe ((l.drop 16).take 4) : Nat)] 27)).drew w1.heap.size 27 vs := by
      rw [hvs]; exact (Blk.new w1 _ _)
    have hX1 := (HX1.out.alloc (.cells #[.int .i64 (l[1].toNat : Int), .int .i64 (ofBe ((l.drop 4).take 2) : Nat), .int .i64 (l[8].toNat : Int), .int .i64 (l[9].toNat : Int), .bool (decide (ofBe ((l.drop 6).take 2) / 16384 % 2 = 1)), .int .u32 (ofBe ((l.drop 12).take 4) : Nat), .int .u32 (ofBe ((l.drop 16).take 4) : Nat)] 27)).drew
    have hA2 := (HA1.out.alloc (.cells #[.int .i64 (l[1].toNat : Int), .int .i64 (ofBe ((l.drop 4).take 2) : Nat), .int .i64 (l[8].toNat : Int), .int .i64 (l[9].toNat : Int), .bool (decide (ofBe ((l.drop 6).take 2) / 16384 % 2 = 1)), .int .u32 (ofBe ((l.drop 12).take 4) : Nat), .int .u32 (ofBe ((l.drop 16).take 4) : Nat)] 27)).drew
    have hO2 := below_drew' (HO1.out.alloc HO1.out.size (.cells #[.int .i64 (l[1].toNat : Int), .int .i64 (ofBe ((l.drop 4).take 2) : Nat), .int .i64 (l[8].toNat : Int), .int .i64 (l[9].toNat : Int), .bool (decide (ofBe ((l.drop 6).take 2) / 16384 % 2 = 1)), .int .u32 (ofBe ((l.drop 12).take 4) : Nat), .int .u32 (ofBe ((l.drop 16).take 4) : Nat)] 27))
    have hlw : w.heap.size < w1.heap.size := HX1.out.lt
    generalize (w1.alloc (.cells #[.int .i64 (l[1].toNat : Int), .int .i64 (ofBe ((l.drop 4).take 2) : Nat), .int .i64 (l[8].toNat : Int), .int .i64 (l[9].toNat : Int), .bool (decide (ofBe ((l.drop 6).take 2) / 16384 % 2 = 1)), .int .u32 (ofBe ((l.drop 12).take 4) : Nat), .int .u32 (ofBe ((l.drop 16).take 4) : Nat)] 27)).drew = w3 at hX2 hX1 hA2 hO2 ⊢
    have hRD : RA w3 (if c = 20 then some ad else some (ad.add 20)) ((l.take (ofBe ((l.drop 2).take 2))).drop 20) := hA2.cut 20 _ c (by omega) sl' hc
    simp only [Addr.add, Nat.reduceEqDiff, if_false] at hRD
    obtain ⟨X, hX⟩ : ∃ X : Option Addr, (if c = 20 then some ad else some ⟨ad.block, ad.off + 20, none⟩) = X := ⟨_, rfl⟩
    rw [hX] at hRD
    generalize hn : ofBe ((l.drop 2).take 2) = n at s20 sl' hRD t4 t5 t5' ⊢
    have hlen : n - 20 = ((l.take n).drop 20).length := by simp; omega
    have hll : ([] : List UInt8).length + ((l.take n).drop 20).length ≤ 140737488355328 := by rw [← hlen]; simp; omega
    have HN := Lib.hid hn
    have HRD := Lib.hid hRD
    have HLEN := Lib.hid hlen
    have HLL := Lib.hid hll
    have HX2 := Lib.hid hX2
    have HXZ := Lib.hid hX1
    have HO2 := Lib.hid hO2
    have HVS := Lib.hid hvs
    have s20' : (20 : Int) ≤ n := by omega
    have slc : (n : Int) ≤ c := by omega
    clear hRD hlen hll hn hX2 hX1 hA2 hO2 hvs x0 x1 x8 x9
    go_wp2_with (at_builtin; refine appN w.heap.size rfl _ _ rfl (.slice none 0 0) [] X ((l.take n).drop 20) _ _ rfl (by rw [← hX]; rfl) HLEN.out (Own.nil _ _) HRD.out HO2.out.size HLL.out ?_; intro v4 w4 ho4 hg4 ha4; rw [List.nil_append] at ho4; have hk2 := HX2.out.grown hg4 (by simp [Value.ownBlock]); have hk1 := HXZ.out.grown hg4 (by simp [Value.ownBlock]); rw [HVS.out] at hk2; have c0 := hk2.cell 0; have c1 := hk2.cell 1; have c2 := hk2.cell 2; have c3 := hk2.cell 3; have c4 := hk2.cell 4; have c5 := hk2.cell 5; have c6 := hk2.cell 6; have y0 := hk1.cell 0; have y1 := hk1.cell 1; have y2 := hk1.cell 2; have y3 := hk1.cell 3; have y4 := hk1.cell 4; have y5 := hk1.cell 5; have y6 := hk1.cell 6; have f0 := hk1.frozen 0; have f1 := hk1.frozen 1; have f2 := hk1.frozen 2; have f3 := hk1.frozen 3; have f4 := hk1.frozen 4; have f5 := hk1.frozen 5; have f6 := hk1.frozen 6; simp only [z7, List.getElem?_cons_zero, List.getElem?_cons_succ] at c0 c1 c2 c3 c4 c5 c6 y0 y1 y2 y3 y4 y5 y6; have HO4 := Lib.hid (HO2.out.grown hg4 HO2.out.size (by intro k hk; cases hk)); have HV4 := Lib.hid ho4; have HK1 := Lib.hid hk1; clear hk2 hk1 ho4 hg4 ha4)
    have HX9 := (((((((HK1.out.set_ 0 (.int .i64 (l[1].toNat : Int))).set_ 1 (.int .i64 (ofBe ((l.drop 4).take 2) : Nat))).set_ 2 (.int .i64 (l[8].toNat : Int))).set_ 3 (.int .i64 (l[9].toNat : Int))).set_ 4 (.bool (decide (ofBe ((l.drop 6).take 2) / 16384 % 2 = 1)))).set_ 5 (.int .u32 (ofBe ((l.drop 12).take 4) : Nat))).set_ 6 (.int .u32 (ofBe ((l.drop 16).take 4) : Nat)))
    have z0 := HX9.cell 0
    have z1 := HX9.cell 1
    have z2 := HX9.cell 2
    have z3 := HX9.cell 3
    have z4 := HX9.cell 4
    have z5 := HX9.cell 5
    have z6 := HX9.cell 6
    simp only [z7, List.set_cons_zero, List.set_cons_succ, List.getElem?_cons_zero, List.getElem?_cons_succ] at z0 z1 z2 z3 z4 z5 z6
    refine bodyPost_ret (v := .tuple #[.agg #[.int .i64 (l[1].toNat : Int), .int .i64 (ofBe ((l.drop 4).take 2) : Nat), .int .i64 (l[8].toNat : Int), .int .i64 (l[9].toNat : Int), .bool (decide (ofBe ((l.drop 6).take 2) / 16384 % 2 = 1)), .int .u32 (ofBe ((l.drop 12).take 4) : Nat), .int .u32 (ofBe ((l.drop 16).take 4) : Nat)], v4, .int .i64 0]) (by simp [results, Try.results15, go_sem, z0, z1, z2, z3, z4, z5, z6]) rfl ⟨v4, rfl, ?_, ?_⟩
    · rw [HN.out]
      exact HV4.out.fr ((((((((Fr.refl (· = w.heap.size) w4).set_ (p := ⟨w.heap.size, 0, none⟩) (.inl rfl) (.int .i64 (l[1].toNat : Int))).set_ (p := ⟨w.heap.size, 1, none⟩) (.inl rfl) (.int .i64 (ofBe ((l.drop 4).take 2) : Nat))).set_ (p := ⟨w.heap.size, 2, none⟩) (.inl rfl) (.int .i64 (l[8].toNat : Int))).set_ (p := ⟨w.heap.size, 3, none⟩) (.inl rfl) (.int .i64 (l[9].toNat : Int))).set_ (p := ⟨w.heap.size, 4, none⟩) (.inl rfl) (.bool (decide (ofBe ((l.drop 6).take 2) / 16384 % 2 = 1)))).set_ (p := ⟨w.heap.size, 5, none⟩) (.inl rfl) (.int .u32 (ofBe ((l.drop 12).take 4) : Nat))).set_ (p := ⟨w.heap.size, 6, none⟩) (.inl rfl) (.int .u32 (ofBe ((l.drop 16).take 4) : Nat))) (fun g hg e => by subst e; exact owns_blk HV4.out HK1.out (by decide) hg)
    · exact (((((((HO4.out.setCell (p := ⟨w.heap.size, 0, none⟩) (Nat.le_refl _) (.int .i64 (l[1].toNat : Int))).setCell (p := ⟨w.heap.size, 1, none⟩) (Nat.le_refl _) (.int .i64 (ofBe ((l.drop 4).take 2) : Nat))).setCell (p := ⟨w.heap.size, 2, none⟩) (Nat.le_refl _) (.int .i64 (l[8].toNat : Int))).setCell (p := ⟨w.heap.size, 3, none⟩) (Nat.le_refl _) (.int .i64 (l[9].toNat : Int))).setCell (p := ⟨w.heap.size, 4, none⟩) (Nat.le_refl _) (.bool (decide (ofBe ((l.drop 6).take 2) / 16384 % 2 = 1)))).setCell (p := ⟨w.heap.size, 5, none⟩) (Nat.le_refl _) (.int .u32 (ofBe ((l.drop 12).take 4) : Nat))).setCell (p := ⟨w.heap.size, 6, none⟩) (Nat.le_refl _) (.int .u32 (ofBe ((l.drop 16).take 4) : Nat)))
end Go.Proofs.Ytlhfphidanjafaa
