/- slipwayref09.Encode. -/
import Derived.Test.YtlhfphidanjafaaRef09
set_option linter.unusedVariables false
set_option linter.unusedSimpArgs false
namespace Go.Proofs.Ytlhfphidanjafaa
open Go.RowKit

theorem Head_any (tos id ttl proto src dst len : Nat) (sum : Int) (s : Nat) (keep : Bool) (l : Int) (w : World) (hs : sum = s) (hl : l = len) (h1 : tos < 256) (h2 : proto < 256) (h3 : id < 65536) (h5 : ttl < 256) (h6 : src < 4294967296) (h7 : dst < 4294967296) (h8 : len ≤ 4611686018427387904) (h9 : s ≤ 65535) :
    Calls Try.prog 17 #[.agg #[.int .i64 tos, .int .i64 id, .int .i64 ttl, .int .i64 proto, .bool keep, .int .u32 src, .int .u32 dst], .int .i64 l, .int .i64 sum] w fun e w' =>
      ∃ v, e = .returned v ∧ Own w' w.heap.size v (hdr tos len id (flagsOf keep) ttl proto s src dst) ∧ Below w.heap.size w w' := by
  subst hs hl
  cases keep
  · exact Head_false tos id ttl proto src dst len s w h1 h2 h3 h5 h6 h7 h8 h9
  · exact Head_true tos id ttl proto src dst len s w h1 h2 h3 h5 h6 h7 h8 h9

set_option maxHeartbeats 2000000 in
theorem rEncode_arg (tos id ttl proto src dst : Int) (keep : Bool) (v : Value) (w : World) (hb : tos < 0 ∨ 255 < tos ∨ proto < 0 ∨ 255 < proto ∨ id < 0 ∨ 65535 < id ∨ ttl < 1 ∨ 255 < ttl) :
    Calls Try.prog 9 #[.agg #[.int .i64 tos, .int .i64 id, .int .i64 ttl, .int .i64 proto, .bool keep, .int .u32 src, .int .u32 dst], v] w fun e w' =>
      e = .returned (.tuple #[.slice none 0 0, .int .i64 1]) ∧ Below w.heap.size w w' := by
  by_cases g1 : tos < 0
  · go_enter Try.func9, Try.ntmps9
    go_wp2
    go_ret2
    exact ⟨rfl, (Below.refl _ _).alloc (Nat.le_refl _) _⟩
  by_cases g2 : 255 < tos
  · go_enter Try.func9, Try.ntmps9
    go_wp2
    go_ret2
    exact ⟨rfl, (Below.refl _ _).alloc (Nat.le_refl _) _⟩
  by_cases g3 : proto < 0
  · go_enter Try.func9, Try.ntmps9
    go_wp2
    go_ret2
    exact ⟨rfl, (Below.refl _ _).alloc (Nat.le_refl _) _⟩
  by_cases g4 : 255 < proto
  · go_enter Try.func9, Try.ntmps9
    go_wp2
    go_ret2
    exact ⟨rfl, (Below.refl _ _).alloc (Nat.le_refl _) _⟩
  by_cases g5 : id < 0
  · go_enter Try.func9, Try.ntmps9
    go_wp2
    go_ret2
    exact ⟨rfl, (Below.refl _ _).alloc (Nat.le_refl _) _⟩
  by_cases g6 : 65535 < id
  · go_enter Try.func9, Try.ntmps9
    go_wp2
    go_ret2
    exact ⟨rfl, (Below.refl _ _).alloc (Nat.le_refl _) _⟩
  by_cases g7 : ttl < 1
  · go_enter Try.func9, Try.ntmps9
    go_wp2
    go_ret2
    exact ⟨rfl, (Below.refl _ _).alloc (Nat.le_refl _) _⟩
  have g8 : 255 < ttl := by omega
  go_enter Try.func9, Try.ntmps9
  go_wp2
  go_ret2
  exact ⟨rfl, (Below.refl _ _).alloc (Nat.le_refl _) _⟩

set_option maxHeartbeats 1000000 in
theorem rEncode_long (tos id ttl proto src dst : Nat) (keep : Bool) (A : Option Addr) (n c : Nat) (w : World) (hc : n ≤ 140737488351232)
    (h1 : tos < 256) (h2 : proto < 256) (h3 : id < 65536) (h4 : 1 ≤ ttl) (h5 : ttl < 256) (hl : 1480 < n) :
    Calls Try.prog 9 #[.agg #[.int .i64 tos, .int .i64 id, .int .i64 ttl, .int .i64 proto, .bool keep, .int .u32 src, .int .u32 dst], .slice A n c] w fun e w' =>
      e = .returned (.tuple #[.slice none 0 0, .int .i64 2]) ∧ Below w.heap.size w w' := by
  have t6 : (1500 : Int) < 20 + n := by omega
  go_enter Try.func9, Try.ntmps9
  go_wp2
  go_ret2
  exact ⟨rfl, (Below.refl _ _).alloc (Nat.le_refl _) _⟩

set_option maxHeartbeats 4000000 in
theorem rEncode_ok (tos id ttl proto src dst : Nat) (keep : Bool) (A : Option Addr) (l : List UInt8) (c : Nat) (w : World) (hA : RA w A l) (hc : l.length ≤ c) (hcm : c ≤ 9223372036854775807)
    (h1 : tos < 256) (h2 : proto < 256) (h3 : id < 65536) (h4 : 1 ≤ ttl) (h5 : ttl < 256) (h6 : src < 4294967296) (h7 : dst < 4294967296) (hl : l.length ≤ 1480) :
    Calls Try.prog 9 #[.agg #[.int .i64 tos, .int .i64 id, .int .i64 ttl, .int .i64 proto, .bool keep, .int .u32 src, .int .u32 dst], .slice A l.length c] w fun e w' =>
      ∃ v, e = .returned (.tuple #[v, .int .i64 0]) ∧ Own w' w.heap.size v (encB tos id ttl proto keep src dst l) ∧ Below w.heap.size w w' := by
  have hA0 := hA.alloc (.cells #[.int .i64 tos, .int .i64 id, .int .i64 ttl, .int .i64 proto, .bool keep, .int .u32 src, .int .u32 dst] 27)
  have hB0 : Blk (w.alloc (.cells #[.int .i64 tos, .int .i64 id, .int .i64 ttl, .int .i64 proto, .bool keep, .int .u32 src, .int .u32 dst] 27)) w.heap.size 27 [.int .i64 tos, .int .i64 id, .int .i64 ttl, .int .i64 proto, .bool keep, .int .u32 src, .int .u32 dst] := Blk.new w _ _
  have hO0 : Below w.heap.size w (w.alloc (.cells #[.int .i64 tos, .int .i64 id, .int .i64 ttl, .int .i64 proto, .bool keep, .int .u32 src, .int .u32 dst] 27)) := (Below.refl _ _).alloc (Nat.le_refl _) _
  have HA0 := Lib.hid hA0
  have HB0 := Lib.hid hB0
  have HO0 := Lib.hid hO0
  clear hA0 hB0 hO0
  have t6 : ¬ (1500 : Int) < 20 + l.length := by omega
  go_enter Try.func9, Try.ntmps9
  go_wp2_with fail
  generalize w.alloc (.cells #[.int .i64 tos, .int .i64 id, .int .i64 ttl, .int .i64 proto, .bool keep, .int .u32 src, .int .u32 dst] 27) = W0 at HA0 HB0 HO0 ⊢
  refine (Head_any tos id ttl proto src dst (20 + l.length) 0 0 keep _ _ rfl (by simp) h1 h2 h3 h5 h6 h7 (by omega) (by omega)).mono ?_
  rintro e w1 ⟨v1, rfl, ho1, hb1⟩
  obtain ⟨A1, c1, rfl, hr1, _, _⟩ := ho1.form
  rw [hdr_length] at *
  have HR1 := Lib.hid hr1
  have HB1 := Lib.hid (HB0.out.beyond hb1)
  have HO1 := Lib.hid (below_then' HO0.out HO0.out.size hb1)
  have HA1 := Lib.hid (HA0.out.below hb1)
  clear ho1 hb1 hr1 HA0 HB0 HO0
  go_wp2_with fail
  refine (SumOf_any A1 _ 20 c1 _ (hdr_length _ _ _ _ _ _ _ _ _).symm (by omega) HR1.out).mono ?_
  rintro e w2 ⟨rfl, hb2⟩
  have hk := HB1.out.beyond hb2
  have k0 := hk.cell 0
  have k1 := hk.cell 1
  have k2 := hk.cell 2
  have k3 := hk.cell 3
  have k4 := hk.cell 4
  have k5 := hk.cell 5
  have k6 := hk.cell 6
  simp only [List.getElem?_cons_zero, List.getElem?_cons_succ] at k0 k1 k2 k3 k4 k5 k6
  have HO2 := Lib.hid (below_then' HO1.out HO1.out.size hb2)
  have HA2 := Lib.hid (HA1.out.below hb2)
  clear hb2 hk HR1 HB1 HO1 HA1
  have hcs : csum (hdr tos (20 + l.length) id (flagsOf keep) ttl proto 0 src dst) ≤ 65535 := by unfold csum; omega
  obtain ⟨s, hs⟩ : ∃ s, s = csum (hdr tos (20 + l.length) id (flagsOf keep) ttl proto 0 src dst) := ⟨_, rfl⟩
  rw [← hs] at hcs ⊢
  have HS := Lib.hid hs
  clear hs
  go_wp2_with fail
  refine (Head_any tos id ttl proto src dst (20 + l.length) _ s keep _ _ (by simp) (by simp) h1 h2 h3 h5 h6 h7 (by omega) hcs).mono ?_
  rintro e w3 ⟨v3, rfl, ho3, hb3⟩
  have HA3 := Lib.hid (HA2.out.below hb3)
  have HO3 := below_then' HO2.out HO2.out.size hb3
  have HV3 := ho3.less HO2.out.size
  have K1 : Hid ((hdr tos (20 + l.length) id (flagsOf keep) ttl proto s src dst).length + l.length ≤ 140737488355328) := Lib.hid (by rw [hdr_length]; omega)
  clear hb3 HA2 k0 k1 k2 k3 k4 k5 k6
  go_wp2_with (at_builtin; refine appN w.heap.size rfl _ _ rfl v3 (hdr tos (20 + l.length) id (flagsOf keep) ttl proto s src dst) A l _ c rfl rfl rfl HV3 HA3.out HO3.size K1.out ?_; intro v4 w4 ho4 hg4 ha4)
  go_ret2
  refine ⟨v4, rfl, ?_, HO3.grown hg4 HO3.size (fun k hk => (owns_lt HV3 hk).1)⟩
  unfold encB
  rw [← HS.out]
  exact ho4

theorem rEncode_any (h : Hd) (hw : h.wf) (A : Option Addr) (l : List UInt8) (n c : Nat) (w : World) (hn : n = l.length) (hA : RA w A l) (hc : n ≤ c) (hcm : c ≤ 9223372036854775807) (hl : n ≤ 140737488351232) :
    Calls Try.prog 9 #[h.val, .slice A n c] w fun e w' =>
      ∃ v, e = .returned (.tuple #[v, .int .i64 (encE h n)]) ∧ Own w' w.heap.size v (encL h l) ∧ Below w.heap.size w w' := by
  subst hn
  obtain ⟨tos, id, ttl, proto, keep, src, dst⟩ := h
  obtain ⟨b1, b2, b3, b4, b5, b6⟩ := hw
  by_cases hb : Hd.bad ⟨tos, id, ttl, proto, keep, src, dst⟩
  · refine (rEncode_arg tos id ttl proto src dst keep _ w hb).mono ?_
    rintro e w' ⟨rfl, hw'⟩
    refine ⟨.slice none 0 0, ?_, ?_, hw'⟩
    · simp [encE, hb]
    · simp only [encL, encE, if_pos hb]; exact Own.nil _ _
  · have hb' := hb
    simp only [Hd.bad] at hb'
    simp only at b1 b2 b3 b4 b5 b6
    obtain ⟨tos, rfl⟩ : ∃ k : Nat, tos = k := ⟨tos.toNat, by omega⟩
    obtain ⟨id, rfl⟩ : ∃ k : Nat, id = k := ⟨id.toNat, by omega⟩
    obtain ⟨ttl, rfl⟩ : ∃ k : Nat, ttl = k := ⟨ttl.toNat, by omega⟩
    obtain ⟨proto, rfl⟩ : ∃ k : Nat, proto = k := ⟨proto.toNat, by omega⟩
    obtain ⟨src, rfl⟩ : ∃ k : Nat, src = k := ⟨src.toNat, by omega⟩
    obtain ⟨dst, rfl⟩ : ∃ k : Nat, dst = k := ⟨dst.toNat, by omega⟩
    by_cases h8 : 1480 < l.length
    · refine (rEncode_long tos id ttl proto src dst keep A l.length c w hl (by omega) (by omega) (by omega) (by omega) (by omega) h8).mono ?_
      rintro e w' ⟨rfl, hw'⟩
      refine ⟨.slice none 0 0, ?_, ?_, hw'⟩
      · simp [encE, hb, h8]
      · simp only [encL, encE, if_neg hb, if_pos h8]; exact Own.nil _ _
    · refine (rEncode_ok tos id ttl proto src dst keep A l c w hA hc hcm (by omega) (by omega) (by omega) (by omega) (by omega) (by omega) (by omega) (by omega)).mono ?_
      rintro e w' ⟨v, rfl, hv, hw'⟩
      refine ⟨v, ?_, ?_, hw'⟩
      · simp [encE, hb, h8]
      · simp only [encL, encE, if_neg hb, if_neg h8]; simpa using hv
end Go.Proofs.Ytlhfphidanjafaa
