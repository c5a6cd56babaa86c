/- inet.Encode and inet.Decode, each as one contract for all arguments. -/
import Derived.Test.YtlhfphidanjafaaInet
import Derived.Test.YtlhfphidanjafaaInetBad
import Derived.Test.YtlhfphidanjafaaDecode3
set_option linter.unusedVariables false
set_option linter.unusedSimpArgs false
namespace Go.Proofs.Ytlhfphidanjafaa
open Go.RowKit

structure Hd where
  tos : Int
  id : Int
  ttl : Int
  proto : Int
  keep : Bool
  src : Int
  dst : Int

def Hd.val (h : Hd) : Value := .agg #[.int .i64 h.tos, .int .i64 h.id, .int .i64 h.ttl, .int .i64 h.proto, .bool h.keep, .int .u32 h.src, .int .u32 h.dst]
def Hd.wf (h : Hd) : Prop := (-9223372036854775808 ≤ h.tos ∧ h.tos ≤ 9223372036854775807) ∧ (-9223372036854775808 ≤ h.id ∧ h.id ≤ 9223372036854775807) ∧ (-9223372036854775808 ≤ h.ttl ∧ h.ttl ≤ 9223372036854775807) ∧ (-9223372036854775808 ≤ h.proto ∧ h.proto ≤ 9223372036854775807) ∧ (0 ≤ h.src ∧ h.src ≤ 4294967295) ∧ (0 ≤ h.dst ∧ h.dst ≤ 4294967295)
def Hd.bad (h : Hd) : Prop := h.tos < 0 ∨ 255 < h.tos ∨ h.proto < 0 ∨ 255 < h.proto ∨ h.id < 0 ∨ 65535 < h.id ∨ h.ttl < 1 ∨ 255 < h.ttl
instance (h : Hd) : Decidable h.bad := inferInstanceAs (Decidable (_ ∨ _))
def hd0 : Hd := ⟨0, 0, 0, 0, false, 0, 0⟩

def encE (h : Hd) (n : Nat) : Nat := if h.bad then 1 else if 1480 < n then 2 else 0
def encL (h : Hd) (l : List UInt8) : List UInt8 := if encE h l.length = 0 then encB h.tos.toNat h.id.toNat h.ttl.toNat h.proto.toNat h.keep h.src.toNat h.dst.toNat l else []

theorem Encode_any (h : Hd) (hw : h.wf) (A : Option Addr) (l : List UInt8) (n c : Nat) (w : World) (hn : n = l.length) (hA : RA w A l) (hc : n ≤ c) (hcm : c ≤ 9223372036854775807) (hl : n ≤ 140737488351232) :
    Calls Try.prog 11 #[h.val, .slice A n c] w fun e w' =>
      ∃ v, e = .returned (.tuple #[v, .int .i64 (encE h n)]) ∧ Own w' w.heap.size v (encL h l) ∧ Below w.heap.size w w' := by
  subst hn
  obtain ⟨tos, id, ttl, proto, keep, src, dst⟩ := h
  obtain ⟨b1, b2, b3, b4, b5, b6⟩ := hw
  by_cases hb : Hd.bad ⟨tos, id, ttl, proto, keep, src, dst⟩
  · refine (Encode_arg tos id ttl proto src dst keep _ w hb b1 b2 b3 b4).mono ?_
    rintro e w' ⟨rfl, hw'⟩
    refine ⟨.slice none 0 0, ?_, ?_, hw'⟩
    · simp [encE, hb]
    · simp only [encL, encE, if_pos hb]; exact Own.nil _ _
  · have hb' := hb
    simp only [Hd.bad] at hb'
    simp only at b1 b2 b3 b4 b5 b6
    obtain ⟨tos, rfl⟩ : ∃ k : Nat, tos = k := ⟨tos.toNat, by omega⟩
    obtain ⟨id, rfl⟩ : ∃ k : Nat, id = k := ⟨id.toNat, by omega⟩
    obtain ⟨ttl, rfl⟩ : ∃ k : Nat, ttl = k := ⟨ttl.toNat, by omega⟩
    obtain ⟨proto, rfl⟩ : ∃ k : Nat, proto = k := ⟨proto.toNat, by omega⟩
    obtain ⟨src, rfl⟩ : ∃ k : Nat, src = k := ⟨src.toNat, by omega⟩
    obtain ⟨dst, rfl⟩ : ∃ k : Nat, dst = k := ⟨dst.toNat, by omega⟩
    by_cases h8 : 1480 < l.length
    · refine (Encode_long tos id ttl proto src dst keep A l.length c w hl (by omega) (by omega) (by omega) (by omega) (by omega) h8).mono ?_
      rintro e w' ⟨rfl, hw'⟩
      refine ⟨.slice none 0 0, ?_, ?_, hw'⟩
      · simp [encE, hb, h8]
      · simp only [encL, encE, if_neg hb, if_pos h8]; exact Own.nil _ _
    · refine (Encode_ok tos id ttl proto src dst keep A l c w hA hc hcm (by omega) (by omega) (by omega) (by omega) (by omega) (by omega) (by omega) (by omega)).mono ?_
      rintro e w' ⟨v, rfl, hv, hw'⟩
      refine ⟨v, ?_, ?_, hw'⟩
      · simp [encE, hb, h8]
      · simp only [encL, encE, if_neg hb, if_neg h8]; simpa using hv

def decE (l : List UInt8) : Nat :=
  if l.length < 20 then 5 else if ¬ (l.getD 0 0).toNat / 16 = 4 then 90 else if ¬ (l.getD 0 0).toNat % 16 ≤ 5 then 91
  else if ¬ ((l.getD 0 0).toNat % 16 = 5 ∧ 20 ≤ ofBe ((l.drop 2).take 2) ∧ ofBe ((l.drop 2).take 2) ≤ l.length) then 92
  else if ¬ csum (l.take 20) = 0 then 93 else if ¬ ofBe ((l.drop 6).take 2) % 16384 = 0 then 94 else if (l.getD 8 0).toNat = 0 then 95 else 0
def decH (l : List UInt8) : Hd := if decE l = 0 then ⟨(l.getD 1 0).toNat, ofBe ((l.drop 4).take 2), (l.getD 8 0).toNat, (l.getD 9 0).toNat, decide (ofBe ((l.drop 6).take 2) / 16384 % 2 = 1), ofBe ((l.drop 12).take 4), ofBe ((l.drop 16).take 4)⟩ else hd0
def decL (l : List UInt8) : List UInt8 := if decE l = 0 then (l.take (ofBe ((l.drop 2).take 2))).drop 20 else []

theorem dec_bad {A : Option Addr} {l : List UInt8} {n c : Nat} {w : World} (k : Nat) (hk : decE l = k) (h0 : ¬ k = 0)
    (h : Calls Try.prog 16 #[.slice A n c] w fun e w' => e = .returned (.tuple #[.agg z7.toArray, .slice none 0 0, .int .i64 k]) ∧ Below w.heap.size w w') :
    Calls Try.prog 16 #[.slice A n c] w fun e w' => ∃ v, e = .returned (.tuple #[(decH l).val, v, .int .i64 (decE l)]) ∧ Own w' w.heap.size v (decL l) ∧ Below w.heap.size w w' := by
  refine h.mono ?_
  rintro e w' ⟨rfl, hw'⟩
  subst hk
  refine ⟨.slice none 0 0, ?_, ?_, hw'⟩
  · simp [decH, h0, hd0, Hd.val, z7]
  · simp only [decL, if_neg h0]; exact Own.nil _ _

theorem Decode_any (A : Option Addr) (l : List UInt8) (n c : Nat) (w : World) (hn : n = l.length) (hA : RA w A l) (hc : n ≤ c) (hcm : c ≤ 9223372036854775807) :
    Calls Try.prog 16 #[.slice A n c] w fun e w' => ∃ v, e = .returned (.tuple #[(decH l).val, v, .int .i64 (decE l)]) ∧ Own w' w.heap.size v (decL l) ∧ Below w.heap.size w w' := by
  subst hn
  by_cases hl : l.length < 20
  · exact dec_bad 5 (by simp [decE, hl]) (by omega) (Decode_short A l c w hA hc hcm hl)
  have hl' : 20 ≤ l.length := by omega
  have g0 : l.getD 0 0 = l[0] := by simp [List.getD, List.getElem?_eq_getElem (show 0 < l.length by omega)]
  have g1 : l.getD 1 0 = l[1] := by simp [List.getD, List.getElem?_eq_getElem (show 1 < l.length by omega)]
  have g8 : l.getD 8 0 = l[8] := by simp [List.getD, List.getElem?_eq_getElem (show 8 < l.length by omega)]
  have g9 : l.getD 9 0 = l[9] := by simp [List.getD, List.getElem?_eq_getElem (show 9 < l.length by omega)]
  by_cases h1 : l[0].toNat / 16 = 4
  case neg => exact dec_bad 90 (by simp only [decE, g0]; rw [if_neg hl, if_pos h1]) (by omega) (Decode_version A l c w hA hc hcm hl' h1)
  by_cases h2 : l[0].toNat % 16 ≤ 5
  case neg => exact dec_bad 91 (by simp only [decE, g0]; rw [if_neg hl, if_neg (not_not_intro h1), if_pos h2]) (by omega) (Decode_options A l c w hA hc hcm hl' h1 h2)
  by_cases h3 : l[0].toNat % 16 = 5 ∧ 20 ≤ ofBe ((l.drop 2).take 2) ∧ ofBe ((l.drop 2).take 2) ≤ l.length
  case neg => exact dec_bad 92 (by simp only [decE, g0]; rw [if_neg hl, if_neg (not_not_intro h1), if_neg (not_not_intro h2), if_pos h3]) (by omega) (Decode_length A l c w hA hc hcm hl' h1 h2 h3)
  have hh : headOk l hl' := ⟨h1, h3⟩
  by_cases h4 : csum (l.take 20) = 0
  case neg => exact dec_bad 93 (by simp only [decE, g0]; rw [if_neg hl, if_neg (not_not_intro h1), if_neg (not_not_intro h2), if_neg (not_not_intro h3), if_pos h4]) (by omega) (Decode_sum A l c w hA hc hcm hl' hh h4)
  by_cases h5 : ofBe ((l.drop 6).take 2) % 16384 = 0
  case neg => exact dec_bad 94 (by simp only [decE, g0]; rw [if_neg hl, if_neg (not_not_intro h1), if_neg (not_not_intro h2), if_neg (not_not_intro h3), if_neg (not_not_intro h4), if_pos h5]) (by omega) (Decode_fragment A l c w hA hc hcm hl' hh h4 h5)
  by_cases h6 : l[8].toNat = 0
  case pos => exact dec_bad 95 (by simp only [decE, g0, g8]; rw [if_neg hl, if_neg (not_not_intro h1), if_neg (not_not_intro h2), if_neg (not_not_intro h3), if_neg (not_not_intro h4), if_neg (not_not_intro h5), if_pos h6]) (by omega) (Decode_ttl A l c w hA hc hcm hl' hh h4 h5 h6)
  have hE : decE l = 0 := by simp only [decE, g0, g8]; rw [if_neg hl, if_neg (not_not_intro h1), if_neg (not_not_intro h2), if_neg (not_not_intro h3), if_neg (not_not_intro h4), if_neg (not_not_intro h5), if_neg h6]
  refine (Decode_ok A l c w hA hc hcm hl' hh h4 h5 h6).mono ?_
  rintro e w' ⟨v, rfl, hv, hw'⟩
  refine ⟨v, ?_, ?_, hw'⟩
  · simp only [decH, if_pos hE, hE, Hd.val, g1, g8, g9]; rfl
  · simp only [decL, if_pos hE]; exact hv
end Go.Proofs.Ytlhfphidanjafaa
