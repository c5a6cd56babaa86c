/- inet.Encode where it refuses -/
import Derived.Test.YtlhfphidanjafaaOctet
set_option linter.unusedVariables false
namespace Go.Proofs.Ytlhfphidanjafaa
open Go.RowKit

set_option maxHeartbeats 1000000 in
theorem Encode_arg (tos id ttl proto : Int) (src dst : Int) (keep : Bool) (v : Value) (w : World)
    (h : tos < 0 ∨ 255 < tos ∨ proto < 0 ∨ 255 < proto ∨ id < 0 ∨ 65535 < id ∨ ttl < 1 ∨ 255 < ttl)
    (b1 : -9223372036854775808 ≤ tos ∧ tos ≤ 9223372036854775807) (b2 : -9223372036854775808 ≤ id ∧ id ≤ 9223372036854775807) (b3 : -9223372036854775808 ≤ ttl ∧ ttl ≤ 9223372036854775807) (b4 : -9223372036854775808 ≤ proto ∧ proto ≤ 9223372036854775807) :
    Calls Try.prog 11 #[.agg #[.int .i64 tos, .int .i64 id, .int .i64 ttl, .int .i64 proto, .bool keep, .int .u32 src, .int .u32 dst], v] w fun e w' =>
      e = .returned (.tuple #[.slice none 0 0, .int .i64 1]) ∧ Below w.heap.size w w' := by
  by_cases g1 : tos < 0 ∨ 255 < tos
  · have t1 : ((tos / 256) != 0) = true := by simp; omega
    go_enter Try.func11, Try.ntmps11
    go_wp2
    go_ret2
    exact ⟨rfl, (Below.refl _ _).alloc (Nat.le_refl _) _⟩
  · have t1 : ((tos / 256) != 0) = false := by simp; omega
    by_cases g2 : proto < 0 ∨ 255 < proto
    · have t2 : ((proto / 256) != 0) = true := by simp; omega
      go_enter Try.func11, Try.ntmps11
      go_wp2
      go_ret2
      exact ⟨rfl, (Below.refl _ _).alloc (Nat.le_refl _) _⟩
    · have t2 : ((proto / 256) != 0) = false := by simp; omega
      by_cases g3 : id < 0 ∨ 65535 < id
      · have t3 : ((id / 65536) != 0) = true := by simp; omega
        go_enter Try.func11, Try.ntmps11
        go_wp2
        go_ret2
        exact ⟨rfl, (Below.refl _ _).alloc (Nat.le_refl _) _⟩
      · have t3 : ((id / 65536) != 0) = false := by simp; omega
        by_cases g4 : ttl < 1
        · go_enter Try.func11, Try.ntmps11
          go_wp2
          go_ret2
          exact ⟨rfl, (Below.refl _ _).alloc (Nat.le_refl _) _⟩
        · have g5 : 255 < ttl := by omega
          go_enter Try.func11, Try.ntmps11
          go_wp2
          go_ret2
          exact ⟨rfl, (Below.refl _ _).alloc (Nat.le_refl _) _⟩

set_option maxHeartbeats 1000000 in
theorem Encode_long (tos id ttl proto src dst : Nat) (keep : Bool) (A : Option Addr) (n c : Nat) (w : World) (hc : n ≤ 140737488351232)
    (h1 : tos < 256) (h2 : proto < 256) (h3 : id < 65536) (h4 : 1 ≤ ttl) (h5 : ttl < 256) (hl : 1480 < n) :
    Calls Try.prog 11 #[.agg #[.int .i64 tos, .int .i64 id, .int .i64 ttl, .int .i64 proto, .bool keep, .int .u32 src, .int .u32 dst], .slice A n c] w fun e w' =>
      e = .returned (.tuple #[.slice none 0 0, .int .i64 2]) ∧ Below w.heap.size w w' := by
  have t1 : (((tos : Int) / 256) != 0) = false := by simp; omega
  have t2 : (((proto : Int) / 256) != 0) = false := by simp; omega
  have t3 : (((id : Int) / 65536) != 0) = false := by simp; omega
  have t4 : ¬ (ttl : Int) < 1 := by omega
  have t5 : ¬ (255 : Int) < ttl := by omega
  have t6 : (1500 : Int) < 20 + n := by omega
  go_enter Try.func11, Try.ntmps11
  go_wp2
  go_ret2
  exact ⟨rfl, (Below.refl _ _).alloc (Nat.le_refl _) _⟩
end Go.Proofs.Ytlhfphidanjafaa
