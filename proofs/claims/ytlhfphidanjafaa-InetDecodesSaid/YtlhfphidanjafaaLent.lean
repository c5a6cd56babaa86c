/- slipwayref01.Lent, AsLent: bytes as their owner hands them in. -/
import Derived.Test.YtlhfphidanjafaaMem
import Derived.BigGuardPart
set_option linter.unusedVariables false
set_option linter.unusedSimpArgs false
namespace Go.Proofs.Ytlhfphidanjafaa
open Go.RowKit

theorem splice_zero_full (l : List UInt8) (k : Nat) : splice (List.replicate (l.length + k) (0 : UInt8)) 0 l = l ++ List.replicate k 0 := by
  simp [splice, List.drop_replicate]
theorem set_behind (l : List UInt8) (a b x y : UInt8) : ((l ++ [a, b]).set l.length x).set (l.length + 1) y = l ++ [x, y] := by
  simp [List.set_append]

set_option maxHeartbeats 1000000 in
theorem Lent_any (A : Option Addr) (l : List UInt8) (n c : Nat) (w : World) (hn : n = l.length) (hA : RA w A l) (hl : n ≤ 140737488351232) :
    Calls Try.prog 10 #[.slice A n c] w fun e w' => e = .returned (.slice (some ⟨w.heap.size, 0, none⟩) n (n + 2)) ∧ Buf w' w.heap.size (l ++ [71, 72]) ∧ Below w.heap.size w w' := by
  subst hn
  have hmk : ∀ W : World, (Instr.makeSlice 28 (.int .i64 ((l.length : Int) + 2)) (.int .i64 ((l.length : Int) + 2))).run Try.prog W = .ok (.slice (some ⟨W.heap.size, 0, none⟩) (l.length + 2) (l.length + 2)) (W.alloc (.cells (madeCells #[.int .u8 0] (l.length + 2)) 5)) := make_bytes (l.length + 2) (by omega)
  have i1 : (l.length : Int) < (l.length : Int) + 2 := by omega
  have i2 : (l.length : Int) + 1 < (l.length : Int) + 2 := by omega
  go_enter Try.func10, Try.ntmps10
  have B1 : Buf (w.alloc (.cells (madeCells #[.int .u8 0] (l.length + 2)) 5)) w.heap.size (List.replicate (l.length + 2) 0) := Buf.made w _
  have O1 : Below w.heap.size w (w.alloc (.cells (madeCells #[.int .u8 0] (l.length + 2)) 5)) := (Below.refl _ _).alloc (Nat.le_refl _) _
  have A1 := hA.alloc (.cells (madeCells #[.int .u8 0] (l.length + 2)) 5)
  go_wp2_with (refine copyB rfl _ _ rfl w.heap.size 0 _ _ _ _ _ _ rfl rfl (List.replicate (l.length + 2) 0) l B1 A1 rfl (fun _ => rfl) (by omega) (by simp) ?_; intro W2 B2 G2; rw [splice_zero_full] at B2; have B2' : Buf W2 w.heap.size (l ++ [0, 0]) := B2; have c1 := B2'.cell (i := l.length) (by simp); have c2 := B2'.cell (i := l.length + 1) (by simp); have f1 := B2'.frozen l.length; have f2 := B2'.frozen (l.length + 1))
  have O2 := O1.grown G2 (Blk.lt B1 |> Nat.le_of_lt) (by intro k hk; injection hk with hk; omega)
  go_ret
  have B3 := (B2'.set_ l.length 71).set_ (l.length + 1) 72
  rw [set_behind] at B3
  exact ⟨rfl, B3, (O2.setCell (p := ⟨w.heap.size, l.length, none⟩) (by simp) _).setCell (p := ⟨w.heap.size, l.length + 1, none⟩) (by simp) _⟩

set_option maxHeartbeats 1000000 in
theorem AsLent_any (g : Nat) (A : Option Addr) (l : List UInt8) (n m c : Nat) (w : World) (hn : n = l.length) (hm : m = n + 2) (hG : Buf w g (l ++ [71, 72])) (hA : RA w A l) (hl : n ≤ 140737488351232) :
    Calls Try.prog 12 #[.slice (some ⟨g, 0, none⟩) n m, .slice A n c] w fun e w' => e = .returned (.bool true) ∧ Fr (· = g) w w' := by
  subst hm hn
  have s1 : ∀ k, (convert 28 9 (.slice (some ⟨g, 0, none⟩) l.length (l.length + 2))).run Try.prog (w.drewN k) = .ok (.string ⟨l.toArray⟩) (w.drewN k) := fun k =>
    conv_str _ _ rfl ((by simpa using (Buf.reads hG 0 l.length (by simp)).drewN k))
  have s2 : ∀ k, (convert 28 9 (.slice A l.length c)).run Try.prog (w.drewN k) = .ok (.string ⟨l.toArray⟩) (w.drewN k) := fun k => conv_str _ _ rfl (hA.drewN k)
  have c1 : w.cell? ⟨g, l.length, none⟩ = some (.int .u8 71) := by rw [hG.cell (i := l.length) (by simp)]; simp [bv]
  have c2 : w.cell? ⟨g, l.length + 1, none⟩ = some (.int .u8 72) := by rw [hG.cell (i := l.length + 1) (by simp)]; simp [bv]
  have i1 : (l.length : Int) < (l.length : Int) + 2 := by omega
  have i2 : (l.length : Int) + 1 < (l.length : Int) + 2 := by omega
  go_enter Try.func12, Try.ntmps12
  go_wp2_with fail
  go_quiet (fail)
  clear s1 s2 c1 c2
  go_wp2_with fail
  go_loopw [8] (fun i wr => ∃ (j : Nat) (L : List UInt8), j ≤ l.length + 2 ∧ i = .int .i64 (j : Int) ∧ L.length = l.length + 2 ∧ Buf wr g L ∧ Fr (· = g) w wr) (fun i _ => (l.length + 2 - intOf i).toNat)
  case atStart => exact ⟨0, _, by omega, rfl, by simp, hG, (Fr.refl _ _).drewN _⟩
  case round =>
    obtain ⟨j, L, hj, rfl, hL, hB, hF⟩ := hrel
    have HL := Lib.hid hL
    by_cases hlt : j < l.length + 2
    · have h1 : (j : Int) < (l.length : Int) + 2 := by omega
      have hj' : j < L.length := by omega
      have k1 := hB.cell (i := j) hj'
      have k2 := hB.frozen j
      clear hL
      go_wp2
      go_roundw
      case rel => exact ⟨j + 1, L.set j 83, by omega, by go_num, by rw [List.length_set]; exact HL.out, hB.set_ j 83, hF.set_ (p := ⟨g, j, none⟩) (.inl rfl) _⟩
      case measure => simp [intOf]; omega
    · have h1 : ¬ (j : Int) < (l.length : Int) + 2 := by omega
      clear hL
      go_wp2
      go_ret
      exact ⟨rfl, hF⟩
end Go.Proofs.Ytlhfphidanjafaa
