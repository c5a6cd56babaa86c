/- slipwaylaw04: filled, live. -/
import Derived.Test.YtcdlpmnlblpinaaCardLaw
set_option linter.unusedVariables false
set_option linter.unusedSimpArgs false
namespace Go.Proofs.Ytcdlpmnlblpinaa
open Go.RowKit

set_option maxHeartbeats 1000000 in
theorem filled_any (x n : Nat) (w : World) (hx : x < 256) (hn : n ≤ 100000) :
    Calls Try.prog 30 #[.int .u8 (x : Int), .int .i64 (n : Int)] w fun e w' => e = .returned (.slice (some ⟨w.heap.size, 0, none⟩) n n) ∧ Buf w' w.heap.size (List.replicate n (UInt8.ofNat x)) ∧ Below w.heap.size w w' := by
  have hmk := make_bytes n (by omega)
  go_enter Try.func30, Try.ntmps30
  go_wp2_with fail
  have B1 : Buf (w.alloc (.cells (madeCells #[.int .u8 0] n) 5)) w.heap.size (List.replicate n 0) := Buf.made w _
  have O1 : Below w.heap.size w (w.alloc (.cells (madeCells #[.int .u8 0] n) 5)) := (Below.refl _ _).alloc (Nat.le_refl _) _
  generalize w.alloc (.cells (madeCells #[.int .u8 0] n) 5) = W1 at B1 O1 ⊢
  clear hmk
  go_loopw [6] (fun i wr => ∃ j : Nat, j ≤ n ∧ i = .int .i64 (j : Int) ∧ Buf wr w.heap.size (List.replicate j (UInt8.ofNat x) ++ List.replicate (n - j) 0) ∧ Below w.heap.size w wr) (fun i _ => (n - intOf i).toNat)
  case atStart => exact ⟨0, by omega, rfl, by simpa using B1, O1⟩
  case round =>
    obtain ⟨j, hj, rfl, hB, hO⟩ := hrel
    by_cases hlt : j < n
    · have h2 : (j : Int) < n := by omega
      have hlen : j < (List.replicate j (UInt8.ofNat x) ++ List.replicate (n - j) (0 : UInt8)).length := by simp; omega
      obtain ⟨u, k1⟩ := blk_some hB (i := j) (by rw [bvs_length]; exact hlen)
      have k2 := hB.frozen j
      have hp := hB.set_ j (UInt8.ofNat x)
      have e : (List.replicate j (UInt8.ofNat x) ++ List.replicate (n - j) (0 : UInt8)).set j (UInt8.ofNat x) = List.replicate (j + 1) (UInt8.ofNat x) ++ List.replicate (n - (j + 1)) 0 := by
        rw [List.set_append_right _ _ (by simp), List.length_replicate, Nat.sub_self, show n - j = (n - (j + 1)) + 1 from by omega, List.replicate_succ, List.set_cons_zero, List.replicate_succ', List.append_assoc]
        rfl
      rw [e, bv_nat x hx] at hp
      have HP := Lib.hid hp
      have HO := Lib.hid hO
      clear hB hlen hp e hO
      go_wp2
      go_roundw
      case rel => exact ⟨j + 1, by omega, by go_num, HP.out, HO.out.setCell (p := ⟨w.heap.size, j, none⟩) (by simp) _⟩
      case measure => simp [intOf]; omega
    · obtain rfl : j = n := by omega
      have h2 : ¬ (j : Int) < j := by omega
      go_wp2
      go_ret
      exact ⟨rfl, by simpa using hB, hO⟩

def f60 : List UInt8 := List.replicate 60 (UInt8.ofNat 1)
def s1 : CardSt := ⟨[⟨false, [9]⟩, ⟨true, []⟩], 1, [blank], 0, 1, 0, 0⟩
def s2 : CardSt := ⟨[⟨false, [9]⟩, ⟨true, []⟩], 1, [⟨true, f60⟩], 0, 1, 0, 0⟩
def s3 : CardSt := ⟨[⟨false, [9]⟩, ⟨true, []⟩], 1, [⟨false, []⟩], 0, 1, 0, 1⟩
theorem ok0 : (newSt 2 1).ok 0 := ⟨by decide, by decide, by decide, by decide, by decide, by decide, by decide, by decide, by decide⟩
theorem ok1 : s1.ok 1 := ⟨by decide, by decide, by decide, by decide, by decide, by decide, by decide, by decide, by decide⟩
theorem ok2 : s2.ok 1 := ⟨by decide, by decide, by decide, by decide, by decide, by decide, by decide, by decide, by decide⟩
theorem ok3 : s3.ok 1 := ⟨by decide, by decide, by decide, by decide, by decide, by decide, by decide, by decide, by decide⟩

set_option maxRecDepth 100000 in
set_option maxHeartbeats 4000000 in
theorem live_any (w : World) : Calls Try.prog 8 #[] w fun e w' => e = .returned (.bool true) ∧ Below w.heap.size w w' := by
  have hmk := New_ok 2 1
  go_enter Try.func8, Try.ntmps8
  go_wp2_with fail
  refine (New_ok 2 1 _ (by omega) (by omega) (by omega) (by omega)).mono ?_
  rintro e w1 ⟨c, gr, gt, rfl, hC, hc, hgr, hgt, hb⟩
  clear hmk
  have T1 := Lib.hid (CL.mk hC hb (Pool.nil w1 w.heap.size) ⟨hc, hgr, hgt⟩)
  clear hC hb hc hgr hgt
  go_wp2_with fail
  refine (filled_any 1 60 _ (by omega) (by omega)).mono ?_
  rintro e w2 ⟨rfl, hB, hb⟩
  have T2 := Lib.hid (T1.out.add hb (hB.whole (base := w1.heap.size) (n := 60) (Nat.le_refl _) (by simp) (by simp [maxLen])))
  clear hB hb T1
  have R2 : RA (w2.alloc (.cells #[.int .u8 9] 5)) (some ⟨w2.heap.size, 0, none⟩) [9] := by
    have : Buf (w2.alloc (.cells #[.int .u8 9] 5)) w2.heap.size [9] := Blk.new w2 5 [.int .u8 9]
    simpa using this.reads 0 1 (by simp)
  have HR2 := Lib.hid R2
  have TA := Lib.hid (T2.out.alloc (.cells #[.int .u8 9] 5))
  clear R2 T2
  go_wp2_with fail
  refine (Arrive_any c gr gt (newSt 2 1) 0 (some ⟨w2.heap.size, 0, none⟩) [9] 1 1 _ TA.out.card ok0 (by omega) HR2.out rfl (by omega)).mono ?_
  rintro e w3 ⟨rfl, hc, hf⟩
  have T3 : Hid (CL w w3 c gr gt s1 _) := Lib.hid (TA.out.foot hc hf)
  rw [show (arrive (newSt 2 1) [9]).1 = true from rfl]
  clear hc hf TA HR2
  go_wp2_with fail
  refine (Rx_any c gr gt s1 1 0 _ T3.out.card ok1).mono ?_
  rintro e w4 ⟨v4, rfl, ho, hb⟩
  rw [show (shown s1.rs 0).card = false from rfl, show shownE s1.rs 0 = 0 from rfl]
  have T4 : Hid (CL w w4 c gr gt s1 (_ ++ [(v4, [9])])) := Lib.hid (T3.out.add hb ho)
  obtain ⟨A4, c4, e4, hr4, _, _⟩ := ho.form
  have e4' : v4 = .slice A4 1 c4 := e4
  subst e4'
  clear ho hb hr4 e4 T3
  have T4b := Lib.hid (T4.out.alloc (.cells #[.bool false, .slice A4 1 c4] 32))
  have X4 : Blk (w4.alloc (.cells #[.bool false, .slice A4 1 c4] 32)) w4.heap.size 32 [.bool false, .slice A4 1 c4] := Blk.new w4 _ _
  have HX4 := Lib.hid X4
  clear X4 T4
  go_wp2_with fail
  generalize w4.alloc (.cells #[.bool false, .slice A4 1 c4] 32) = w5 at T4b HX4 ⊢
  refine (Give_any c gr gt s1 1 1 _ T4b.out.card ok1).mono ?_
  rintro e w6 ⟨rfl, hc, hf⟩
  rw [show giveE s1 1 = 41 from rfl]
  have T6 : Hid (CL w w6 c gr gt s1 _) := Lib.hid (T4b.out.foot hc hf)
  have HX6 := Lib.hid (HX4.out.fr hf (fun he => by
    have ht := HX4.out.ty
    rcases he with he | he | he
    · rw [he, T4b.out.card.blk.ty] at ht; revert ht; decide
    · rw [he, T4b.out.card.rx.ty] at ht; revert ht; decide
    · rw [he, T4b.out.card.tx.ty] at ht; revert ht; decide))
  clear hc hf T4b HX4
  go_wp2_with fail
  refine (Lay_any c gr gt s1 1 0 (some ⟨w1.heap.size, 0, none⟩) f60 60 60 _ T6.out.card ok1 (T6.out.pool.own (.slice (some ⟨w1.heap.size, 0, none⟩) 60 60, f60) (by simp [f60])).ra (by simp [f60]) (by omega)).mono ?_
  rintro e w7 ⟨rfl, hc, hf⟩
  rw [show layE s1 0 f60 = 0 from by decide]
  rw [show lay s1 0 f60 = s2 from rfl] at hc
  have T7 := Lib.hid (T6.out.foot hc hf)
  have HX7 := Lib.hid (HX6.out.fr hf (fun he => by
    have ht := HX6.out.ty
    rcases he with he | he | he
    · rw [he, T6.out.card.blk.ty] at ht; revert ht; decide
    · rw [he, T6.out.card.rx.ty] at ht; revert ht; decide
    · rw [he, T6.out.card.tx.ty] at ht; revert ht; decide))
  clear hc hf T6 HX6
  go_wp2_with fail
  refine (Depart_any c gr gt s2 1 _ T7.out.card ok2 (by omega)).mono ?_
  rintro e w8 ⟨v8, rfl, ho, hc, hf⟩
  rw [show (depart s2).1 = true from rfl]
  rw [show (depart s2).2.1 = f60 from rfl] at ho
  rw [show (depart s2).2.2 = s3 from rfl] at hc
  have T8 := Lib.hid (T7.out.out hc hf ho)
  obtain ⟨A8, c8, e8, _, _, _⟩ := ho.form
  have e8' : v8 = .slice A8 60 c8 := e8
  subst e8'
  clear ho e8
  have HX8 := Lib.hid (HX7.out.fr hf (fun he => by
    have ht := HX7.out.ty
    rcases he with he | he | he
    · rw [he, T7.out.card.blk.ty] at ht; revert ht; decide
    · rw [he, T7.out.card.rx.ty] at ht; revert ht; decide
    · rw [he, T7.out.card.tx.ty] at ht; revert ht; decide))
  clear hc hf T7 HX7
  go_wp2_with fail
  refine (Depart_any c gr gt s3 1 _ T8.out.card ok3 (by omega)).mono ?_
  rintro e w9 ⟨v9, rfl, ho, hc, hf⟩
  rw [show (depart s3).1 = false from rfl]
  rw [show (depart s3).2.1 = [] from rfl] at ho
  rw [show (depart s3).2.2 = s3 from rfl] at hc
  have T9 := Lib.hid (T8.out.out hc hf ho)
  obtain ⟨A9, c9, e9, _, _, _⟩ := ho.form
  have e9' : v9 = .slice A9 0 c9 := e9
  subst e9'
  clear ho e9
  have HX9 := Lib.hid (HX8.out.fr hf (fun he => by
    have ht := HX8.out.ty
    rcases he with he | he | he
    · rw [he, T8.out.card.blk.ty] at ht; revert ht; decide
    · rw [he, T8.out.card.rx.ty] at ht; revert ht; decide
    · rw [he, T8.out.card.tx.ty] at ht; revert ht; decide))
  clear hc hf T8 HX8
  go_wp2_with fail
  refine (Rings_any c gr gt s3 _ T9.out.card).mono ?_
  rintro e w10 ⟨rfl, q, rfl⟩
  rw [show ((s3.rs.length : Nat) : Int) = 2 from rfl, show ((s3.ts.length : Nat) : Int) = 1 from rfl]
  have T10 := Lib.hid (T9.out.drewN q)
  have HX10 := Lib.hid (HX9.out.drewN q)
  clear T9 HX9
  go_wp2_with fail
  refine (Counts_any c gr gt s3 _ T10.out.card).mono ?_
  rintro e w11 ⟨rfl, hb⟩
  rw [show ((s3.ins : Nat) : Int) = 1 from rfl, show ((s3.drops : Nat) : Int) = 0 from rfl, show ((s3.outs : Nat) : Int) = 1 from rfl]
  have T11 := Lib.hid ((T10.out.below hb).alloc (.cells #[.int .i64 1, .int .i64 0, .int .i64 1] 41))
  have HX11 := (HX10.out.beyond hb).alloc (.cells #[.int .i64 1, .int .i64 0, .int .i64 1] 41)
  have x0 := HX11.cell 0
  have x1 := HX11.cell 1
  simp only [List.getElem?_cons_zero, List.getElem?_cons_succ] at x0 x1
  have k9 := (T11.out.pool.own (.slice A4 1 c4, [9]) (by simp)).ra
  have k9' : ∀ ad, A4 = some ad → (w11.alloc (.cells #[.int .i64 1, .int .i64 0, .int .i64 1] 41)).cell? ad = some (.int .u8 9) := by
    intro ad hA
    rcases k9 with h | ⟨ad', e, _, hc⟩
    · simp at h
    · rw [hA] at e; injection e with e; subst e
      have := hc 0 (by simp)
      simpa [Addr.add, bv] using this
  obtain ⟨ad, hA4⟩ : ∃ ad, A4 = some ad := by
    rcases k9 with h | ⟨ad', e, _, hc⟩
    · simp at h
    · exact ⟨ad', e⟩
  have y9 := k9' ad hA4
  subst hA4
  have sA := conv_str 60 c8 (by simp [f60]) (T11.out.pool.own (.slice A8 60 c8, f60) (by simp)).ra
  have sB := conv_str 60 60 (by simp [f60]) (T11.out.pool.own (.slice (some ⟨w1.heap.size, 0, none⟩) 60 60, f60) (by simp [f60])).ra
  clear hb T10 HX10 HX11 k9 k9'
  go_wp2
  go_ret
  exact ⟨rfl, T11.out.old⟩
end Go.Proofs.Ytcdlpmnlblpinaa
