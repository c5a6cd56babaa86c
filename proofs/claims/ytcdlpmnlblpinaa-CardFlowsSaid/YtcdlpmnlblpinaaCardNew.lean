/- card.New. -/
import Derived.Test.YtcdlpmnlblpinaaCard3
import Derived.Outline
set_option linter.unusedVariables false
set_option linter.unusedSimpArgs false
namespace Go.Proofs.Ytcdlpmnlblpinaa
open Go.RowKit

theorem Try.info_slot : (Try.prog.info? 91).bind (fun i => i.zero.map fun z => (z.cells.size, z.cells[0]?, z.cells[1515]?, i.size, i.bytes)) = some (1516, some (.bool false), some (.int .i64 0), 1516, 1528) := by kernel_rfl
theorem run_make_rowN {P : Program} (t e : TypeId) (i : TypeInfo) (z : Value) (ht : P.underlying t = some (.slice e)) (hi : P.info? e = some i) (hz : i.zero = some z)
    (kl kc : IntKind) (n c : Nat) (hnc : n ≤ c) (hbytes : i.bytes * c ≤ 281474976710656) (h63 : c ≤ 9223372036854775807) (w : World) :
    (Instr.makeSlice t (.int kl (n : Int)) (.int kc (c : Int))).run P w = .ok (.slice (some ⟨w.heap.size, 0, none⟩) n c) (w.alloc (.cells (madeCells z.cells (c * i.size)) e)) := by
  have hb : (i.bytes : Int) * (c : Int) ≤ 281474976710656 := by
    have h : ((i.bytes * c : Nat) : Int) ≤ 281474976710656 := by omega
    rwa [Int.natCast_mul] at h
  have hr := run_make (P := P) w t e i z ht hi hz kl kc n c (by omega) (by omega) hb (by omega)
  simp only [Int.toNat_natCast] at hr
  exact hr
theorem SlotsAt.setCard {w : World} {g : Nat} {S : List Slot} (h : SlotsAt w g S) (i : Nat) (hi : i < S.length) (b : Bool) : SlotsAt (w.setCell ⟨g, i * 1516, none⟩ (.bool b)) g (S.set i ⟨b, S[i].data⟩) := by
  obtain ⟨cs, hb, h1, h2⟩ := h
  have hN : i * 1516 + 1516 ≤ S.length * 1516 := by
    have := Nat.mul_le_mul_right 1516 (Nat.succ_le_of_lt hi)
    rwa [Nat.succ_mul] at this
  refine ⟨_, hb.set_ _ _, by simp [h1], fun k hk => ?_⟩
  rw [List.length_set] at hk
  obtain ⟨⟨a1, a2, a3⟩, a4⟩ := h2 k hk
  have a4' : S[k].data.length ≤ 1514 := a4
  by_cases hki : k = i
  · subst hki
    rw [List.getElem_set_self]
    refine ⟨⟨?_, ?_, fun j hj => ?_⟩, a4⟩
    · rw [List.getElem?_set_self (by omega)]
    · rw [List.getElem?_set_ne (by omega)]; exact a2
    · have hj' : j < S[k].data.length := hj
      rw [List.getElem?_set_ne (by omega)]; exact a3 j hj'
  · rw [List.getElem_set_ne (Ne.symm hki)]
    refine ⟨⟨?_, ?_, fun j hj => ?_⟩, a4⟩
    · rw [List.getElem?_set_ne (by omega)]; exact a1
    · rw [List.getElem?_set_ne (by omega)]; exact a2
    · rw [List.getElem?_set_ne (by omega)]; exact a3 j hj

theorem New_no (rx tx : Int) (w : World) (h : rx < 1 ∨ 64 < rx ∨ tx < 1 ∨ 64 < tx) :
    Calls Try.prog 9 #[.int .i64 rx, .int .i64 tx] w fun e w' => e = .returned (.pointer none) ∧ w = w' := by
  by_cases h1 : rx < 1
  · go_enter Try.func9, Try.ntmps9
    go_wp2
    go_ret
    exact ⟨rfl, rfl⟩
  by_cases h2 : 64 < rx
  · go_enter Try.func9, Try.ntmps9
    go_wp2
    go_ret
    exact ⟨rfl, rfl⟩
  by_cases h3 : tx < 1
  · go_enter Try.func9, Try.ntmps9
    go_wp2
    go_ret
    exact ⟨rfl, rfl⟩
  have h4 : 64 < tx := by omega
  go_enter Try.func9, Try.ntmps9
  go_wp2
  go_ret
  exact ⟨rfl, rfl⟩

theorem madeCells_get (Z : Array Value) (N q : Nat) (hZ : Z.size = 1516) (hq : q < N) (v : Value) (hv : Z[q % 1516]? = some v) : (madeCells Z N).toList[q]? = some v := by
  rw [Array.getElem?_toList]
  simp only [madeCells]
  rw [Array.getElem?_map, Array.getElem?_range, if_pos hq, Option.map_some, hZ]
  congr 1
  rw [getElem!_def, hv]
theorem SlotsAt.made {Z : Array Value} (w : World) (k : Nat) (hZ1 : Z.size = 1516) (hZ2 : Z[0]? = some (.bool false)) (hZ3 : Z[1515]? = some (.int .i64 0)) : SlotsAt (w.alloc (.cells (madeCells Z (k * 1516)) 91)) w.heap.size (List.replicate k blank) := by
  refine ⟨(madeCells Z (k * 1516)).toList, by simpa using Blk.new w 91 (madeCells Z (k * 1516)).toList, by simp [size_madeCells], fun i hi => ?_⟩
  rw [List.length_replicate] at hi
  have hN : i * 1516 + 1516 ≤ k * 1516 := by
    have := Nat.mul_le_mul_right 1516 (Nat.succ_le_of_lt hi)
    rwa [Nat.succ_mul] at this
  rw [List.getElem_replicate]
  refine ⟨⟨?_, ?_, fun j hj => ?_⟩, by simp [Slot.ok, blank]⟩
  · exact madeCells_get Z _ _ hZ1 (by omega) _ (by rw [show i * 1516 % 1516 = 0 from by omega]; exact hZ2)
  · exact madeCells_get Z _ _ hZ1 (by omega) _ (by rw [show (i * 1516 + 1515) % 1516 = 1515 from by omega]; exact hZ3)
  · simp [blank] at hj
def freshSt (n m j : Nat) : CardSt := ⟨List.replicate j ⟨true, []⟩ ++ List.replicate (n - j) blank, 0, List.replicate m blank, 0, 0, 0, 0⟩
theorem fresh_next (n j : Nat) (h : j < n) : (List.replicate j (⟨true, []⟩ : Slot) ++ List.replicate (n - j) blank).set j ⟨true, []⟩ = List.replicate (j + 1) ⟨true, []⟩ ++ List.replicate (n - (j + 1)) blank := by
  rw [List.set_append_right _ _ (by simp), List.length_replicate, Nat.sub_self, show n - j = (n - (j + 1)) + 1 from by omega, List.replicate_succ, List.set_cons_zero, List.replicate_succ', List.append_assoc]
  rfl
def newSt (n m : Nat) : CardSt := ⟨List.replicate n ⟨true, []⟩, 0, List.replicate m blank, 0, 0, 0, 0⟩
def Made (w : World) (n m : Nat) (e : Ending) (w' : World) : Prop := ∃ c gr gt, e = .returned (.pointer (some ⟨c, 0, none⟩)) ∧ CardAt w' c gr gt (newSt n m) ∧ w.heap.size ≤ c ∧ w.heap.size ≤ gr ∧ w.heap.size ≤ gt ∧ Below w.heap.size w w'
set_option maxRecDepth 100000 in
set_option maxHeartbeats 2000000 in
theorem New_ok (n m : Nat) (w : World) (h1 : 1 ≤ n) (h2 : n ≤ 64) (h3 : 1 ≤ m) (h4 : m ≤ 64) :
    Calls Try.prog 9 #[.int .i64 (n : Int), .int .i64 (m : Int)] w (Made w n m) := by
  obtain ⟨Z, hmk, hZ1, hZ2, hZ3⟩ : ∃ Z : Array Value, (∀ (n : Nat), n ≤ 64 → ∀ W : World, (Instr.makeSlice 84 (.int .i64 (n : Int)) (.int .i64 (n : Int))).run Try.prog W = .ok (.slice (some ⟨W.heap.size, 0, none⟩) n n) (W.alloc (.cells (madeCells Z (n * 1516)) 91))) ∧ Z.size = 1516 ∧ Z[0]? = some (.bool false) ∧ Z[1515]? = some (.int .i64 0) := by
    have hs := Try.info_slot
    obtain ⟨i, hi, hs⟩ := Option.bind_eq_some_iff.1 hs
    obtain ⟨z, hz, hs⟩ := Option.map_eq_some_iff.1 hs
    simp only [Prod.mk.injEq] at hs
    obtain ⟨s1, s2, s3, s4, s5⟩ := hs
    refine ⟨z.cells, fun n hn W => ?_, s1, s2, s3⟩
    have := run_make_rowN (P := Try.prog) 84 91 i z Try.underlying84 hi hz .i64 .i64 n n (Nat.le_refl _) (by rw [s5]; omega) (by omega) W
    rwa [s4] at this
  have mk1 := hmk n h2
  have mk2 := hmk m h4
  clear hmk
  go_enter Try.func9, Try.ntmps9
  go_wp2_with fail
  go_region
  · obtain ⟨W, hW⟩ : ∃ W, (((w.alloc (.cells (madeCells Z (n * 1516)) 91)).alloc (.cells (madeCells Z (m * 1516)) 91)).alloc (.cells #[.slice (some ⟨w.heap.size, 0, none⟩) n n, .int .i64 0, .slice (some ⟨(w.heap.size + 1), 0, none⟩) m m, .int .i64 0, .int .i64 0, .int .i64 0, .int .i64 0] 88)).drew = W := ⟨_, rfl⟩
    have hr : SlotsAt W w.heap.size (List.replicate n blank) := by rw [← hW]; exact (by exact (((SlotsAt.made w n hZ1 hZ2 hZ3).below ((Below.refl _ _).alloc (Nat.le_refl _) _)).below ((Below.refl _ _).alloc (Nat.le_refl _) _)).drew)
    have ht : SlotsAt W (w.heap.size + 1) (List.replicate m blank) := by rw [← hW]; exact (by exact ((by simpa using SlotsAt.made (w.alloc (.cells (madeCells Z (n * 1516)) 91)) m hZ1 hZ2 hZ3 : SlotsAt ((w.alloc (.cells (madeCells Z (n * 1516)) 91)).alloc (.cells (madeCells Z (m * 1516)) 91)) (w.heap.size + 1) (List.replicate m blank)).below ((Below.refl _ _).alloc (Nat.le_refl _) _)).drew)
    have hk : Blk W (w.heap.size + 1 + 1) 88 ((freshSt n m 0).cells w.heap.size (w.heap.size + 1)) := by
      rw [← hW]
      have := Blk.new ((w.alloc (.cells (madeCells Z (n * 1516)) 91)).alloc (.cells (madeCells Z (m * 1516)) 91)) 88 ((freshSt n m 0).cells w.heap.size (w.heap.size + 1))
      simp only [World.size_alloc] at this
      simp only [freshSt, CardSt.cells, List.replicate_zero, List.nil_append, Nat.sub_zero, List.length_replicate] at this ⊢
      exact this
    have hO : Below w.heap.size w W := by rw [← hW]; exact below_drew' ((((Below.refl _ w).alloc (Nat.le_refl _) _).alloc (by simp) _).alloc (by simp <;> omega) _)
    have hC : CardAt W (w.heap.size + 1 + 1) w.heap.size (w.heap.size + 1) (freshSt n m 0) := ⟨hk, by simpa [freshSt] using hr, by simpa [freshSt] using ht, by omega⟩
    rw [hW]
    clear hr ht hk hW hZ1 hZ2 hZ3 mk1 mk2
    have x0 := hC.blk.cell 0
    simp only [CardSt.cells, freshSt, List.getElem?_cons_zero, List.length_append, List.length_replicate, Nat.zero_add, Nat.sub_zero] at x0
    go_wp2_with fail
    clear x0
    go_loopw [6, 35] (fun _ k wr => ∃ j : Nat, j ≤ n ∧ k = .int .i64 (j : Int) ∧ CardAt wr (w.heap.size + 1 + 1) w.heap.size (w.heap.size + 1) (freshSt n m j) ∧ Below w.heap.size w wr) (fun _ k _ => (n - intOf k).toNat)
    case atStart => exact ⟨0, by omega, rfl, hC, hO⟩
    case round =>
      obtain ⟨j, hj, rfl, hc, ho⟩ := hrel
      by_cases hlt : j < n
      · have l0 : (freshSt n m j).rs.length = n := by simp [freshSt]; omega
        have hi : j < (freshSt n m j).rs.length := by omega
        have x0 := hc.blk.cell 0
        simp only [CardSt.cells, List.getElem?_cons_zero, l0] at x0
        have x1 := slot_card hc.rx hi
        obtain ⟨cs, hb, _⟩ := hc.rx
        have x2 := hb.frozen (j * 1516)
        have hs := hc.rx.setCard j hi true
        have hd : (freshSt n m j).rs[j].data = [] := by
          simp only [freshSt]
          rw [List.getElem_append_right (by simp)]
          simp [blank]
        rw [hd] at hs
        simp only [freshSt] at hs
        rw [fresh_next n j hlt] at hs
        have hf : Fr (· = w.heap.size) wr (wr.setCell ⟨w.heap.size, j * 1516, none⟩ (.bool true)) := (Fr.refl (· = w.heap.size) _).set_ (p := ⟨w.heap.size, j * 1516, none⟩) (.inl rfl) _
        have hn := hc.rx_to hs (by rw [l0]; simp; omega) hf
        have HN := Lib.hid hn
        have HO := Lib.hid (hf.on_below ho ho.size (fun b hb e => by omega))
        have h5 : (j : Int) < n := by omega
        generalize (freshSt n m j).rs[j].card = b0 at x1
        clear l0 hi hb hs hd hn hf
        go_wp2
        go_roundw
        case rel => exact ⟨j + 1, by omega, by go_num, HN.out, HO.out⟩
        case measure => simp [intOf]; omega
      · obtain rfl : j = n := by omega
        have h5 : ¬ (j : Int) < j := by omega
        go_wp2
        go_ret
        refine ⟨w.heap.size + 1 + 1, w.heap.size, (w.heap.size + 1), rfl, ?_, by omega, by omega, by omega, ho⟩
        simpa [freshSt, newSt] using hc
  · obtain ⟨W, hW⟩ : ∃ W, (((w.alloc (.cells (madeCells Z (m * 1516)) 91)).alloc (.cells (madeCells Z (n * 1516)) 91)).alloc (.cells #[.slice (some ⟨(w.heap.size + 1), 0, none⟩) n n, .int .i64 0, .slice (some ⟨w.heap.size, 0, none⟩) m m, .int .i64 0, .int .i64 0, .int .i64 0, .int .i64 0] 88)).drew = W := ⟨_, rfl⟩
    have hr : SlotsAt W (w.heap.size + 1) (List.replicate n blank) := by rw [← hW]; exact (by exact ((by simpa using SlotsAt.made (w.alloc (.cells (madeCells Z (m * 1516)) 91)) n hZ1 hZ2 hZ3 : SlotsAt ((w.alloc (.cells (madeCells Z (m * 1516)) 91)).alloc (.cells (madeCells Z (n * 1516)) 91)) (w.heap.size + 1) (List.replicate n blank)).below ((Below.refl _ _).alloc (Nat.le_refl _) _)).drew)
    have ht : SlotsAt W w.heap.size (List.replicate m blank) := by rw [← hW]; exact (by exact (((SlotsAt.made w m hZ1 hZ2 hZ3).below ((Below.refl _ _).alloc (Nat.le_refl _) _)).below ((Below.refl _ _).alloc (Nat.le_refl _) _)).drew)
    have hk : Blk W (w.heap.size + 1 + 1) 88 ((freshSt n m 0).cells (w.heap.size + 1) w.heap.size) := by
      rw [← hW]
      have := Blk.new ((w.alloc (.cells (madeCells Z (m * 1516)) 91)).alloc (.cells (madeCells Z (n * 1516)) 91)) 88 ((freshSt n m 0).cells (w.heap.size + 1) w.heap.size)
      simp only [World.size_alloc] at this
      simp only [freshSt, CardSt.cells, List.replicate_zero, List.nil_append, Nat.sub_zero, List.length_replicate] at this ⊢
      exact this
    have hO : Below w.heap.size w W := by rw [← hW]; exact below_drew' ((((Below.refl _ w).alloc (Nat.le_refl _) _).alloc (by simp) _).alloc (by simp <;> omega) _)
    have hC : CardAt W (w.heap.size + 1 + 1) (w.heap.size + 1) w.heap.size (freshSt n m 0) := ⟨hk, by simpa [freshSt] using hr, by simpa [freshSt] using ht, by omega⟩
    rw [hW]
    clear hr ht hk hW hZ1 hZ2 hZ3 mk1 mk2
    have x0 := hC.blk.cell 0
    simp only [CardSt.cells, freshSt, List.getElem?_cons_zero, List.length_append, List.length_replicate, Nat.zero_add, Nat.sub_zero] at x0
    go_wp2_with fail
    clear x0
    go_loopw [6, 35] (fun _ k wr => ∃ j : Nat, j ≤ n ∧ k = .int .i64 (j : Int) ∧ CardAt wr (w.heap.size + 1 + 1) (w.heap.size + 1) w.heap.size (freshSt n m j) ∧ Below w.heap.size w wr) (fun _ k _ => (n - intOf k).toNat)
    case atStart => exact ⟨0, by omega, rfl, hC, hO⟩
    case round =>
      obtain ⟨j, hj, rfl, hc, ho⟩ := hrel
      by_cases hlt : j < n
      · have l0 : (freshSt n m j).rs.length = n := by simp [freshSt]; omega
        have hi : j < (freshSt n m j).rs.length := by omega
        have x0 := hc.blk.cell 0
        simp only [CardSt.cells, List.getElem?_cons_zero, l0] at x0
        have x1 := slot_card hc.rx hi
        obtain ⟨cs, hb, _⟩ := hc.rx
        have x2 := hb.frozen (j * 1516)
        have hs := hc.rx.setCard j hi true
        have hd : (freshSt n m j).rs[j].data = [] := by
          simp only [freshSt]
          rw [List.getElem_append_right (by simp)]
          simp [blank]
        rw [hd] at hs
        simp only [freshSt] at hs
        rw [fresh_next n j hlt] at hs
        have hf : Fr (· = (w.heap.size + 1)) wr (wr.setCell ⟨(w.heap.size + 1), j * 1516, none⟩ (.bool true)) := (Fr.refl (· = (w.heap.size + 1)) _).set_ (p := ⟨(w.heap.size + 1), j * 1516, none⟩) (.inl rfl) _
        have hn := hc.rx_to hs (by rw [l0]; simp; omega) hf
        have HN := Lib.hid hn
        have HO := Lib.hid (hf.on_below ho ho.size (fun b hb e => by omega))
        have h5 : (j : Int) < n := by omega
        generalize (freshSt n m j).rs[j].card = b0 at x1
        clear l0 hi hb hs hd hn hf
        go_wp2
        go_roundw
        case rel => exact ⟨j + 1, by omega, by go_num, HN.out, HO.out⟩
        case measure => simp [intOf]; omega
      · obtain rfl : j = n := by omega
        have h5 : ¬ (j : Int) < j := by omega
        go_wp2
        go_ret
        refine ⟨w.heap.size + 1 + 1, (w.heap.size + 1), w.heap.size, rfl, ?_, by omega, by omega, by omega, ho⟩
        simpa [freshSt, newSt] using hc
end Go.Proofs.Ytcdlpmnlblpinaa
