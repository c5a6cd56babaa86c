/- CardFlows: the walk of the statement. -/
import Derived.Test.YtcdlpmnlblpinaaFlow
import Derived.Test.YtcdlpmnlblpinaaLive04
import Derived.Outline
set_option linter.unusedVariables false
set_option linter.unusedSimpArgs false
namespace Go.Proofs.Ytcdlpmnlblpinaa
open Go.RowKit

structure OpV where
  kind : Int
  i : Int
  A : Option Addr
  b : List UInt8
  k : Nat
structure OpV.ok (o : OpV) : Prop where
  kind : -9223372036854775808 ≤ o.kind ∧ o.kind ≤ 9223372036854775807
  i : -9223372036854775808 ≤ o.i ∧ o.i ≤ 9223372036854775807
  b : o.b.length ≤ o.k
  k : o.k ≤ 9223372036854775807
  l : o.b.length ≤ 140737488351232
def OpsAt (w : World) (A : Option Addr) (ops : List OpV) : Prop :=
  ∀ (j : Nat) (h : j < ops.length), ∃ ad, A = some ad ∧ ad.block < w.heap.size ∧ w.cell? (ad.add (j * 3)) = some (.int .i64 ops[j].kind) ∧ w.cell? ((ad.add (j * 3)).add 1) = some (.int .i64 ops[j].i) ∧
    w.cell? ((ad.add (j * 3)).add 2) = some (.slice ops[j].A ops[j].b.length ops[j].k) ∧ RA w ops[j].A ops[j].b ∧ ops[j].ok

def FlowPost (w : World) (e : Ending) (w' : World) : Prop := e = .returned (.bool true) ∧ Below w.heap.size w w'

set_option maxRecDepth 100000 in
set_option maxHeartbeats 2000000 in
theorem CardFlows_bad (rx tx : Int) (v : Value) (w : World) (h : rx < 1 ∨ 64 < rx ∨ tx < 1 ∨ 64 < tx) :
    Calls Try.prog 3 #[.int .i64 rx, .int .i64 tx, v] w fun e w' => e = .returned (.bool true) ∧ Below w.heap.size w w' := by
  by_cases h1 : rx < 1
  · go_enter Try.func3, Try.ntmps3
    go_wp2_with (first
      | (go_at_call 8; refine (live_any _).mono ?_; rintro e w1 ⟨rfl, hb1⟩)
      | (go_at_call 9; refine (New_no rx tx _ (by omega)).mono ?_; rintro e w' ⟨rfl, rfl⟩))
    go_ret
    exact ⟨rfl, hb1⟩
  by_cases h2 : 64 < rx
  · go_enter Try.func3, Try.ntmps3
    go_wp2_with (first
      | (go_at_call 8; refine (live_any _).mono ?_; rintro e w1 ⟨rfl, hb1⟩)
      | (go_at_call 9; refine (New_no rx tx _ (by omega)).mono ?_; rintro e w' ⟨rfl, rfl⟩))
    go_ret
    exact ⟨rfl, hb1⟩
  by_cases h3 : tx < 1
  · go_enter Try.func3, Try.ntmps3
    go_wp2_with (first
      | (go_at_call 8; refine (live_any _).mono ?_; rintro e w1 ⟨rfl, hb1⟩)
      | (go_at_call 9; refine (New_no rx tx _ (by omega)).mono ?_; rintro e w' ⟨rfl, rfl⟩))
    go_ret
    exact ⟨rfl, hb1⟩
  have h4 : 64 < tx := by omega
  go_enter Try.func3, Try.ntmps3
  go_wp2_with (first
    | (go_at_call 8; refine (live_any _).mono ?_; rintro e w1 ⟨rfl, hb1⟩)
    | (go_at_call 9; refine (New_no rx tx _ (by omega)).mono ?_; rintro e w' ⟨rfl, rfl⟩))
  go_ret
  exact ⟨rfl, hb1⟩

/-- how memory stands in a round -/
structure FL (w W : World) (c gr gt : Nat) (s : CardSt) (cv lv : Value) (came laid : List (List UInt8)) : Prop where
  card : CardAt W c gr gt s
  old : Below w.heap.size w W
  far : w.heap.size ≤ c ∧ w.heap.size ≤ gr ∧ w.heap.size ≤ gt
  came : W.ownsRow w.heap.size 9 1 cv came.length (came.map fun b => .string ⟨b.toArray⟩)
  laid : W.ownsRow w.heap.size 9 1 lv laid.length (laid.map fun b => .string ⟨b.toArray⟩)
  apart : ∀ g, cv.ownBlock = some g → lv.ownBlock ≠ some g

theorem CardAt.not_box {w : World} {c gr gt : Nat} {s : CardSt} (h : CardAt w c gr gt s) {g : Nat} {t : TypeId} {cs : List Value} (hb : Blk w g t cs) (h1 : t ≠ 88) (h2 : t ≠ 91) : ¬ Foot c gr gt g := by
  intro he
  have ht := hb.ty
  rcases he with rfl | rfl | rfl
  · rw [h.blk.ty] at ht; injection ht with ht; exact h1 ht.symm
  · rw [h.rx.ty] at ht; injection ht with ht; exact h2 ht.symm
  · rw [h.tx.ty] at ht; injection ht with ht; exact h2 ht.symm
section
variable {w W W' : World} {c gr gt : Nat} {s s' : CardSt} {cv lv v' : Value} {came laid : List (List UInt8)}
theorem FL.below (h : FL w W c gr gt s cv lv came laid) (hb : Below W.heap.size W W') : FL w W' c gr gt s cv lv came laid :=
  ⟨h.card.below hb, below_then' h.old h.old.size hb, h.far, owns_fr (S := fun _ => False) h.came (Fr.of_below hb) (fun _ _ h => h), owns_fr (S := fun _ => False) h.laid (Fr.of_below hb) (fun _ _ h => h), h.apart⟩
theorem FL.alloc (h : FL w W c gr gt s cv lv came laid) (o : Obj) : FL w (W.alloc o) c gr gt s cv lv came laid := h.below ((Below.refl _ W).alloc (Nat.le_refl _) o)
theorem FL.drewN (h : FL w W c gr gt s cv lv came laid) (n : Nat) : FL w (W.drewN n) c gr gt s cv lv came laid := ⟨h.card.drewN n, below_drewN' h.old n, h.far, h.came, h.laid, h.apart⟩
theorem FL.foot (h : FL w W c gr gt s cv lv came laid) (hc : CardAt W' c gr gt s') (f : Fr (Foot c gr gt) W W') : FL w W' c gr gt s' cv lv came laid :=
  ⟨hc, f.on_below h.old h.old.size (fun k hk he => by have := h.far; rcases he with rfl | rfl | rfl <;> omega), h.far, owns_fr h.came f (h.card.not_foot h.came (by decide) (by decide)), owns_fr h.laid f (h.card.not_foot h.laid (by decide) (by decide)), h.apart⟩
theorem FL.push_came (h : FL w W c gr gt s cv lv came laid) {o : Obj} (hg : (W.alloc o).grownBy W' cv.ownBlock) {l : List UInt8} (ho : W'.ownsRow w.heap.size 9 1 v' (came.length + 1) (came.map (fun b => .string ⟨b.toArray⟩) ++ [.string ⟨l.toArray⟩]))
    (ha : v'.ownBlock = cv.ownBlock ∨ ∃ k, v'.ownBlock = some k ∧ (W.alloc o).heap.size ≤ k) : FL w W' c gr gt s v' lv (came ++ [l]) laid := by
  have f : Fr (fun g => cv.ownBlock = some g) W W' := ((Fr.refl _ W).alloc o).then_ (Fr.of_grown (S := fun g => cv.ownBlock = some g) hg fun g h => h) fun _ _ h => h
  refine ⟨h.card.fr f (fun e => owns_blk h.came h.card.blk (by decide) e) (fun e => ?_) (fun e => ?_), f.on_below h.old h.old.size (fun k hk e => by have := (owns_lt h.came e).1; omega), h.far, by simpa using ho, owns_fr h.laid f (fun g hg he => h.apart g he hg), fun g hg he => ?_⟩
  · have ht := owns_ty h.came e
    rw [h.card.rx.ty] at ht; revert ht; decide
  · have ht := owns_ty h.came e
    rw [h.card.tx.ty] at ht; revert ht; decide
  · rcases ha with ha | ⟨k, hk, hle⟩
    · rw [ha] at hg; exact h.apart g hg he
    · rw [hk] at hg; injection hg with hg
      have := (owns_lt h.laid he).2
      simp at hle; omega
theorem FL.push_laid (h : FL w W c gr gt s cv lv came laid) {o : Obj} (hg : (W.alloc o).grownBy W' lv.ownBlock) {l : List UInt8} (ho : W'.ownsRow w.heap.size 9 1 v' (laid.length + 1) (laid.map (fun b => .string ⟨b.toArray⟩) ++ [.string ⟨l.toArray⟩]))
    (ha : v'.ownBlock = lv.ownBlock ∨ ∃ k, v'.ownBlock = some k ∧ (W.alloc o).heap.size ≤ k) : FL w W' c gr gt s cv v' came (laid ++ [l]) := by
  have f : Fr (fun g => lv.ownBlock = some g) W W' := ((Fr.refl _ W).alloc o).then_ (Fr.of_grown (S := fun g => lv.ownBlock = some g) hg fun g h => h) fun _ _ h => h
  refine ⟨h.card.fr f (fun e => owns_blk h.laid h.card.blk (by decide) e) (fun e => ?_) (fun e => ?_), f.on_below h.old h.old.size (fun k hk e => by have := (owns_lt h.laid e).1; omega), h.far, owns_fr h.came f (fun g hg he => h.apart g hg he), by simpa using ho, fun g hg he => ?_⟩
  · have ht := owns_ty h.laid e
    rw [h.card.rx.ty] at ht; revert ht; decide
  · have ht := owns_ty h.laid e
    rw [h.card.tx.ty] at ht; revert ht; decide
  · rcases ha with ha | ⟨k, hk, hle⟩
    · rw [ha] at he; exact h.apart g hg he
    · rw [hk] at he; injection he with he
      have := (owns_lt h.came hg).2
      simp at hle; omega
end
theorem Try.info_str' : (Try.prog.info? 9).map (fun i => (i.zero, i.size, i.bytes)) = some (some (.string ⟨#[]⟩), 1, 16) := by kernel_rfl
/-- the counts go on -/
theorem CardSt.ok.next {s : CardSt} {j : Nat} (h : s.ok j) : s.ok (j + 1) := ⟨h.r1, h.r2, h.r3, h.t1, h.t2, h.t3, by have := h.c1; omega, by have := h.c2; omega, by have := h.c3; omega⟩
theorem ok_arrive {s : CardSt} {j : Nat} (h : s.ok j) (b : List UInt8) : (arrive s b).2.ok (j + 1) ∧ (arrive s b).2.rs.length = s.rs.length ∧ (arrive s b).2.ts.length = s.ts.length := by
  have hp : (s.rn + 1) % s.rs.length < s.rs.length := Nat.mod_lt _ h.r1
  unfold arrive
  split
  · exact ⟨h.next, rfl, rfl⟩
  split
  · exact ⟨⟨by simpa using h.r1, by simpa using h.r2, by simpa using hp, h.t1, h.t2, h.t3, Nat.succ_le_succ h.c1, Nat.le_succ_of_le h.c2, Nat.le_succ_of_le h.c3⟩, by simp, rfl⟩
  · exact ⟨⟨h.r1, h.r2, h.r3, h.t1, h.t2, h.t3, Nat.le_succ_of_le h.c1, Nat.succ_le_succ h.c2, Nat.le_succ_of_le h.c3⟩, rfl, rfl⟩
theorem ok_depart {s : CardSt} {j : Nat} (h : s.ok j) : (depart s).2.2.ok (j + 1) ∧ (depart s).2.2.rs.length = s.rs.length ∧ (depart s).2.2.ts.length = s.ts.length := by
  have hp : (s.tn + 1) % s.ts.length < s.ts.length := Nat.mod_lt _ h.t1
  unfold depart
  split
  · exact ⟨⟨h.r1, h.r2, h.r3, by simpa using h.t1, by simpa using h.t2, by simpa using hp, Nat.le_succ_of_le h.c1, Nat.le_succ_of_le h.c2, Nat.succ_le_succ h.c3⟩, rfl, by simp⟩
  · exact ⟨h.next, rfl, rfl⟩
theorem ok_give {s : CardSt} {j : Nat} (h : s.ok j) (i : Int) : (give s i).ok (j + 1) ∧ (give s i).rs.length = s.rs.length ∧ (give s i).ts.length = s.ts.length := by
  unfold give
  split
  · exact ⟨⟨by simpa using h.r1, by simpa using h.r2, by simpa using h.r3, h.t1, h.t2, h.t3, Nat.le_succ_of_le h.c1, Nat.le_succ_of_le h.c2, Nat.le_succ_of_le h.c3⟩, by simp, rfl⟩
  · exact ⟨h.next, rfl, rfl⟩
theorem ok_lay {s : CardSt} {j : Nat} (h : s.ok j) (i : Int) (b : List UInt8) : (lay s i b).ok (j + 1) ∧ (lay s i b).rs.length = s.rs.length ∧ (lay s i b).ts.length = s.ts.length := by
  unfold lay
  split
  · exact ⟨⟨h.r1, h.r2, h.r3, by simpa using h.t1, by simpa using h.t2, by simpa using h.t3, Nat.le_succ_of_le h.c1, Nat.le_succ_of_le h.c2, Nat.le_succ_of_le h.c3⟩, rfl, by simp⟩
  · exact ⟨h.next, rfl, rfl⟩

set_option maxRecDepth 100000 in
set_option maxHeartbeats 8000000 in
theorem CardFlows_ok (n m : Nat) (AS : Option Addr) (ops : List OpV) (N k : Nat) (w : World) (h1 : 1 ≤ n) (h2 : n ≤ 64) (h3 : 1 ≤ m) (h4 : m ≤ 64) (hN : N = ops.length) (hN2 : N ≤ 3600000000000) (hA : OpsAt w AS ops) :
    Calls Try.prog 3 #[.int .i64 (n : Int), .int .i64 (m : Int), .slice AS N k] w (FlowPost w) := by
  subst hN
  have HA := Lib.hid hA
  clear hA
  go_enter Try.func3, Try.ntmps3
  go_wp2_with fail
  refine (live_any _).mono ?_
  rintro e w1 ⟨rfl, hb1⟩
  go_wp2_with fail
  refine (New_ok n m _ h1 h2 h3 h4).mono ?_
  rintro e w2 ⟨c, gr, gt, rfl, hC, hc, hgr, hgt, hb⟩
  have F0 : Flow (newSt n m) [] 0 0 [] 0 0 := Flow.new n m h1 h3 rfl
  have S0 : FL w w2 c gr gt (newSt n m) (.slice none 0 0) (.slice none 0 0) [] [] := ⟨hC, below_then' hb1 hb1.size hb, ⟨by have := hb1.size; omega, by have := hb1.size; omega, by have := hb1.size; omega⟩, World.ownsRow_nil _ _ _ _, World.ownsRow_nil _ _ _ _, fun g hg => by simp [Value.ownBlock] at hg⟩
  have K0 : (newSt n m).ok 0 ∧ (newSt n m).rs.length = n ∧ (newSt n m).ts.length = m := ⟨⟨by simp [newSt]; omega, by simp [newSt]; omega, by simp [newSt]; omega, by simp [newSt]; omega, by simp [newSt]; omega, by simp [newSt]; omega, by simp [newSt], by simp [newSt], by simp [newSt]⟩, by simp [newSt], by simp [newSt]⟩
  have HF0 := Lib.hid F0
  have HS0 := Lib.hid S0
  have HK0 := Lib.hid K0
  clear hb1 hC hc hgr hgt hb F0 S0 K0
  go_wp2_with fail
  go_loopw [9, 10, 11, 12, 13, 14, 15] (fun cv lv got gone r t i wr => ∃ (j : Nat) (s : CardSt) (came laid : List (List UInt8)) (g q a b : Nat), j ≤ ops.length ∧ i = .int .i64 (j : Int) ∧ got = .int .i64 (g : Int) ∧ gone = .int .i64 (q : Int) ∧ r = .int .i64 (a : Int) ∧ t = .int .i64 (b : Int) ∧
      FL w wr c gr gt s cv lv came laid ∧ Flow s came g a laid q b ∧ s.ok j ∧ s.rs.length = n ∧ s.ts.length = m ∧ came.length ≤ j ∧ laid.length ≤ j) (fun _ _ _ _ _ _ i _ => (ops.length - intOf i).toNat)
  case atStart => exact ⟨0, _, [], [], 0, 0, 0, 0, by omega, rfl, rfl, rfl, rfl, rfl, HS0.out, HF0.out, HK0.out.1, HK0.out.2.1, HK0.out.2.2, by simp, by simp⟩
  case round =>
    obtain ⟨j, s, came, laid, g, q, a, b, hj, rfl, rfl, rfl, rfl, rfl, hS, hF, hok, hn, hm, hcj, hlj⟩ := hrel
    clear HS0 HF0 HK0
    have HS := Lib.hid hS
    have HF := Lib.hid hF
    have HO := Lib.hid hok
    have HNM := Lib.hid (And.intro hn hm)
    clear hS hF hok hn hm
    by_cases hlt : j < ops.length
    · have h5 : (j : Int) < ops.length := by omega
      obtain ⟨ad, rfl, hbk, x0, x1, x2, hRA, hop⟩ := HA.out j hlt
      have y0 := (HS.out.old.cell (p := ad.add (j * 3)) (by rw [block_add]; exact hbk)).trans x0
      have y1 : wr.cell? ⟨(ad.add (j * 3)).block, (ad.add (j * 3)).off + 1, none⟩ = _ := (HS.out.old.cell (p := (ad.add (j * 3)).add 1) (by rw [block_add, block_add]; exact hbk)).trans x1
      have y2 : wr.cell? ⟨(ad.add (j * 3)).block, (ad.add (j * 3)).off + 2, none⟩ = _ := (HS.out.old.cell (p := (ad.add (j * 3)).add 2) (by rw [block_add, block_add]; exact hbk)).trans x2
      have hRW := hRA.below (w := w) HS.out.old
      obtain ⟨o, ho⟩ : ∃ o, ops[j] = o := ⟨_, rfl⟩
      rw [ho] at y0 y1 y2 hRW hop
      have HRw := Lib.hid (ho ▸ hRA : RA w o.A o.b)
      clear ho x0 x1 x2 hRA
      obtain ⟨kd, ii, B, l, kk⟩ := o
      obtain ⟨k1, k2, k3, k4, k5⟩ := hop
      simp only at y0 y1 y2 hRW k1 k2 k3 k4 k5 HRw
      have hw2 : w.heap.size ≤ wr.heap.size := HS.out.old.size
      have X0 : Blk (wr.alloc (.cells #[.int .i64 kd, .int .i64 ii, .slice B l.length kk] 29)) wr.heap.size 29 [.int .i64 kd, .int .i64 ii, .slice B l.length kk] := Blk.new wr _ _
      have HX := Lib.hid X0
      have HS1 := Lib.hid (HS.out.alloc (.cells #[.int .i64 kd, .int .i64 ii, .slice B l.length kk] 29))
      obtain ⟨CA, cc, e9, _, _, hCell⟩ := owns_form HS.out.came
      obtain ⟨LA, lc, e10, _, _, hLell⟩ := owns_form HS.out.laid
      subst e9 e10
      have HCL := Lib.hid hCell
      have HLL := Lib.hid hLell
      have hle := HF.out.rx.le
      have hle2 := HF.out.tx.le
      have hal : a < n := by have := HF.out.rx.lt g; rw [← HF.out.r, HNM.out.1] at this; exact this
      have hbl : b < m := by have := HF.out.tx.lt laid.length; rw [← HF.out.t, HNM.out.2] at this; exact this
      clear hRW X0 hCell hLell
      by_cases e1 : kd = 1
      · as_aux_lemma =>
        subst e1
        have HAR := Lib.hid (HF.out.arrive l)
        have hrn : s.rs.length = n := HNM.out.1
        by_cases hroom : came.length - g < n ∧ 0 < l.length ∧ l.length ≤ 1514
        · as_aux_lemma =>
          have ha : (arrive s l).1 = true := by rw [HAR.out.1, hrn]; simp; omega
          have HA1 := Lib.hid ha
          have hrm : (came.length : Int) - g < n := by omega
          have hr1 : (0 : Int) < l.length := by omega
          have hr2 : (l.length : Int) ≤ 1514 := by omega
          clear ha hrn hroom
          go_wp2_with (first
            | (go_at_call 10; refine (Arrive_any c gr gt s j B l l.length kk _ HS1.out.card HO.out (by omega) (HRw.out.below HS1.out.old) rfl k5).mono ?_; rintro e w3 ⟨rfl, hc3, hf3⟩; rw [HA1.out]; have HS3 := Lib.hid (HS1.out.foot hc3 hf3); have hx3 := (HX.out.fr hf3 (HS1.out.card.not_box HX.out (by decide) (by decide))).cell 2; simp only [List.getElem?_cons_zero, List.getElem?_cons_succ] at hx3; have sc := conv_str l.length kk rfl (HRw.out.below HS3.out.old); clear hc3 hf3)
            | (at_builtin; refine appE (W := w3.alloc (.cells #[.string ⟨l.toArray⟩] 9)) w.heap.size 26 9 (.string ⟨#[]⟩) 16 Try.underlying26 Try.info_str' rfl rfl _ _ rfl (.slice CA came.length cc) came.length (came.map fun b => .string ⟨b.toArray⟩) (.string ⟨l.toArray⟩) ⟨w3.heap.size, 0, none⟩ rfl rfl rfl (cell_box _ _ _) (World.ownsRow.alloc HS3.out.came _) (by have := HS3.out.old.size; simp; omega) (by omega) (by omega) ?_; intro v4 w4 o4 g4 a4; have HS4 := Lib.hid (HS3.out.push_came g4 o4 a4); clear o4 g4 a4))
          go_roundw
          case rel => exact ⟨j + 1, _, came ++ [l], laid, g, q, a, b, by omega, by go_num, rfl, rfl, rfl, rfl, HS4.out, HAR.out.2.1 HA1.out, (ok_arrive HO.out l).1, (ok_arrive HO.out l).2.1.trans HNM.out.1, (ok_arrive HO.out l).2.2.trans HNM.out.2, by simp; omega, by omega⟩
          case measure => simp [intOf]; omega
        · as_aux_lemma =>
          have ha : (arrive s l).1 = false := by rw [HAR.out.1, hrn]; simp; omega
          have HA1 := Lib.hid ha
          clear ha hrn
          by_cases c1 : came.length - g < n
          all_goals by_cases c2 : 0 < l.length
          all_goals by_cases c3 : l.length ≤ 1514
          all_goals first
            | (exfalso; omega)
            | (go_wp2_with (go_at_call 10; refine (Arrive_any c gr gt s j B l l.length kk _ HS1.out.card HO.out (by omega) (HRw.out.below HS1.out.old) rfl k5).mono ?_; rintro e w3 ⟨rfl, hc3, hf3⟩; rw [HA1.out]; have HS3 := Lib.hid (HS1.out.foot hc3 hf3); clear hc3 hf3)
               go_roundw
               case rel => exact ⟨j + 1, _, came, laid, g, q, a, b, by omega, by go_num, rfl, rfl, rfl, rfl, HS3.out, HAR.out.2.2 HA1.out, (ok_arrive HO.out l).1, (ok_arrive HO.out l).2.1.trans HNM.out.1, (ok_arrive HO.out l).2.2.trans HNM.out.2, by omega, by omega⟩
               case measure => simp [intOf]; omega)
      by_cases e5 : kd = 5
      · as_aux_lemma =>
        subst e5
        by_cases hg : g < came.length
        · as_aux_lemma =>
          have hsh := HF.out.shown_some hg
          have hse := HF.out.shown_e
          have hgv := HF.out.give hg
          rw [HNM.out.1] at hgv
          have n1 : ((g : Int) == came.length) = false := beq_eq_false_iff_ne.2 (by omega)
          have n0 : ¬ ((n : Int) = 0) := by omega
          obtain ⟨gb, hCA, hob, hcl⟩ := HCL.out g hg
          subst hCA
          obtain ⟨bs, hbs⟩ : ∃ bs, came[g] = bs := ⟨_, rfl⟩
          rw [hbs] at hsh
          have hcl' : wr.cell? ⟨gb, g, none⟩ = some (.string ⟨bs.toArray⟩) := by rw [hcl, List.getElem?_map, List.getElem?_eq_getElem hg, hbs]; rfl
          have HSH := Lib.hid hsh
          have HSE := Lib.hid hse
          have HGV := Lib.hid hgv
          have HCC := Lib.hid hcl'
          clear hsh hse hgv hcl hcl' hbs hob
          go_wp2_with fail
          refine (Rx_any c gr gt s j a _ HS1.out.card HO.out).mono ?_
          rintro e w3 ⟨v3, rfl, ho3, hb3⟩
          rw [HSH.out] at ho3
          rw [HSH.out, HSE.out]
          obtain ⟨A3, c3, rfl, _, _, _⟩ := ho3.form
          have HS3 := Lib.hid ((HS1.out.below hb3).alloc (.cells #[.bool false, .slice A3 bs.length c3] 32))
          have X3 : Blk (w3.alloc (.cells #[.bool false, .slice A3 bs.length c3] 32)) w3.heap.size 32 [.bool false, .slice A3 bs.length c3] := Blk.new w3 _ _
          have x30 := X3.cell 0
          simp only [List.getElem?_cons_zero] at x30
          have HX3 := Lib.hid X3
          have HV3 := Lib.hid (ho3.alloc (.cells #[.bool false, .slice A3 bs.length c3] 32))
          have C3 : (w3.alloc (.cells #[.bool false, .slice A3 bs.length c3] 32)).cell? ⟨gb, g, none⟩ = some (.string ⟨bs.toArray⟩) := by
            have hlt2 : gb < wr.heap.size := World.block_lt_of_cell? wr _ HCC.out
            have B2 : Below wr.heap.size wr (w3.alloc (.cells #[.bool false, .slice A3 bs.length c3] 32)) := below_then' (below_then' ((Below.refl _ wr).alloc (Nat.le_refl _) _) (by simp) hb3) (by have := hb3.size; simp at this; omega) ((Below.refl _ w3).alloc (Nat.le_refl _) _)
            exact (B2.cell (p := ⟨gb, g, none⟩) hlt2).trans HCC.out
          have HC3 := Lib.hid C3
          clear ho3 hb3 X3 C3
          go_wp2_with fail
          generalize w3.alloc (.cells #[.bool false, .slice A3 bs.length c3] 32) = w4 at HS3 x30 HX3 HV3 HC3 ⊢
          refine (Give_any c gr gt s j a _ HS3.out.card HO.out).mono ?_
          rintro e w5 ⟨rfl, hc5, hf5⟩
          rw [HGV.out.1]
          have HS5 := Lib.hid (HS3.out.foot hc5 hf5)
          have x51 := (HX3.out.fr hf5 (HS3.out.card.not_box HX3.out (by decide) (by decide))).cell 1
          simp only [List.getElem?_cons_zero, List.getElem?_cons_succ] at x51
          have y51 : w5.cell? ⟨gb, g, none⟩ = some (.string ⟨bs.toArray⟩) := by
            have hlt4 : gb < w4.heap.size := World.block_lt_of_cell? w4 _ HC3.out
            rw [← HC3.out]
            exact World.cell?_of_block (hf5.block gb hlt4 (HS3.out.card.not_foot HS3.out.came (by decide) (by decide) gb rfl))
          have hv5 := HV3.out.fr hf5 (HS3.out.card.not_foot HV3.out (by decide) (by decide))
          have sc : ∀ k, (convert 27 9 (.slice A3 bs.length c3)).run Try.prog (w5.drewN k) = .ok (.string ⟨bs.toArray⟩) (w5.drewN k) := fun k => conv_str _ _ rfl (hv5.ra.drewN k)
          have h6 : (g : Int) < came.length := by omega
          clear hc5 hf5 hv5 x30
          go_wp2_with fail
          go_quiet (fail)
          go_wp2
          go_roundw
          case rel => exact ⟨j + 1, _, came, laid, g + 1, q, (a + 1) % n, b, by omega, by go_num, by go_num, rfl, by simp, rfl, HS5.out.drewN _, HGV.out.2, (ok_give HO.out a).1, (ok_give HO.out a).2.1.trans HNM.out.1, (ok_give HO.out a).2.2.trans HNM.out.2, by omega, by omega⟩
          case measure => simp [intOf]; omega
        · as_aux_lemma =>
          have hge : g = came.length := by omega
          have hsh := HF.out.shown_none hge
          have hse := HF.out.shown_e
          have n1 : ((g : Int) == came.length) = true := beq_iff_eq.2 (by omega)
          have HSH := Lib.hid hsh
          have HSE := Lib.hid hse
          clear hsh hse hge
          go_wp2_with fail
          refine (Rx_any c gr gt s j a _ HS1.out.card HO.out).mono ?_
          rintro e w3 ⟨v3, rfl, ho3, hb3⟩
          rw [HSH.out, HSE.out]
          obtain ⟨A3, c3, rfl, _, _, _⟩ := ho3.form
          obtain ⟨ln, hln⟩ : ∃ ln, (shown s.rs a).data.length = ln := ⟨_, rfl⟩
          rw [hln]
          have HS3 := Lib.hid ((HS1.out.below hb3).alloc (.cells #[.bool true, .slice A3 ln c3] 32))
          clear ho3 hb3 hln
          go_wp2
          go_roundw
          case rel => exact ⟨j + 1, _, came, laid, g, q, a, b, by omega, by go_num, rfl, rfl, rfl, rfl, HS3.out, HF.out, HO.out.next, HNM.out.1, HNM.out.2, by omega, by omega⟩
          case measure => simp [intOf]; omega
      by_cases e6 : kd = 6
      · as_aux_lemma =>
        subst e6
        have HLY := Lib.hid (HF.out.lay l)
        have hm' := HNM.out.2
        have n0 : ¬ ((m : Int) = 0) := by omega
        by_cases hroom : laid.length - q < m ∧ 60 ≤ l.length ∧ l.length ≤ 1514
        · as_aux_lemma =>
          have ha : layE s b l = 0 := HLY.out.1.2 (by rw [hm']; exact hroom)
          have hfl := HLY.out.2.1 ha
          rw [hm'] at hfl
          have HFL := Lib.hid hfl
          have HA1 := Lib.hid ha
          have hrm : (laid.length : Int) - q < m := by omega
          have hr1 : (60 : Int) ≤ l.length := by omega
          have hr2 : (l.length : Int) ≤ 1514 := by omega
          clear ha hroom hfl hm'
          go_wp2_with (first
            | (go_at_call 13; refine (Lay_any c gr gt s j b B l l.length kk _ HS1.out.card HO.out (HRw.out.below HS1.out.old) rfl k5).mono ?_; rintro e w3 ⟨rfl, hc3, hf3⟩; rw [HA1.out]; have HS3 := Lib.hid (HS1.out.foot hc3 hf3); have hx3 := (HX.out.fr hf3 (HS1.out.card.not_box HX.out (by decide) (by decide))).cell 2; simp only [List.getElem?_cons_zero, List.getElem?_cons_succ] at hx3; have sc := conv_str l.length kk rfl (HRw.out.below HS3.out.old); clear hc3 hf3)
            | (at_builtin; refine appE (W := w3.alloc (.cells #[.string ⟨l.toArray⟩] 9)) w.heap.size 26 9 (.string ⟨#[]⟩) 16 Try.underlying26 Try.info_str' rfl rfl _ _ rfl (.slice LA laid.length lc) laid.length (laid.map fun b => .string ⟨b.toArray⟩) (.string ⟨l.toArray⟩) ⟨w3.heap.size, 0, none⟩ rfl rfl rfl (cell_box _ _ _) (World.ownsRow.alloc HS3.out.laid _) (by have := HS3.out.old.size; simp; omega) (by omega) (by omega) ?_; intro v4 w4 o4 g4 a4; have HS4 := Lib.hid (HS3.out.push_laid g4 o4 a4); clear o4 g4 a4))
          go_roundw
          case rel => exact ⟨j + 1, _, came, laid ++ [l], g, q, a, (b + 1) % m, by omega, by go_num, rfl, rfl, rfl, by simp, HS4.out, HFL.out, (ok_lay HO.out b l).1, (ok_lay HO.out b l).2.1.trans HNM.out.1, (ok_lay HO.out b l).2.2.trans HNM.out.2, by omega, by simp; omega⟩
          case measure => simp [intOf]; omega
        · as_aux_lemma =>
          have ha : ¬ layE s b l = 0 := fun h => hroom (by have := HLY.out.1.1 h; rwa [hm'] at this)
          have hfl := HLY.out.2.2 ha
          have HFL := Lib.hid hfl
          obtain ⟨er, her⟩ : ∃ er, layE s b l = er := ⟨_, rfl⟩
          rw [her] at ha
          have n1 : ((er : Int) == 0) = false := beq_eq_false_iff_ne.2 (by omega)
          have HA1 := Lib.hid her
          clear hfl hm' her
          by_cases c1 : laid.length - q < m
          all_goals by_cases c2 : 60 ≤ l.length
          all_goals by_cases c3 : l.length ≤ 1514
          all_goals first
            | (exfalso; omega)
            | (go_wp2_with (go_at_call 13; refine (Lay_any c gr gt s j b B l l.length kk _ HS1.out.card HO.out (HRw.out.below HS1.out.old) rfl k5).mono ?_; rintro e w3 ⟨rfl, hc3, hf3⟩; rw [HA1.out]; have HS3 := Lib.hid (HS1.out.foot hc3 hf3); clear hc3 hf3)
               go_roundw
               case rel => exact ⟨j + 1, _, came, laid, g, q, a, b, by omega, by go_num, rfl, rfl, rfl, rfl, HS3.out, HFL.out, (ok_lay HO.out b l).1, (ok_lay HO.out b l).2.1.trans HNM.out.1, (ok_lay HO.out b l).2.2.trans HNM.out.2, by omega, by omega⟩
               case measure => simp [intOf]; omega)
      by_cases e2 : kd = 2
      · as_aux_lemma =>
        subst e2
        have HDP := Lib.hid HF.out.depart
        by_cases hq : q < laid.length
        · as_aux_lemma =>
          have hd1 : (depart s).1 = true := by rw [HDP.out.1]; simpa using hq
          obtain ⟨lb, hLA, hob, hll⟩ := HLL.out q hq
          subst hLA
          obtain ⟨bs, hbs⟩ : ∃ bs, laid[q] = bs := ⟨_, rfl⟩
          have hd2 := HDP.out.2.1 hq
          rw [hbs] at hd2
          have HD1 := Lib.hid hd1
          have HD2 := Lib.hid hd2
          have hll' : wr.cell? ⟨lb, q, none⟩ = some (.string ⟨bs.toArray⟩) := by rw [hll, List.getElem?_map, List.getElem?_eq_getElem hq, hbs]; rfl
          have HLC := Lib.hid ((World.cell?_alloc_lt wr (.cells #[.int .i64 2, .int .i64 ii, .slice B l.length kk] 29) ⟨lb, q, none⟩ (World.block_lt_of_cell? wr _ hll')).trans hll')
          have h6 : (q : Int) < laid.length := by omega
          clear hd1 hd2 hll hll' hbs hob
          go_wp2_with fail
          generalize wr.alloc (.cells #[.int .i64 2, .int .i64 ii, .slice B l.length kk] 29) = w4 at HS1 HLC HX ⊢
          refine (Depart_any c gr gt s j _ HS1.out.card HO.out (by omega)).mono ?_
          rintro e w5 ⟨v5, rfl, ho5, hc5, hf5⟩
          rw [HD2.out.1] at ho5
          rw [HD1.out]
          obtain ⟨A5, c5, rfl, hr5, _, _⟩ := ho5.form
          have HS5 := Lib.hid (HS1.out.foot hc5 hf5)
          have y51 : w5.cell? ⟨lb, q, none⟩ = some (.string ⟨bs.toArray⟩) := by
            have hlt4 : lb < w4.heap.size := World.block_lt_of_cell? w4 _ HLC.out
            rw [← HLC.out]
            exact World.cell?_of_block (hf5.block lb hlt4 (HS1.out.card.not_foot HS1.out.laid (by decide) (by decide) lb rfl))
          have sc : ∀ k, (convert 27 9 (.slice A5 bs.length c5)).run Try.prog (w5.drewN k) = .ok (.string ⟨bs.toArray⟩) (w5.drewN k) := fun k => conv_str _ _ rfl (hr5.drewN k)
          clear hc5 hf5 ho5 hr5
          go_wp2_with fail
          go_quiet (fail)
          go_wp2
          go_roundw
          case rel => exact ⟨j + 1, _, came, laid, g, q + 1, a, b, by omega, by go_num, rfl, by go_num, rfl, rfl, HS5.out.drewN _, HD2.out.2, (ok_depart HO.out).1, (ok_depart HO.out).2.1.trans HNM.out.1, (ok_depart HO.out).2.2.trans HNM.out.2, by omega, by omega⟩
          case measure => simp [intOf]; omega
        · as_aux_lemma =>
          have hd1 : (depart s).1 = false := by rw [HDP.out.1]; simpa using hq
          have HD1 := Lib.hid hd1
          have HD2 := Lib.hid (HDP.out.2.2 hq)
          have h6 : ¬ (q : Int) < laid.length := by omega
          clear hd1
          go_wp2_with fail
          refine (Depart_any c gr gt s j _ HS1.out.card HO.out (by omega)).mono ?_
          rintro e w5 ⟨v5, rfl, ho5, hc5, hf5⟩
          rw [HD1.out]
          obtain ⟨A5, c5, rfl, hr5, _, _⟩ := ho5.form
          have HS5 := Lib.hid (HS1.out.foot hc5 hf5)
          clear hc5 hf5 ho5 hr5
          go_wp2_with fail
          go_quiet (fail)
          go_wp2
          go_roundw
          case rel => exact ⟨j + 1, _, came, laid, g, q, a, b, by omega, by go_num, rfl, rfl, rfl, rfl, HS5.out.drewN _, HD2.out, (ok_depart HO.out).1, (ok_depart HO.out).2.1.trans HNM.out.1, (ok_depart HO.out).2.2.trans HNM.out.2, by omega, by omega⟩
          case measure => simp [intOf]; omega
      · as_aux_lemma =>
        have n1 : (kd == 1) = false := beq_eq_false_iff_ne.2 e1
        have n5 : (kd == 5) = false := beq_eq_false_iff_ne.2 e5
        have n6 : (kd == 6) = false := beq_eq_false_iff_ne.2 e6
        have n2 : (kd == 2) = false := beq_eq_false_iff_ne.2 e2
        go_wp2
        go_roundw
        case rel => exact ⟨j + 1, _, came, laid, g, q, a, b, by omega, by go_num, rfl, rfl, rfl, rfl, HS1.out, HF.out, HO.out.next, HNM.out.1, HNM.out.2, by omega, by omega⟩
        case measure => simp [intOf]; omega
    · as_aux_lemma =>
      have h5 : ¬ (j : Int) < ops.length := by omega
      obtain ⟨CA, cc, e9, _, _, _⟩ := owns_form HS.out.came
      subst e9
      have hi := HF.out.ins
      have ho := HF.out.outs
      have HI := Lib.hid hi
      have HOU := Lib.hid ho
      clear hi ho
      go_wp2_with fail
      refine (Counts_any c gr gt s _ HS.out.card).mono ?_
      rintro e w3 ⟨rfl, hb3⟩
      rw [HI.out, HOU.out]
      have hO := below_then' HS.out.old HS.out.old.size hb3
      clear hb3
      go_wp2
      go_ret
      exact ⟨rfl, hO.alloc hO.size _⟩
end Go.Proofs.Ytcdlpmnlblpinaa
