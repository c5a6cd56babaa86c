/- inet.Encode -/
import Derived.Test.YtlhfphidanjafaaGet
import Derived.Test.YtlhfphidanjafaaMem
import Derived.Deep.RegionHeld3
import Derived.BigRegion
import Derived.Deep.RegionWith
import Derived.StillTailTactics
import Derived.Deep.RegionLaw
import Derived.Deep.OwnRows
set_option linter.unusedVariables false
set_option linter.unusedSimpArgs false
namespace Go.Proofs.Ytlhfphidanjafaa
open Go.RowKit

structure IpH where
  tos : Nat
  id : Nat
  ttl : Nat
  proto : Nat
  keep : Bool
  src : Nat
  dst : Nat
def IpH.val (h : IpH) : Value := .agg #[.int .i64 h.tos, .int .i64 h.id, .int .i64 h.ttl, .int .i64 h.proto, .bool h.keep, .int .u32 h.src, .int .u32 h.dst]
def IpH.ok (h : IpH) : Prop := h.tos < 256 ∧ h.proto < 256 ∧ h.id < 65536 ∧ 1 ≤ h.ttl ∧ h.ttl < 256 ∧ h.src < 4294967296 ∧ h.dst < 4294967296

theorem Put_2 (n : Int) (w : World) (hn : 0 ≤ n) :
    Calls Try.prog 19 #[.int .u64 n, .int .i64 2] w fun e w' => ∃ v, e = .returned v ∧ Own w' w.heap.size v (be n.toNat 2) ∧ Below w.heap.size w w' := Put_int n 2 w hn (by omega) (by omega)
theorem Put_4 (n : Int) (w : World) (hn : 0 ≤ n) :
    Calls Try.prog 19 #[.int .u64 n, .int .i64 4] w fun e w' => ∃ v, e = .returned v ∧ Own w' w.heap.size v (be n.toNat 4) ∧ Below w.heap.size w w' := Put_int n 4 w hn (by omega) (by omega)

/-- how memory stands while a head is laid: the box of the head, the buffer -/
structure St (w W : World) (cs : List Value) (L : List UInt8) : Prop where
  box : Blk W w.heap.size 27 cs
  buf : Buf W (w.heap.size + 1) L
  old : Below w.heap.size w W
theorem St.lt {w W : World} {cs : List Value} {L : List UInt8} (h : St w W cs L) : w.heap.size + 1 < W.heap.size := Blk.lt h.buf
theorem St.drew {w W : World} {cs : List Value} {L : List UInt8} (h : St w W cs L) : St w W.drew cs L := ⟨h.box, h.buf, below_drew' h.old⟩
theorem St.alloc {w W : World} {cs : List Value} {L : List UInt8} (h : St w W cs L) (o : Obj) : St w (W.alloc o) cs L := ⟨h.box.alloc o, Blk.alloc h.buf o, h.old.alloc h.old.size o⟩
theorem St.beyond {w W W1 : World} {cs : List Value} {L : List UInt8} (h : St w W cs L) (hb : Below W.heap.size W W1) : St w W1 cs L := ⟨h.box.beyond hb, Blk.beyond h.buf hb, below_then' h.old h.old.size hb⟩
theorem St.put {w W W1 : World} {cs : List Value} {L L1 : List UInt8} (h : St w W cs L) (hB : Buf W1 (w.heap.size + 1) L1) (hg : W.grownBy W1 (some (w.heap.size + 1))) : St w W1 cs L1 :=
  ⟨h.box.grown hg (by simp), hB, h.old.grown hg h.old.size (by intro k hk; injection hk with hk; omega)⟩
theorem St.data {w W : World} {cs : List Value} {L : List UInt8} (h : St w W cs L) {A : Option Addr} {l : List UInt8} (hA : RA w A l) : RA W A l := hA.below h.old
theorem St.get {w W : World} {cs : List Value} {L : List UInt8} (h : St w W cs L) {i : Nat} {v : Value} (hv : cs[i]? = some v) : W.cell? ⟨w.heap.size, i, none⟩ = some v := (h.box.cell i).trans hv

/-- a head's bytes -/
def hdr (tos len id fl ttl proto sum src dst : Nat) : List UInt8 :=
  [69, UInt8.ofNat tos] ++ be len 2 ++ be id 2 ++ be fl 2 ++ [UInt8.ofNat ttl, UInt8.ofNat proto] ++ be sum 2 ++ be src 4 ++ be dst 4
theorem hdr_length (tos len id fl ttl proto sum src dst : Nat) : (hdr tos len id fl ttl proto sum src dst).length = 20 := by simp [hdr, be_length]
def flagsOf (keep : Bool) : Nat := if keep then 16384 else 0
def encB (tos id ttl proto : Nat) (keep : Bool) (src dst : Nat) (l : List UInt8) : List UInt8 :=
  hdr tos (20 + l.length) id (flagsOf keep) ttl proto (csum (hdr tos (20 + l.length) id (flagsOf keep) ttl proto 0 src dst)) src dst ++ l
theorem encB_length (tos id ttl proto : Nat) (keep : Bool) (src dst : Nat) (l : List UInt8) : (encB tos id ttl proto keep src dst l).length = 20 + l.length := by simp [encB, hdr_length]
theorem be_two (n : Nat) : be n 2 = [UInt8.ofNat (n / 256), UInt8.ofNat n] := rfl
theorem be_four (n : Nat) : be n 4 = [UInt8.ofNat (n / 256 / 256 / 256), UInt8.ofNat (n / 256 / 256), UInt8.ofNat (n / 256), UInt8.ofNat n] := rfl
theorem zeros20 (n : Nat) : List.replicate (20 + n) (0 : UInt8) = 0 :: 0 :: 0 :: 0 :: 0 :: 0 :: 0 :: 0 :: 0 :: 0 :: 0 :: 0 :: 0 :: 0 :: 0 :: 0 :: 0 :: 0 :: 0 :: 0 :: List.replicate n 0 := by
  rw [Nat.add_comm]; rfl
/-- what the copies leave -/
theorem laid (tos id ttl proto src dst : Nat) (keep : Bool) (l L0 L1 L2 L3 L4 L5 L6 : List UInt8)
    (h0 : L0 = ((((List.replicate (20 + l.length) (0 : UInt8)).set 0 (UInt8.ofNat 69)).set 1 (UInt8.ofNat tos)).set 8 (UInt8.ofNat ttl)).set 9 (UInt8.ofNat proto))
    (h1 : L1 = splice L0 2 (be (20 + l.length) 2)) (h2 : L2 = splice L1 4 (be id 2)) (h3 : L3 = splice L2 6 (be (flagsOf keep) 2)) (h4 : L4 = splice L3 12 (be src 4)) (h5 : L5 = splice L4 16 (be dst 4))
    (h6 : L6 = splice L5 10 (be (csum (L5.take 20)) 2)) :
    splice L6 20 l = encB tos id ttl proto keep src dst l := by
  unfold encB
  generalize flagsOf keep = fl at h3 ⊢
  have e5 : L5.take 20 = hdr tos (20 + l.length) id fl ttl proto 0 src dst := by
    subst h5 h4 h3 h2 h1 h0
    rw [zeros20]
    simp only [be_two, be_four]
    rfl
  rw [e5] at h6
  generalize csum (hdr tos (20 + l.length) id fl ttl proto 0 src dst) = s at h6 ⊢
  have e6 : L6 = hdr tos (20 + l.length) id fl ttl proto s src dst ++ List.replicate l.length 0 := by
    subst h6 h5 h4 h3 h2 h1 h0
    rw [zeros20]
    simp only [be_two, be_four, hdr]
    rfl
  rw [e6]
  simp [splice, List.take_append, List.drop_append, hdr_length]

set_option maxHeartbeats 4000000 in
theorem Encode_false (tos id ttl proto src dst : Nat) (A : Option Addr) (l : List UInt8) (c : Nat) (w : World) (hA : RA w A l) (hc : l.length ≤ c) (hcm : c ≤ 9223372036854775807)
    (h1 : tos < 256) (h2 : proto < 256) (h3 : id < 65536) (h4 : 1 ≤ ttl) (h5 : ttl < 256) (h6 : src < 4294967296) (h7 : dst < 4294967296) (hl : l.length ≤ 1480) :
    Calls Try.prog 11 #[.agg #[.int .i64 tos, .int .i64 id, .int .i64 ttl, .int .i64 proto, .bool false, .int .u32 src, .int .u32 dst], .slice A l.length c] w fun e w' =>
      ∃ v, e = .returned (.tuple #[v, .int .i64 0]) ∧ Own w' w.heap.size v (encB tos id ttl proto false src dst l) ∧ Below w.heap.size w w' := by
  have t1 : (((tos : Int) / 256) != 0) = false := by simp; omega
  have t2 : (((proto : Int) / 256) != 0) = false := by simp; omega
  have t3 : (((id : Int) / 65536) != 0) = false := by simp; omega
  have t4 : ¬ (ttl : Int) < 1 := by omega
  have t5 : ¬ (255 : Int) < ttl := by omega
  have t6 : ¬ (1500 : Int) < 20 + l.length := by omega
  have hmk : ∀ W : World, (Instr.makeSlice 28 (.int .i64 (20 + (l.length : Int))) (.int .i64 (20 + (l.length : Int)))).run Try.prog W = .ok (.slice (some ⟨W.heap.size, 0, none⟩) (20 + l.length) (20 + l.length)) (W.alloc (.cells (madeCells #[.int .u8 0] (20 + l.length)) 5)) := make_bytes (20 + l.length) (by omega)
  have k2 : (2 : Int) ≤ 20 + l.length := by omega
  have k4 : (4 : Int) ≤ 20 + l.length := by omega
  have k6 : (6 : Int) ≤ 20 + l.length := by omega
  have k10 : (10 : Int) ≤ 20 + l.length := by omega
  have k12 : (12 : Int) ≤ 20 + l.length := by omega
  have k16 : (16 : Int) ≤ 20 + l.length := by omega
  have k20 : (20 : Int) ≤ 20 + l.length := by omega
  have n2 : ¬ (20 + l.length = 2) := by omega
  have n4 : ¬ (20 + l.length = 4) := by omega
  have n6 : ¬ (20 + l.length = 6) := by omega
  have n10 : ¬ (20 + l.length = 10) := by omega
  have n12 : ¬ (20 + l.length = 12) := by omega
  have n16 : ¬ (20 + l.length = 16) := by omega
  have e1 : IntKind.u64.wrap (20 + (l.length : Int)) = 20 + l.length := by rw [IntKind.wrap_u64]; omega
  have e2 : IntKind.u64.wrap (id : Int) = id := by rw [IntKind.wrap_u64]; omega
  have e3 : IntKind.u64.wrap 0 = 0 := by rw [IntKind.wrap_u64]; rfl
  have e4 : IntKind.u64.wrap 16384 = 16384 := by rw [IntKind.wrap_u64]; rfl
  have e5 : IntKind.u64.wrap (src : Int) = src := by rw [IntKind.wrap_u64]; omega
  have e6 : IntKind.u64.wrap (dst : Int) = dst := by rw [IntKind.wrap_u64]; omega
  go_enter Try.func11, Try.ntmps11
  go_wp2_with fail
  have B0 : Blk ((w.alloc (.cells #[.int .i64 tos, .int .i64 id, .int .i64 ttl, .int .i64 proto, .bool false, .int .u32 src, .int .u32 dst] 27)).alloc (.cells (madeCells #[.int .u8 0] (20 + l.length)) 5)) w.heap.size 27 [.int .i64 tos, .int .i64 id, .int .i64 ttl, .int .i64 proto, .bool false, .int .u32 src, .int .u32 dst] := (Blk.new w _ _).alloc _
  have B1 : Buf ((w.alloc (.cells #[.int .i64 tos, .int .i64 id, .int .i64 ttl, .int .i64 proto, .bool false, .int .u32 src, .int .u32 dst] 27)).alloc (.cells (madeCells #[.int .u8 0] (20 + l.length)) 5)) (w.heap.size + 1) (List.replicate (20 + l.length) 0) := by
    have := Buf.made (w.alloc (.cells #[.int .i64 tos, .int .i64 id, .int .i64 ttl, .int .i64 proto, .bool false, .int .u32 src, .int .u32 dst] 27)) (20 + l.length)
    simpa using this
  have B2 : Below w.heap.size w ((w.alloc (.cells #[.int .i64 tos, .int .i64 id, .int .i64 ttl, .int .i64 proto, .bool false, .int .u32 src, .int .u32 dst] 27)).alloc (.cells (madeCells #[.int .u8 0] (20 + l.length)) 5)) := ((Below.refl _ _).alloc (Nat.le_refl _) _).alloc (by simp) _
  generalize (w.alloc (.cells #[.int .i64 tos, .int .i64 id, .int .i64 ttl, .int .i64 proto, .bool false, .int .u32 src, .int .u32 dst] 27)).alloc (.cells (madeCells #[.int .u8 0] (20 + l.length)) 5) = W0 at B0 B1 B2 ⊢
  have c0 := B0.cell 0
  have c2 := B0.cell 2
  have c3 := B0.cell 3
  simp only [List.getElem?_cons_zero, List.getElem?_cons_succ] at c0 c2 c3
  have d0 := B1.cell (i := 0) (by simp; omega)
  have d1 := B1.cell (i := 1) (by simp; omega)
  have d8 := B1.cell (i := 8) (by simp; omega)
  have d9 := B1.cell (i := 9) (by simp; omega)
  have f0 := Blk.frozen B1 0
  have f1 := Blk.frozen B1 1
  have f8 := Blk.frozen B1 8
  have f9 := Blk.frozen B1 9
  go_region
  have B3 := (((B1.set_ 0 (UInt8.ofNat 69)).set_ 1 (UInt8.ofNat tos)).set_ 8 (UInt8.ofNat ttl)).set_ 9 (UInt8.ofNat proto)
  rw [bv_nat 69 (by omega), bv_nat tos (by omega), bv_nat ttl (by omega), bv_nat proto (by omega)] at B3
  have B4 := (((B0.far (p := ⟨w.heap.size + 1, 0, none⟩) (by simp) (.int .u8 69)).far (p := ⟨w.heap.size + 1, 1, none⟩) (by simp) (.int .u8 tos)).far (p := ⟨w.heap.size + 1, 8, none⟩) (by simp) (.int .u8 ttl)).far (p := ⟨w.heap.size + 1, 9, none⟩) (by simp) (.int .u8 proto)
  have B5 := (((B2.setCell (p := ⟨w.heap.size + 1, 0, none⟩) (by simp) (.int .u8 69)).setCell (p := ⟨w.heap.size + 1, 1, none⟩) (by simp) (.int .u8 tos)).setCell (p := ⟨w.heap.size + 1, 8, none⟩) (by simp) (.int .u8 ttl)).setCell (p := ⟨w.heap.size + 1, 9, none⟩) (by simp) (.int .u8 proto)
  clear c0 c2 c3 d0 d1 d8 d9 f0 f1 f8 f9 hmk B0 B1 B2
  change Exit.then _ _ _ _ (World.drew ((((W0.setCell ⟨w.heap.size + 1, 0, none⟩ (.int .u8 (69 : Nat))).setCell ⟨w.heap.size + 1, 1, none⟩ (.int .u8 (tos : Nat))).setCell ⟨w.heap.size + 1, 8, none⟩ (.int .u8 (ttl : Nat))).setCell ⟨w.heap.size + 1, 9, none⟩ (.int .u8 (proto : Nat))))
  generalize (((W0.setCell ⟨w.heap.size + 1, 0, none⟩ (.int .u8 (69 : Nat))).setCell ⟨w.heap.size + 1, 1, none⟩ (.int .u8 (tos : Nat))).setCell ⟨w.heap.size + 1, 8, none⟩ (.int .u8 (ttl : Nat))).setCell ⟨w.heap.size + 1, 9, none⟩ (.int .u8 (proto : Nat)) = W1 at B3 B4 B5 ⊢
  obtain ⟨L0, hL0⟩ : ∃ L0, L0 = ((((List.replicate (20 + l.length) (0 : UInt8)).set 0 (UInt8.ofNat 69)).set 1 (UInt8.ofNat tos)).set 8 (UInt8.ofNat ttl)).set 9 (UInt8.ofNat proto) := ⟨_, rfl⟩
  have HL0 := Lib.hid hL0
  have z0 : L0.length = 20 + l.length := by rw [hL0]; simp
  rw [← hL0] at B3
  have S0 : St w W1 _ L0 := ⟨B4, B3, B5⟩
  have Z0 := Lib.hid z0
  clear hL0 B3 B4 B5 z0
  go_wp2_with fail
  go_region_law (first
    | (refine step_copyB rfl _ _ rfl (w.heap.size + 1) 2 _ _ _ _ _ _ rfl rfl L0 _ (by exact (S0.drew.drew.beyond hb2).buf) hr2 rfl (fun _ => rfl) (by simp only [be_length]; omega) (by simp only [be_length, Z0.out]; omega) ?_; intro w3 C3 G3)
    | (go_simp; go_at_call 19; refine (Put_2 _ _ (by omega)).mono ?_; rintro e w2 ⟨v, rfl, hv, hb2⟩; obtain ⟨A2, c2, rfl, hr2, hc2, hq2⟩ := hv.form))
  have S1 := (S0.drew.drew.beyond hb2).put C3 G3
  have Z1 := Lib.hid ((length_splice L0 2 (be (20 + (l.length : Int)).toNat 2) (by simp only [be_length, Z0.out]; omega)).trans Z0.out)
  obtain ⟨L1, hL⟩ : ∃ L1, L1 = splice L0 2 (be (20 + (l.length : Int)).toNat 2) := ⟨_, rfl⟩
  rw [← hL] at S1 Z1
  have HL1 := Lib.hid hL
  clear S0 hb2 hv hr2 hc2 hq2 C3 G3 Z0 hL
  go_wp2_with fail
  have q1 := S1.get (i := 1) rfl
  go_region_law (first
    | (refine step_copyB rfl _ _ rfl (w.heap.size + 1) 4 _ _ _ _ _ _ rfl rfl L1 _ (by exact (S1.drew.beyond hb2).buf) hr2 rfl (fun _ => rfl) (by simp only [be_length]; omega) (by simp only [be_length, Z1.out]; omega) ?_; intro w3 C3 G3)
    | (go_simp; go_at_call 19; refine (Put_2 _ _ (by omega)).mono ?_; rintro e w2 ⟨v, rfl, hv, hb2⟩; obtain ⟨A2, c2, rfl, hr2, hc2, hq2⟩ := hv.form))
  have S2 := (S1.drew.beyond hb2).put C3 G3
  have Z2 := Lib.hid ((length_splice L1 4 (be (id : Int).toNat 2) (by simp only [be_length, Z1.out]; omega)).trans Z1.out)
  obtain ⟨L2, hL⟩ : ∃ L2, L2 = splice L1 4 (be (id : Int).toNat 2) := ⟨_, rfl⟩
  rw [← hL] at S2 Z2
  have HL2 := Lib.hid hL
  clear S1 hb2 hv hr2 hc2 hq2 C3 G3 Z1 hL
  go_wp2_with fail
  clear q1
  go_region_law (first
    | (refine step_copyB rfl _ _ rfl (w.heap.size + 1) 6 _ _ _ _ _ _ rfl rfl L2 _ (by exact (S2.drew.beyond hb2).buf) hr2 rfl (fun _ => rfl) (by simp only [be_length]; omega) (by simp only [be_length, Z2.out]; omega) ?_; intro w3 C3 G3)
    | (go_simp; go_at_call 19; refine (Put_2 _ _ (by omega)).mono ?_; rintro e w2 ⟨v, rfl, hv, hb2⟩; obtain ⟨A2, c2, rfl, hr2, hc2, hq2⟩ := hv.form))
  have S3 := (S2.drew.beyond hb2).put C3 G3
  have Z3 := Lib.hid ((length_splice L2 6 (be (0 : Int).toNat 2) (by simp only [be_length, Z2.out]; omega)).trans Z2.out)
  obtain ⟨L3, hL⟩ : ∃ L3, L3 = splice L2 6 (be (0 : Int).toNat 2) := ⟨_, rfl⟩
  rw [← hL] at S3 Z3
  have HL3 := Lib.hid hL
  clear S2 hb2 hv hr2 hc2 hq2 C3 G3 Z2 hL
  go_wp2_with fail
  have q5 := S3.get (i := 5) rfl
  go_region_law (first
    | (refine step_copyB rfl _ _ rfl (w.heap.size + 1) 12 _ _ _ _ _ _ rfl rfl L3 _ (by exact (S3.drew.beyond hb2).buf) hr2 rfl (fun _ => rfl) (by simp only [be_length]; omega) (by simp only [be_length, Z3.out]; omega) ?_; intro w3 C3 G3)
    | (go_simp; go_at_call 19; refine (Put_4 _ _ (by omega)).mono ?_; rintro e w2 ⟨v, rfl, hv, hb2⟩; obtain ⟨A2, c2, rfl, hr2, hc2, hq2⟩ := hv.form))
  have S4 := (S3.drew.beyond hb2).put C3 G3
  have Z4 := Lib.hid ((length_splice L3 12 (be (src : Int).toNat 4) (by simp only [be_length, Z3.out]; omega)).trans Z3.out)
  obtain ⟨L4, hL⟩ : ∃ L4, L4 = splice L3 12 (be (src : Int).toNat 4) := ⟨_, rfl⟩
  rw [← hL] at S4 Z4
  have HL4 := Lib.hid hL
  clear S3 hb2 hv hr2 hc2 hq2 C3 G3 Z3 hL
  go_wp2_with fail
  clear q5
  have q6 := S4.get (i := 6) rfl
  go_region_law (first
    | (refine step_copyB rfl _ _ rfl (w.heap.size + 1) 16 _ _ _ _ _ _ rfl rfl L4 _ (by exact (S4.drew.beyond hb2).buf) hr2 rfl (fun _ => rfl) (by simp only [be_length]; omega) (by simp only [be_length, Z4.out]; omega) ?_; intro w3 C3 G3)
    | (go_simp; go_at_call 19; refine (Put_4 _ _ (by omega)).mono ?_; rintro e w2 ⟨v, rfl, hv, hb2⟩; obtain ⟨A2, c2, rfl, hr2, hc2, hq2⟩ := hv.form))
  have S5 := (S4.drew.beyond hb2).put C3 G3
  have Z5 := Lib.hid ((length_splice L4 16 (be (dst : Int).toNat 4) (by simp only [be_length, Z4.out]; omega)).trans Z4.out)
  obtain ⟨L5, hL⟩ : ∃ L5, L5 = splice L4 16 (be (dst : Int).toNat 4) := ⟨_, rfl⟩
  rw [← hL] at S5 Z5
  have HL5 := Lib.hid hL
  clear S4 hb2 hv hr2 hc2 hq2 C3 G3 Z4 hL
  go_wp2_with fail
  clear q6
  have e7 : IntKind.u64.wrap ((csum (L5.take 20) : Nat) : Int) = (csum (L5.take 20) : Nat) := by
    have : csum (L5.take 20) ≤ 65535 := by unfold csum; omega
    rw [IntKind.wrap_u64]; omega
  have R5 : RA w3 (some ⟨w.heap.size + 1, 0, none⟩) (L5.take 20) := by
    have := S5.buf.reads 0 20 (by rw [Z5.out]; omega)
    simpa using this
  have z5 : 20 = (L5.take 20).length := by rw [List.length_take, Z5.out]; omega
  have Z5' := Lib.hid z5
  clear z5
  go_region_law (first
    | (refine step_copyB rfl _ _ rfl (w.heap.size + 1) 10 _ _ _ _ _ _ rfl rfl L5 _ (by exact ((S5.alloc _).drew.beyond hb2).buf) hr2 rfl (fun _ => rfl) (by simp only [be_length]; omega) (by simp only [be_length, Z5.out]; omega) ?_; intro w4 C3 G3)
    | (go_simp; go_at_call 20; refine (Sum_n w3.heap.size (some ⟨w.heap.size + 1, 0, none⟩) (L5.take 20) 20 (20 + l.length) _ _ Z5'.out (by omega) ?_ ?_).mono ?_; (simp [World.cell?_alloc_new]); (exact (R5.alloc _).drew); rintro e w2 ⟨rfl, rfl⟩)
    | (go_simp; go_at_call 19; refine (Put_2 _ _ (by omega)).mono ?_; rintro e w2 ⟨v, rfl, hv, hb2⟩; obtain ⟨A2, c2, rfl, hr2, hc2, hq2⟩ := hv.form))
  have S6 := ((S5.alloc _).drew.beyond hb2).put C3 G3
  have Z6 := Lib.hid ((length_splice L5 10 (be ((csum (L5.take 20) : Nat) : Int).toNat 2) (by simp only [be_length, Z5.out]; omega)).trans Z5.out)
  obtain ⟨L6, hL⟩ : ∃ L6, L6 = splice L5 10 (be ((csum (L5.take 20) : Nat) : Int).toNat 2) := ⟨_, rfl⟩
  rw [← hL] at S6 Z6
  have HL6 := Lib.hid hL
  clear S5 hb2 hv hr2 hc2 hq2 C3 G3 Z5 Z5' hL R5 e7
  have z6 : 20 + l.length ≤ L6.length := by rw [Z6.out]; exact Nat.le_refl _
  have RD := S6.data hA
  have HF := Lib.hid (laid tos id ttl proto src dst false l L0 L1 L2 L3 L4 L5 L6 HL0.out (by have h := HL1.out; rwa [show (20 + (l.length : Int)).toNat = 20 + l.length from by omega] at h) (by simpa using HL2.out) (by have h := HL3.out; exact h) (by simpa using HL4.out) (by simpa using HL5.out) (by simpa using HL6.out))
  clear HL0 HL1 HL2 HL3 HL4 HL5 HL6 e1 e2 e3 e4 e5 e6 Z6
  go_wp2_with (refine copyB rfl _ _ rfl (w.heap.size + 1) 20 _ _ _ _ _ _ rfl rfl L6 l S6.buf RD rfl (fun h' => by first | rfl | exact if_neg h' | simp [h']) (by first | exact Nat.le_refl _ | omega) z6 ?_; intro w5 C5 G5)
  all_goals
    have S7 := S6.put C5 G5
    rw [HF.out] at S7
    go_wp2
    go_ret2
    refine ⟨_, rfl, ?_, S7.old⟩
    first
      | (have hn : ¬ l = [] := ‹¬ l = []›; exact Buf.whole (n := 20 + l.length) S7.buf (by omega) (encB_length tos id ttl proto false src dst l) (by simp only [maxLen]; omega))
      | (have h0 : l = [] := ‹l = []›; subst h0; exact Buf.whole (n := 20) S7.buf (by omega) (encB_length tos id ttl proto false src dst []) (by simp only [maxLen]; omega))
set_option maxHeartbeats 4000000 in
theorem Encode_true (tos id ttl proto src dst : Nat) (A : Option Addr) (l : List UInt8) (c : Nat) (w : World) (hA : RA w A l) (hc : l.length ≤ c) (hcm : c ≤ 9223372036854775807)
    (h1 : tos < 256) (h2 : proto < 256) (h3 : id < 65536) (h4 : 1 ≤ ttl) (h5 : ttl < 256) (h6 : src < 4294967296) (h7 : dst < 4294967296) (hl : l.length ≤ 1480) :
    Calls Try.prog 11 #[.agg #[.int .i64 tos, .int .i64 id, .int .i64 ttl, .int .i64 proto, .bool true, .int .u32 src, .int .u32 dst], .slice A l.length c] w fun e w' =>
      ∃ v, e = .returned (.tuple #[v, .int .i64 0]) ∧ Own w' w.heap.size v (encB tos id ttl proto true src dst l) ∧ Below w.heap.size w w' := by
  have t1 : (((tos : Int) / 256) != 0) = false := by simp; omega
  have t2 : (((proto : Int) / 256) != 0) = false := by simp; omega
  have t3 : (((id : Int) / 65536) != 0) = false := by simp; omega
  have t4 : ¬ (ttl : Int) < 1 := by omega
  have t5 : ¬ (255 : Int) < ttl := by omega
  have t6 : ¬ (1500 : Int) < 20 + l.length := by omega
  have hmk : ∀ W : World, (Instr.makeSlice 28 (.int .i64 (20 + (l.length : Int))) (.int .i64 (20 + (l.length : Int)))).run Try.prog W = .ok (.slice (some ⟨W.heap.size, 0, none⟩) (20 + l.length) (20 + l.length)) (W.alloc (.cells (madeCells #[.int .u8 0] (20 + l.length)) 5)) := make_bytes (20 + l.length) (by omega)
  have k2 : (2 : Int) ≤ 20 + l.length := by omega
  have k4 : (4 : Int) ≤ 20 + l.length := by omega
  have k6 : (6 : Int) ≤ 20 + l.length := by omega
  have k10 : (10 : Int) ≤ 20 + l.length := by omega
  have k12 : (12 : Int) ≤ 20 + l.length := by omega
  have k16 : (16 : Int) ≤ 20 + l.length := by omega
  have k20 : (20 : Int) ≤ 20 + l.length := by omega
  have n2 : ¬ (20 + l.length = 2) := by omega
  have n4 : ¬ (20 + l.length = 4) := by omega
  have n6 : ¬ (20 + l.length = 6) := by omega
  have n10 : ¬ (20 + l.length = 10) := by omega
  have n12 : ¬ (20 + l.length = 12) := by omega
  have n16 : ¬ (20 + l.length = 16) := by omega
  have e1 : IntKind.u64.wrap (20 + (l.length : Int)) = 20 + l.length := by rw [IntKind.wrap_u64]; omega
  have e2 : IntKind.u64.wrap (id : Int) = id := by rw [IntKind.wrap_u64]; omega
  have e3 : IntKind.u64.wrap 0 = 0 := by rw [IntKind.wrap_u64]; rfl
  have e4 : IntKind.u64.wrap 16384 = 16384 := by rw [IntKind.wrap_u64]; rfl
  have e5 : IntKind.u64.wrap (src : Int) = src := by rw [IntKind.wrap_u64]; omega
  have e6 : IntKind.u64.wrap (dst : Int) = dst := by rw [IntKind.wrap_u64]; omega
  go_enter Try.func11, Try.ntmps11
  go_wp2_with fail
  have B0 : Blk ((w.alloc (.cells #[.int .i64 tos, .int .i64 id, .int .i64 ttl, .int .i64 proto, .bool true, .int .u32 src, .int .u32 dst] 27)).alloc (.cells (madeCells #[.int .u8 0] (20 + l.length)) 5)) w.heap.size 27 [.int .i64 tos, .int .i64 id, .int .i64 ttl, .int .i64 proto, .bool true, .int .u32 src, .int .u32 dst] := (Blk.new w _ _).alloc _
  have B1 : Buf ((w.alloc (.cells #[.int .i64 tos, .int .i64 id, .int .i64 ttl, .int .i64 proto, .bool true, .int .u32 src, .int .u32 dst] 27)).alloc (.cells (madeCells #[.int .u8 0] (20 + l.length)) 5)) (w.heap.size + 1) (List.replicate (20 + l.length) 0) := by
    have := Buf.made (w.alloc (.cells #[.int .i64 tos, .int .i64 id, .int .i64 ttl, .int .i64 proto, .bool true, .int .u32 src, .int .u32 dst] 27)) (20 + l.length)
    simpa using this
  have B2 : Below w.heap.size w ((w.alloc (.cells #[.int .i64 tos, .int .i64 id, .int .i64 ttl, .int .i64 proto, .bool true, .int .u32 src, .int .u32 dst] 27)).alloc (.cells (madeCells #[.int .u8 0] (20 + l.length)) 5)) := ((Below.refl _ _).alloc (Nat.le_refl _) _).alloc (by simp) _
  generalize (w.alloc (.cells #[.int .i64 tos, .int .i64 id, .int .i64 ttl, .int .i64 proto, .bool true, .int .u32 src, .int .u32 dst] 27)).alloc (.cells (madeCells #[.int .u8 0] (20 + l.length)) 5) = W0 at B0 B1 B2 ⊢
  have c0 := B0.cell 0
  have c2 := B0.cell 2
  have c3 := B0.cell 3
  simp only [List.getElem?_cons_zero, List.getElem?_cons_succ] at c0 c2 c3
  have d0 := B1.cell (i := 0) (by simp; omega)
  have d1 := B1.cell (i := 1) (by simp; omega)
  have d8 := B1.cell (i := 8) (by simp; omega)
  have d9 := B1.cell (i := 9) (by simp; omega)
  have f0 := Blk.frozen B1 0
  have f1 := Blk.frozen B1 1
  have f8 := Blk.frozen B1 8
  have f9 := Blk.frozen B1 9
  go_region
  have B3 := (((B1.set_ 0 (UInt8.ofNat 69)).set_ 1 (UInt8.ofNat tos)).set_ 8 (UInt8.ofNat ttl)).set_ 9 (UInt8.ofNat proto)
  rw [bv_nat 69 (by omega), bv_nat tos (by omega), bv_nat ttl (by omega), bv_nat proto (by omega)] at B3
  have B4 := (((B0.far (p := ⟨w.heap.size + 1, 0, none⟩) (by simp) (.int .u8 69)).far (p := ⟨w.heap.size + 1, 1, none⟩) (by simp) (.int .u8 tos)).far (p := ⟨w.heap.size + 1, 8, none⟩) (by simp) (.int .u8 ttl)).far (p := ⟨w.heap.size + 1, 9, none⟩) (by simp) (.int .u8 proto)
  have B5 := (((B2.setCell (p := ⟨w.heap.size + 1, 0, none⟩) (by simp) (.int .u8 69)).setCell (p := ⟨w.heap.size + 1, 1, none⟩) (by simp) (.int .u8 tos)).setCell (p := ⟨w.heap.size + 1, 8, none⟩) (by simp) (.int .u8 ttl)).setCell (p := ⟨w.heap.size + 1, 9, none⟩) (by simp) (.int .u8 proto)
  clear c0 c2 c3 d0 d1 d8 d9 f0 f1 f8 f9 hmk B0 B1 B2
  change Exit.then _ _ _ _ (World.drew ((((W0.setCell ⟨w.heap.size + 1, 0, none⟩ (.int .u8 (69 : Nat))).setCell ⟨w.heap.size + 1, 1, none⟩ (.int .u8 (tos : Nat))).setCell ⟨w.heap.size + 1, 8, none⟩ (.int .u8 (ttl : Nat))).setCell ⟨w.heap.size + 1, 9, none⟩ (.int .u8 (proto : Nat))))
  generalize (((W0.setCell ⟨w.heap.size + 1, 0, none⟩ (.int .u8 (69 : Nat))).setCell ⟨w.heap.size + 1, 1, none⟩ (.int .u8 (tos : Nat))).setCell ⟨w.heap.size + 1, 8, none⟩ (.int .u8 (ttl : Nat))).setCell ⟨w.heap.size + 1, 9, none⟩ (.int .u8 (proto : Nat)) = W1 at B3 B4 B5 ⊢
  obtain ⟨L0, hL0⟩ : ∃ L0, L0 = ((((List.replicate (20 + l.length) (0 : UInt8)).set 0 (UInt8.ofNat 69)).set 1 (UInt8.ofNat tos)).set 8 (UInt8.ofNat ttl)).set 9 (UInt8.ofNat proto) := ⟨_, rfl⟩
  have HL0 := Lib.hid hL0
  have z0 : L0.length = 20 + l.length := by rw [hL0]; simp
  rw [← hL0] at B3
  have S0 : St w W1 _ L0 := ⟨B4, B3, B5⟩
  have Z0 := Lib.hid z0
  clear hL0 B3 B4 B5 z0
  go_wp2_with fail
  go_region_law (first
    | (refine step_copyB rfl _ _ rfl (w.heap.size + 1) 2 _ _ _ _ _ _ rfl rfl L0 _ (by exact (S0.drew.drew.beyond hb2).buf) hr2 rfl (fun _ => rfl) (by simp only [be_length]; omega) (by simp only [be_length, Z0.out]; omega) ?_; intro w3 C3 G3)
    | (go_simp; go_at_call 19; refine (Put_2 _ _ (by omega)).mono ?_; rintro e w2 ⟨v, rfl, hv, hb2⟩; obtain ⟨A2, c2, rfl, hr2, hc2, hq2⟩ := hv.form))
  have S1 := (S0.drew.drew.beyond hb2).put C3 G3
  have Z1 := Lib.hid ((length_splice L0 2 (be (20 + (l.length : Int)).toNat 2) (by simp only [be_length, Z0.out]; omega)).trans Z0.out)
  obtain ⟨L1, hL⟩ : ∃ L1, L1 = splice L0 2 (be (20 + (l.length : Int)).toNat 2) := ⟨_, rfl⟩
  rw [← hL] at S1 Z1
  have HL1 := Lib.hid hL
  clear S0 hb2 hv hr2 hc2 hq2 C3 G3 Z0 hL
  go_wp2_with fail
  have q1 := S1.get (i := 1) rfl
  go_region_law (first
    | (refine step_copyB rfl _ _ rfl (w.heap.size + 1) 4 _ _ _ _ _ _ rfl rfl L1 _ (by exact (S1.drew.beyond hb2).buf) hr2 rfl (fun _ => rfl) (by simp only [be_length]; omega) (by simp only [be_length, Z1.out]; omega) ?_; intro w3 C3 G3)
    | (go_simp; go_at_call 19; refine (Put_2 _ _ (by omega)).mono ?_; rintro e w2 ⟨v, rfl, hv, hb2⟩; obtain ⟨A2, c2, rfl, hr2, hc2, hq2⟩ := hv.form))
  have S2 := (S1.drew.beyond hb2).put C3 G3
  have Z2 := Lib.hid ((length_splice L1 4 (be (id : Int).toNat 2) (by simp only [be_length, Z1.out]; omega)).trans Z1.out)
  obtain ⟨L2, hL⟩ : ∃ L2, L2 = splice L1 4 (be (id : Int).toNat 2) := ⟨_, rfl⟩
  rw [← hL] at S2 Z2
  have HL2 := Lib.hid hL
  clear S1 hb2 hv hr2 hc2 hq2 C3 G3 Z1 hL
  go_wp2_with fail
  clear q1
  go_region_law (first
    | (refine step_copyB rfl _ _ rfl (w.heap.size + 1) 6 _ _ _ _ _ _ rfl rfl L2 _ (by exact (S2.drew.beyond hb2).buf) hr2 rfl (fun _ => rfl) (by simp only [be_length]; omega) (by simp only [be_length, Z2.out]; omega) ?_; intro w3 C3 G3)
    | (go_simp; go_at_call 19; refine (Put_2 _ _ (by omega)).mono ?_; rintro e w2 ⟨v, rfl, hv, hb2⟩; obtain ⟨A2, c2, rfl, hr2, hc2, hq2⟩ := hv.form))
  have S3 := (S2.drew.beyond hb2).put C3 G3
  have Z3 := Lib.hid ((length_splice L2 6 (be (16384 : Int).toNat 2) (by simp only [be_length, Z2.out]; omega)).trans Z2.out)
  obtain ⟨L3, hL⟩ : ∃ L3, L3 = splice L2 6 (be (16384 : Int).toNat 2) := ⟨_, rfl⟩
  rw [← hL] at S3 Z3
  have HL3 := Lib.hid hL
  clear S2 hb2 hv hr2 hc2 hq2 C3 G3 Z2 hL
  go_wp2_with fail
  have q5 := S3.get (i := 5) rfl
  go_region_law (first
    | (refine step_copyB rfl _ _ rfl (w.heap.size + 1) 12 _ _ _ _ _ _ rfl rfl L3 _ (by exact (S3.drew.beyond hb2).buf) hr2 rfl (fun _ => rfl) (by simp only [be_length]; omega) (by simp only [be_length, Z3.out]; omega) ?_; intro w3 C3 G3)
    | (go_simp; go_at_call 19; refine (Put_4 _ _ (by omega)).mono ?_; rintro e w2 ⟨v, rfl, hv, hb2⟩; obtain ⟨A2, c2, rfl, hr2, hc2, hq2⟩ := hv.form))
  have S4 := (S3.drew.beyond hb2).put C3 G3
  have Z4 := Lib.hid ((length_splice L3 12 (be (src : Int).toNat 4) (by simp only [be_length, Z3.out]; omega)).trans Z3.out)
  obtain ⟨L4, hL⟩ : ∃ L4, L4 = splice L3 12 (be (src : Int).toNat 4) := ⟨_, rfl⟩
  rw [← hL] at S4 Z4
  have HL4 := Lib.hid hL
  clear S3 hb2 hv hr2 hc2 hq2 C3 G3 Z3 hL
  go_wp2_with fail
  clear q5
  have q6 := S4.get (i := 6) rfl
  go_region_law (first
    | (refine step_copyB rfl _ _ rfl (w.heap.size + 1) 16 _ _ _ _ _ _ rfl rfl L4 _ (by exact (S4.drew.beyond hb2).buf) hr2 rfl (fun _ => rfl) (by simp only [be_length]; omega) (by simp only [be_length, Z4.out]; omega) ?_; intro w3 C3 G3)
    | (go_simp; go_at_call 19; refine (Put_4 _ _ (by omega)).mono ?_; rintro e w2 ⟨v, rfl, hv, hb2⟩; obtain ⟨A2, c2, rfl, hr2, hc2, hq2⟩ := hv.form))
  have S5 := (S4.drew.beyond hb2).put C3 G3
  have Z5 := Lib.hid ((length_splice L4 16 (be (dst : Int).toNat 4) (by simp only [be_length, Z4.out]; omega)).trans Z4.out)
  obtain ⟨L5, hL⟩ : ∃ L5, L5 = splice L4 16 (be (dst : Int).toNat 4) := ⟨_, rfl⟩
  rw [← hL] at S5 Z5
  have HL5 := Lib.hid hL
  clear S4 hb2 hv hr2 hc2 hq2 C3 G3 Z4 hL
  go_wp2_with fail
  clear q6
  have e7 : IntKind.u64.wrap ((csum (L5.take 20) : Nat) : Int) = (csum (L5.take 20) : Nat) := by
    have : csum (L5.take 20) ≤ 65535 := by unfold csum; omega
    rw [IntKind.wrap_u64]; omega
  have R5 : RA w3 (some ⟨w.heap.size + 1, 0, none⟩) (L5.take 20) := by
    have := S5.buf.reads 0 20 (by rw [Z5.out]; omega)
    simpa using this
  have z5 : 20 = (L5.take 20).length := by rw [List.length_take, Z5.out]; omega
  have Z5' := Lib.hid z5
  clear z5
  go_region_law (first
    | (refine step_copyB rfl _ _ rfl (w.heap.size + 1) 10 _ _ _ _ _ _ rfl rfl L5 _ (by exact ((S5.alloc _).drew.beyond hb2).buf) hr2 rfl (fun _ => rfl) (by simp only [be_length]; omega) (by simp only [be_length, Z5.out]; omega) ?_; intro w4 C3 G3)
    | (go_simp; go_at_call 20; refine (Sum_n w3.heap.size (some ⟨w.heap.size + 1, 0, none⟩) (L5.take 20) 20 (20 + l.length) _ _ Z5'.out (by omega) ?_ ?_).mono ?_; (simp [World.cell?_alloc_new]); (exact (R5.alloc _).drew); rintro e w2 ⟨rfl, rfl⟩)
    | (go_simp; go_at_call 19; refine (Put_2 _ _ (by omega)).mono ?_; rintro e w2 ⟨v, rfl, hv, hb2⟩; obtain ⟨A2, c2, rfl, hr2, hc2, hq2⟩ := hv.form))
  have S6 := ((S5.alloc _).drew.beyond hb2).put C3 G3
  have Z6 := Lib.hid ((length_splice L5 10 (be ((csum (L5.take 20) : Nat) : Int).toNat 2) (by simp only [be_length, Z5.out]; omega)).trans Z5.out)
  obtain ⟨L6, hL⟩ : ∃ L6, L6 = splice L5 10 (be ((csum (L5.take 20) : Nat) : Int).toNat 2) := ⟨_, rfl⟩
  rw [← hL] at S6 Z6
  have HL6 := Lib.hid hL
  clear S5 hb2 hv hr2 hc2 hq2 C3 G3 Z5 Z5' hL R5 e7
  have z6 : 20 + l.length ≤ L6.length := by rw [Z6.out]; exact Nat.le_refl _
  have RD := S6.data hA
  have HF := Lib.hid (laid tos id ttl proto src dst true l L0 L1 L2 L3 L4 L5 L6 HL0.out (by have h := HL1.out; rwa [show (20 + (l.length : Int)).toNat = 20 + l.length from by omega] at h) (by simpa using HL2.out) (by have h := HL3.out; exact h) (by simpa using HL4.out) (by simpa using HL5.out) (by simpa using HL6.out))
  clear HL0 HL1 HL2 HL3 HL4 HL5 HL6 e1 e2 e3 e4 e5 e6 Z6
  go_wp2_with (refine copyB rfl _ _ rfl (w.heap.size + 1) 20 _ _ _ _ _ _ rfl rfl L6 l S6.buf RD rfl (fun h' => by first | rfl | exact if_neg h' | simp [h']) (by first | exact Nat.le_refl _ | omega) z6 ?_; intro w5 C5 G5)
  all_goals
    have S7 := S6.put C5 G5
    rw [HF.out] at S7
    go_wp2
    go_ret2
    refine ⟨_, rfl, ?_, S7.old⟩
    first
      | (have hn : ¬ l = [] := ‹¬ l = []›; exact Buf.whole (n := 20 + l.length) S7.buf (by omega) (encB_length tos id ttl proto true src dst l) (by simp only [maxLen]; omega))
      | (have h0 : l = [] := ‹l = []›; subst h0; exact Buf.whole (n := 20) S7.buf (by omega) (encB_length tos id ttl proto true src dst []) (by simp only [maxLen]; omega))

theorem Encode_ok (tos id ttl proto src dst : Nat) (keep : Bool) (A : Option Addr) (l : List UInt8) (c : Nat) (w : World) (hA : RA w A l) (hc : l.length ≤ c) (hcm : c ≤ 9223372036854775807)
    (h1 : tos < 256) (h2 : proto < 256) (h3 : id < 65536) (h4 : 1 ≤ ttl) (h5 : ttl < 256) (h6 : src < 4294967296) (h7 : dst < 4294967296) (hl : l.length ≤ 1480) :
    Calls Try.prog 11 #[.agg #[.int .i64 tos, .int .i64 id, .int .i64 ttl, .int .i64 proto, .bool keep, .int .u32 src, .int .u32 dst], .slice A l.length c] w fun e w' =>
      ∃ v, e = .returned (.tuple #[v, .int .i64 0]) ∧ Own w' w.heap.size v (encB tos id ttl proto keep src dst l) ∧ Below w.heap.size w w' := by
  cases keep
  · exact Encode_false tos id ttl proto src dst A l c w hA hc hcm h1 h2 h3 h4 h5 h6 h7 hl
  · exact Encode_true tos id ttl proto src dst A l c w hA hc hcm h1 h2 h3 h4 h5 h6 h7 hl
end Go.Proofs.Ytlhfphidanjafaa
