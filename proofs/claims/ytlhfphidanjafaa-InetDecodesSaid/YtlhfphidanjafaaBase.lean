/- Words for memory: bytes that a slice reads as, blocks that are known whole, rows of the call's own. -/
import Derived.Test.YtlhfphidanjafaaProg
import Derived.WalkKit
import Derived.WalkSpells
import Derived.WalkLawsBesides
import Derived.Deep.QuietTactic
import Derived.BigQuiet
import Derived.Lib.Hide
import Derived.Laws.CopyOwn
import Derived.Maps.AppendAt
import Derived.Deep.AppendLies
import Derived.Deep.Draws
import Derived.Laws.MakeOwn
import Derived.Laws.OwnMore
import Derived.Laws.BytesArg
set_option linter.unusedVariables false
namespace Go.Proofs.Ytlhfphidanjafaa
open Go.RowKit

/-! ### bytes -/
def bv (b : UInt8) : Value := .int .u8 (b.toNat : Int)
def bvs (l : List UInt8) : List Value := l.map bv
theorem bvs_length (l : List UInt8) : (bvs l).length = l.length := by simp [bvs]
theorem bvs_append (l m : List UInt8) : bvs (l ++ m) = bvs l ++ bvs m := by simp [bvs]
theorem bvs_get (l : List UInt8) (j : Nat) : (bvs l)[j]? = (l[j]?).map bv := by simp [bvs]
theorem bvs_one (l : List UInt8) : ∀ u ∈ bvs l, u.oneCell' = true := by
  intro u hu
  simp only [bvs, List.mem_map] at hu
  obtain ⟨b, _, rfl⟩ := hu
  rfl
theorem bv_of (n : Nat) : bv (UInt8.ofNat n) = .int .u8 ((n : Int) % 256) := by
  simp [bv]

/-- the slice at A reads as l -/
def RA (w : World) (A : Option Addr) (l : List UInt8) : Prop :=
  l = [] ∨ ∃ ad, A = some ad ∧ ad.block < w.heap.size ∧ ∀ (j : Nat) (h : j < l.length), w.cell? (ad.add j) = some (bv l[j])
theorem RA.nil (w : World) (A : Option Addr) : RA w A [] := .inl rfl
theorem block_add (a : Addr) (n : Nat) : (a.add n).block = a.block := by unfold Addr.add; split <;> rfl
theorem add_add' (a : Addr) (i j : Nat) : (a.add i).add j = a.add (i + j) := by
  unfold Addr.add
  by_cases hi : i = 0 <;> by_cases hj : j = 0 <;> simp [hi, hj, Nat.add_assoc]
theorem add_plain' (g o j : Nat) : (⟨g, o, none⟩ : Addr).add j = ⟨g, o + j, none⟩ := by unfold Addr.add; split <;> simp_all
theorem RA.keep {w w' : World} {A : Option Addr} {l : List UInt8} (h : RA w A l) (hs : w.heap.size ≤ w'.heap.size) (hk : ∀ ad, A = some ad → w'.heap[ad.block]? = w.heap[ad.block]?) : RA w' A l := by
  rcases h with h | ⟨ad, rfl, hb, hc⟩
  · exact .inl h
  · refine .inr ⟨ad, rfl, by omega, fun j hj => ?_⟩
    rw [← hc j hj]
    exact World.cell?_of_block (by rw [block_add]; exact hk ad rfl)
theorem RA.below {w w' : World} {A : Option Addr} {l : List UInt8} (h : RA w A l) (hb : Below w.heap.size w w') : RA w' A l := by
  rcases h with h | ⟨ad, rfl, hlt, hc⟩
  · exact .inl h
  · refine .inr ⟨ad, rfl, Nat.lt_of_lt_of_le hlt hb.size, fun j hj => ?_⟩
    rw [← hc j hj]
    exact World.cell?_of_block (by rw [block_add]; exact hb.block _ hlt)
theorem RA.grown {w w' : World} {A : Option Addr} {l : List UInt8} {row : Option Nat} (h : RA w A l) (hb : w.grownBy w' row) (hr : ∀ ad, A = some ad → l ≠ [] → some ad.block ≠ row) : RA w' A l := by
  by_cases h0 : l = []
  · exact .inl h0
  · rcases h with h | ⟨ad, rfl, hlt, hc⟩
    · exact .inl h
    · refine .inr ⟨ad, rfl, Nat.lt_of_lt_of_le hlt hb.size, fun j hj => ?_⟩
      rw [← hc j hj]
      exact World.cell?_of_block (by rw [block_add]; exact hb.block _ hlt (hr ad rfl h0))
theorem RA.lt {w : World} {ad : Addr} {l : List UInt8} (h : RA w (some ad) l) (hne : l ≠ []) : ad.block < w.heap.size := by
  rcases h with h | ⟨ad', e, hlt, _⟩
  · exact absurd h hne
  · injection e with e
    subst e
    exact hlt
theorem RA.alloc {w : World} {A : Option Addr} {l : List UInt8} (h : RA w A l) (o : Obj) : RA (w.alloc o) A l := h.below ((Below.refl _ _).alloc (Nat.le_refl _) o)
theorem RA.drew {w : World} {A : Option Addr} {l : List UInt8} (h : RA w A l) : RA w.drew A l := h
theorem RA.drewN {w : World} {A : Option Addr} {l : List UInt8} (h : RA w A l) (n : Nat) : RA (w.drewN n) A l := h
theorem RA.at_ {w : World} {A : Option Addr} {l : List UInt8} (h : RA w A l) {j : Nat} (hj : j < l.length) : ∃ ad, A = some ad ∧ ad.block < w.heap.size ∧ ∀ (i : Nat) (h : i < l.length), w.cell? (ad.add i) = some (bv l[i]) := by
  rcases h with h | h
  · subst h; simp at hj
  · exact h
theorem RA.cells {w : World} {ad : Addr} {l : List UInt8} (h : RA w (some ad) l) : ∀ j u, (bvs l)[j]? = some u → w.cell? (ad.add j) = some u := by
  intro j u hu
  rw [bvs_get] at hu
  obtain ⟨b, hb, rfl⟩ := Option.map_eq_some_iff.1 hu
  obtain ⟨hj, rfl⟩ := List.getElem?_eq_some_iff.1 hb
  obtain ⟨ad', e, _, hc⟩ := h.at_ hj
  injection e with e
  subst e
  exact hc j hj
/-- a cut of it -/
theorem RA.cut {w : World} {A : Option Addr} {l : List UInt8} (h : RA w A l) (lo hi : Nat) (c : Nat) (h1 : lo ≤ hi) (h2 : hi ≤ l.length) (hc : l.length ≤ c) : RA w (if c = lo then A else A.map (·.add lo)) ((l.take hi).drop lo) := by
  by_cases h0 : lo = hi
  · subst h0
    exact .inl (by simp)
  · obtain ⟨ad, rfl, hlt, hcell⟩ := h.at_ (j := lo) (by omega)
    rw [if_neg (by omega)]
    refine .inr ⟨ad.add lo, rfl, by rw [block_add]; exact hlt, fun j hj => ?_⟩
    rw [add_add', hcell (lo + j) (by simp at hj; omega)]
    simp
theorem RA.drop {w : World} {A : Option Addr} {l : List UInt8} (h : RA w A l) (lo : Nat) (c : Nat) (h1 : lo ≤ l.length) (hc : l.length ≤ c) : RA w (if c = lo then A else A.map (·.add lo)) (l.drop lo) := by
  have := h.cut lo l.length c h1 (Nat.le_refl _) hc
  simpa using this

/-! ### blocks that are known whole -/
def Blk (w : World) (g : Nat) (t : TypeId) (cs : List Value) : Prop := w.heap[g]? = some (.cells cs.toArray t (0, 0))
section
variable {w w' : World} {g : Nat} {t : TypeId} {cs : List Value}
theorem Blk.lt (h : Blk w g t cs) : g < w.heap.size := (Array.getElem?_eq_some_iff.1 h).1
theorem Blk.cell (h : Blk w g t cs) (i : Nat) : w.cell? ⟨g, i, none⟩ = cs[i]? := by rw [cell_of_row w g i _ t (0, 0) h]; simp
theorem Blk.frozen (h : Blk w g t cs) (i : Nat) : w.frozen? ⟨g, i, none⟩ = false := by
  unfold Blk at h
  simp [World.frozen?, h]
theorem Blk.new (w : World) (t : TypeId) (cs : List Value) : Blk (w.alloc (.cells cs.toArray t)) w.heap.size t cs := heap_alloc_new w _
theorem Blk.drew (h : Blk w g t cs) : Blk w.drew g t cs := h
theorem Blk.drewN (h : Blk w g t cs) (n : Nat) : Blk (w.drewN n) g t cs := h
theorem Blk.alloc (h : Blk w g t cs) (o : Obj) : Blk (w.alloc o) g t cs := (Below.heap_alloc w o g h.lt).trans h
theorem Blk.set_ (h : Blk w g t cs) (i : Nat) (u : Value) : Blk (w.setCell ⟨g, i, none⟩ u) g t (cs.set i u) := by
  unfold Blk at h ⊢
  simp [World.setCell, Array.getElem?_modify, h]
theorem Blk.far (h : Blk w g t cs) {p : Addr} (hp : g ≠ p.block) (u : Value) : Blk (w.setCell p u) g t cs := (Below.heap_setCell w p u g hp).trans h
theorem Blk.below {B : Nat} (h : Blk w g t cs) (hb : Below B w w') (hg : g < B) : Blk w' g t cs := (hb.block g hg).trans h
theorem Blk.beyond (h : Blk w g t cs) (hb : Below w.heap.size w w') : Blk w' g t cs := (hb.block g h.lt).trans h
theorem Blk.grown {row : Option Nat} (h : Blk w g t cs) (hb : w.grownBy w' row) (hg : some g ≠ row) : Blk w' g t cs := (hb.block g h.lt hg).trans h
theorem Blk.ne_ {g' : Nat} {t' : TypeId} {cs' : List Value} (h : Blk w g t cs) (h' : Blk w g' t' cs') (hne : t ≠ t') : g ≠ g' := by
  rintro rfl
  unfold Blk at h h'
  rw [h] at h'
  injection h' with h'
  injection h' with _ ht
  exact hne ht
theorem Blk.own {base n c : Nat} {xs : List Value} (h : Blk w g t cs) (hb : base ≤ g) (hn : n ≤ c) (hc : c ≤ maxLen) (hl : cs.length = c) (hx : cs.take n = xs) : w.ownsRow base t 1 (.slice (some ⟨g, 0, none⟩) n c) n xs := by
  subst hx
  exact ⟨by simp; omega, .inr ⟨g, c, cs.toArray, rfl, hb, h, hn, hc, by simpa using hl, by simp⟩⟩
end
/-- a buffer: a block of bytes -/
def Buf (w : World) (g : Nat) (l : List UInt8) : Prop := Blk w g 5 (bvs l)
theorem Buf.set_ {w : World} {g : Nat} {l : List UInt8} (h : Buf w g l) (i : Nat) (b : UInt8) : Buf (w.setCell ⟨g, i, none⟩ (bv b)) g (l.set i b) := by
  have := Blk.set_ h i (bv b)
  unfold Buf
  rwa [show bvs (l.set i b) = (bvs l).set i (bv b) from by simp [bvs, List.map_set]]
theorem Buf.reads {w : World} {g : Nat} {l : List UInt8} (h : Buf w g l) (lo n : Nat) (hn : lo + n ≤ l.length) : RA w (some ⟨g, lo, none⟩) ((l.drop lo).take n) := by
  refine .inr ⟨_, rfl, Blk.lt h, fun j hj => ?_⟩
  simp at hj
  rw [add_plain', Blk.cell h, bvs_get, List.getElem?_eq_getElem (by omega)]
  simp
theorem Buf.cell {w : World} {g : Nat} {l : List UInt8} (h : Buf w g l) {i : Nat} (hi : i < l.length) : w.cell? ⟨g, i, none⟩ = some (bv l[i]) := by
  rw [Blk.cell h, bvs_get, List.getElem?_eq_getElem hi]; rfl

/-! ### rows of the call's own -/
/-- v owns the bytes l, in a block from base on -/
def Own (w : World) (base : Nat) (v : Value) (l : List UInt8) : Prop := w.ownsRow base 5 1 v l.length (bvs l)
section
variable {w w' : World} {base : Nat} {v : Value} {l : List UInt8}
theorem Own.nil (w : World) (base : Nat) : Own w base (.slice none 0 0) [] := World.ownsRow_nil w base _ _
theorem Own.form (h : Own w base v l) : ∃ A c, v = .slice A l.length c ∧ RA w A l ∧ l.length ≤ c ∧ (∀ ad, A = some ad → base ≤ ad.block ∧ ad.block < w.heap.size) := by
  rcases h.2 with ⟨rfl, h0⟩ | ⟨g, cap, cur, rfl, hb, hg, hn, hm, hs, hx⟩
  · have : l = [] := List.eq_nil_of_length_eq_zero h0
    subst this
    exact ⟨none, 0, rfl, .inl rfl, Nat.le_refl _, fun ad h => by cases h⟩
  · refine ⟨_, cap, rfl, ?_, hn, ?_⟩
    · by_cases h0 : l = []
      · exact .inl h0
      · refine .inr ⟨_, rfl, (Array.getElem?_eq_some_iff.1 hg).1, fun j hj => ?_⟩
        refine World.ownsRow.cells h (g := g) rfl j _ ?_
        rw [bvs_get, List.getElem?_eq_getElem hj]; rfl
    · rintro ad h
      injection h with h
      subst h
      exact ⟨hb, (Array.getElem?_eq_some_iff.1 hg).1⟩
theorem Own.cap {A : Option Addr} {n c : Nat} (h : Own w base (.slice A n c) l) : c ≤ 9223372036854775807 := by
  rcases h.2 with ⟨e, _⟩ | ⟨g, cap, cur, e, _, _, _, hm, _⟩
  · injection e with _ _ e; omega
  · injection e with _ _ e; subst e; simpa [maxLen] using hm
theorem Own.less {b : Nat} (h : Own w b v l) (hb : base ≤ b) : Own w base v l := by
  refine ⟨h.1, ?_⟩
  rcases h.2 with h | ⟨g, cap, cur, e, h1, h2⟩
  · exact .inl h
  · exact .inr ⟨g, cap, cur, e, Nat.le_trans hb h1, h2⟩
theorem own_far {e : TypeId} {size n : Nat} {xs : List Value} (h : w.ownsRow base e size v n xs) {p : Addr} (hp : p.block < base) (u : Value) : (w.setCell p u).ownsRow base e size v n xs := by
  refine ⟨h.1, ?_⟩
  rcases h.2 with h | ⟨g, cap, cur, e, h1, h2, h3⟩
  · exact .inl h
  · exact .inr ⟨g, cap, cur, e, h1, (Below.heap_setCell w p u g (by omega)).trans h2, h3⟩
theorem Own.far (h : Own w base v l) {p : Addr} (hp : p.block < base) (u : Value) : Own (w.setCell p u) base v l := own_far h hp u
theorem Own.below (h : Own w base v l) (hb : Below w.heap.size w w') : Own w' base v l :=
  World.ownsRow.kept h ⟨hb.os, hb.tape, hb.output, hb.size, fun k hk _ => hb.block k hk⟩ (row := none) (by cases v.ownBlock <;> simp)
theorem Own.alloc (h : Own w base v l) (o : Obj) : Own (w.alloc o) base v l := World.ownsRow.alloc h o
theorem Own.drew (h : Own w base v l) : Own w.drew base v l := h
theorem Own.drewN (h : Own w base v l) (n : Nat) : Own (w.drewN n) base v l := h
end
theorem Buf.own {w : World} {g base n : Nat} {l : List UInt8} (h : Buf w g l) (hb : base ≤ g) (hn : n ≤ l.length) (hc : l.length ≤ maxLen) : w.ownsRow base 5 1 (.slice (some ⟨g, 0, none⟩) n l.length) n (bvs (l.take n)) :=
  Blk.own h hb hn hc (by simp [bvs]) (by simp [bvs, List.map_take])
theorem Buf.whole {w : World} {g base n : Nat} {l : List UInt8} (h : Buf w g l) (hb : base ≤ g) (hn : l.length = n) (hm : n ≤ maxLen) : Own w base (.slice (some ⟨g, 0, none⟩) n n) l := by
  subst hn
  have := Buf.own h hb (Nat.le_refl _) hm
  rwa [List.take_length] at this

/-! ### frames -/
theorem below_drewN' {B : Nat} {a w : World} (h : Below B a w) (n : Nat) : Below B a (w.drewN n) := ⟨h.os, h.tape, h.output, h.size, h.block⟩
theorem below_drew' {B : Nat} {a w : World} (h : Below B a w) : Below B a w.drew := ⟨h.os, h.tape, h.output, h.size, h.block⟩
theorem below_then' {B : Nat} {w w1 w2 : World} (h : Below B w w1) (hB : B ≤ w1.heap.size) (k : Below w1.heap.size w1 w2) : Below B w w2 :=
  h.trans ⟨k.os, k.tape, k.output, k.size, fun i hi => k.block i (Nat.lt_of_lt_of_le hi hB)⟩
theorem grown_of_below' {w w1 : World} (h : Below w.heap.size w w1) (row : Option Nat) : w.grownBy w1 row := ⟨h.os, h.tape, h.output, h.size, fun i hi _ => h.block i hi⟩

theorem Try.info_u8 : (Try.prog.info? 5).map (fun i => (i.zero, i.size, i.bytes)) = some (some (.int .u8 0), 1, 1) := by kernel_rfl

/-! ### bytes as a string -/
theorem conv_str {w : World} {A : Option Addr} {l : List UInt8} (n c : Nat) (hn : n = l.length) (hA : RA w A l) : (convert 28 9 (.slice A n c)).run Try.prog w = .ok (.string ⟨l.toArray⟩) w := by
  subst hn
  rcases A with _ | ad
  · have h0 : l = [] := by
      rcases hA with h | ⟨ad, h, _⟩
      · exact h
      · cases h
    subst h0
    exact run_convert_bytes_nil w 28 5 Try.underlying28 Try.underlying5 0 c 9 Try.underlying9
  · have hl : (loadCells ad l.length).run Try.prog w = .ok ((l.map fun b => (b.toNat : Int)).map (Value.int .u8)).toArray w := by
      have := run_loadCells_list (P := Try.prog) w ad (bvs l) (fun j v hj => RA.cells hA j v hj)
      rw [bvs_length] at this
      rw [this]
      simp [bvs, bv, Function.comp_def]
    rw [run_convert_bytes_string w 28 9 5 _ _ _ Try.underlying28 Try.underlying5 Try.underlying9, run_bytesToString w ad l.length c _ hl]
    congr 2
    have : ∀ (m : List UInt8) (r : ByteArray), List.foldl (fun r (n : Int) => r.push (UInt8.ofNat n.toNat)) r (m.map fun b => (b.toNat : Int)) = ⟨(r.data.toList ++ m).toArray⟩ := by
      intro m
      induction m with
      | nil => intro r; simp
      | cons b t ih =>
        intro r
        rw [List.map_cons, List.foldl_cons, ih]
        simp [ByteArray.push]
    rw [this]
    rfl

/-- only a way that goes on: what the words for regions ask of a function that defers -/
def OnlyOn (K : Act → World → Prop) : Exit → Act → World → Prop
  | .normal, a, w => K a w
  | _, _, _ => False
theorem wp_only_on {c : Code} {Q : Exit → Act → World → Prop} {a : Act} {w : World} (h : c.wp Try.prog (OnlyOn fun a w => Q .normal a w) a w) : c.wp Try.prog Q a w :=
  Code.wp_mono (fun e a w q => by cases e <;> first | exact q | exact q.elim) h

/-! ### append of bytes to a row of the call's own -/
section
variable {ops : Array Oper} {rest : List Oper} {o : Oper} {a : Act} {Q : Exit → Act → World → Prop}
/-- append(v, x): the walk has laid x in a box of its own -/
theorem app1 {W : World} (base : Nat) (hgd : o.guard = none) (s x : Operand)
    (ho : o.op = .call { callee := .builtin .append, args := #[s, x], argTypes := #[28, 28] })
    (v : Value) (l : List UInt8) (y : Value) (b : UInt8) (hs : a.eval s = v) (hx : a.eval x = .slice (some ⟨W.heap.size, 0, none⟩) 1 1) (hy : y = bv b)
    (HO : Own W base v l) (hbase : base ≤ W.heap.size) (hl : l.length < 140737488355328)
    (h : ∀ v1 w1, Own w1 base v1 (l ++ [b]) → W.grownBy w1 v.ownBlock → (v1.ownBlock = v.ownBlock ∨ ∃ k, v1.ownBlock = some k ∧ W.heap.size ≤ k) → wpList Try.prog ops Q rest (a.put o.dst v1) w1) :
    wpList Try.prog ops Q (o :: rest) a (W.alloc (.cells #[y] 5)) := by
  subst hy
  obtain ⟨i0, hi, hz0, hz1, hz2⟩ := info_parts Try.info_u8
  refine wpList_append_own_at (W.alloc (.cells #[bv b] 5)) hgd s x _ ho base _ i0 (.int .u8 0) 1 1 Try.underlying28 hi hz0 hz1 hz2 rfl (by omega) v l.length (bvs l) hs (World.ownsRow.alloc HO _) ⟨W.heap.size, 0, none⟩ 1 1 [bv b] hx rfl
    (World.news_of_block (cs := #[bv b]) (t := 5) (fr := (0, 0)) (heap_alloc_new W _)) (by simp [bv, Value.oneCell']) (by simp only [maxLen]; omega) (by omega) (by simp; omega) ?_
  intro v1 w1 hown hg _ hat
  refine h v1 w1 (by unfold Own; rw [bvs_append]; simpa [bvs] using hown) (World.grownBy.trans (World.grownBy_alloc W _ _) hg) ?_
  rcases hat with hat | hat
  · exact .inl hat
  · exact .inr ⟨_, hat, by simp⟩
/-- append(v, xs...) -/
theorem appN {W : World} (base : Nat) (hgd : o.guard = none) (s x : Operand)
    (ho : o.op = .call { callee := .builtin .append, args := #[s, x], argTypes := #[28, 28] })
    (v : Value) (l : List UInt8) (A : Option Addr) (m : List UInt8) (n c : Nat) (hs : a.eval s = v) (hx : a.eval x = .slice A n c) (hn : n = m.length)
    (HO : Own W base v l) (hr : RA W A m) (hbase : base ≤ W.heap.size) (hl : l.length + m.length ≤ 140737488355328)
    (h : ∀ v1 w1, Own w1 base v1 (l ++ m) → W.grownBy w1 v.ownBlock → (v1.ownBlock = v.ownBlock ∨ ∃ k, v1.ownBlock = some k ∧ W.heap.size ≤ k) → wpList Try.prog ops Q rest (a.put o.dst v1) w1) :
    wpList Try.prog ops Q (o :: rest) a W := by
  subst hn
  obtain ⟨i0, hi, hz0, hz1, hz2⟩ := info_parts Try.info_u8
  rcases A with _ | ad
  · have h0 : m = [] := by
      rcases hr with h | ⟨ad, h, _⟩
      · exact h
      · cases h
    subst h0
    refine wpList_plain hgd fun K hK => ?_
    have hrun : (Builtin.append_ #[28, 28] o.type #[v, .slice none 0 c]).run Try.prog W = .ok v W := by
      rcases HO.2 with ⟨rfl, h0⟩ | ⟨g, cap, cur, rfl, _, _, hnc, _⟩
      · simp [Builtin.append_, run_underlying Try.underlying28, sizeOf, typeInfo, hi, Builtin.lenOf, Builtin.firstCells]
      · simp [Builtin.append_, run_underlying Try.underlying28, sizeOf, typeInfo, hi, Builtin.lenOf, Builtin.firstCells, hnc, storeCells]
    unfold Oper.wp execOp
    simp only [ho, resolve, invoke, builtin, Sem.run_bind, Sem.run_pure, Result.andThen_ok, List.map_toArray, List.map_cons, List.map_nil, hs, hx, List.length_nil, hrun]
    exact hK _ _ (h v W (by simpa using HO) (World.grownBy.refl W _) (.inl rfl))
  · refine wpList_append_own_at W hgd s x _ ho base _ i0 (.int .u8 0) 1 1 Try.underlying28 hi hz0 hz1 hz2 rfl (by omega) v l.length (bvs l) hs HO ad m.length c (bvs m) hx (by simp [bvs])
      (RA.cells hr) (bvs_one m) (by simp only [maxLen]; omega) (by omega) hbase ?_
    intro v1 w1 hown hg _ hat
    refine h v1 w1 (by unfold Own; rw [bvs_append]; simpa [bvs] using hown) hg ?_
    rcases hat with hat | hat
    · exact .inl hat
    · exact .inr ⟨_, hat, Nat.le_refl _⟩

/-- copy(b[off:], src) into a buffer -/
theorem wp_copyB {w : World} {K : Act → World → Prop} (d s : Operand)
    (ho : o.op = .call { callee := .builtin .copy, args := #[d, s], argTypes := #[28, 28] })
    (g off dLen dCap : Nat) (dp sp : Option Addr) (sLen sCap : Nat) (hd : a.eval d = .slice dp dLen dCap) (hs : a.eval s = .slice sp sLen sCap)
    (L m : List UInt8) (hB : Buf w g L) (hr : RA w sp m) (hn : sLen = m.length) (hdp : m ≠ [] → dp = some ⟨g, off, none⟩) (hfit : m.length ≤ dLen) (hfit2 : off + m.length ≤ L.length)
    (h : ∀ w', Buf w' g (splice L off m) → w.grownBy w' (some g) → K (a.put o.dst (goInt m.length)) w') : o.wp Try.prog a w K Q := by
  subst hn
  obtain ⟨i0, hi, hz0, hz1, hz2⟩ := info_parts Try.info_u8
  have hsz : (Try.prog.info? 5).map (·.size) = some 1 := by rw [hi, Option.map_some, hz1]
  by_cases h0 : m.length = 0
  · obtain rfl : m = [] := List.eq_nil_of_length_eq_zero h0
    have hrun := run_copy_none (P := Try.prog) w 28 28 o.type 5 dp sp dLen dCap 0 sCap Try.underlying28 hsz (by simp)
    unfold Oper.wp
    simp only [List.length_nil] at hs
    simp [execOp, ho, resolve, invoke, builtin, hd, hs, hrun, Result.andThen]
    exact h w (by simpa [splice] using hB) (World.grownBy.refl w _)
  · obtain rfl := hdp (fun h => h0 (by rw [h]; rfl))
    obtain ⟨ad, rfl, _, hcell⟩ := hr.at_ (j := 0) (by omega)
    have hrun := run_copy_row (P := Try.prog) w 28 28 o.type 5 g off dLen dCap ad m.length sCap (bvs L).toArray 5 (bvs m) Try.underlying28 hsz hB
      (by rw [bvs_length]; exact (Nat.min_eq_left hfit).symm) (RA.cells hr) (by simp [bvs]; omega) (bvs_one m)
    have hrow := setRow_heap w g _ (((bvs L).take off ++ (bvs m ++ (bvs L).drop (off + (bvs m).length))).toArray) 5 (0, 0) hB
    unfold Oper.wp
    simp [execOp, ho, resolve, invoke, builtin, hd, hs, hrun, Result.andThen]
    rw [bvs_length]
    refine h _ ?_ ⟨rfl, rfl, rfl, by simp [World.setRow], fun k hk hne => setRow_other w g k _ (by simpa using hne)⟩
    have e : bvs (splice L off m) = (bvs L).take off ++ (bvs m ++ (bvs L).drop (off + (bvs m).length)) := by simp [splice, bvs, List.map_take, List.map_drop]
    unfold Buf Blk
    rw [e]
    simpa [bvs_length] using hrow
theorem copyB {w : World} (hgd : o.guard = none) (d s : Operand)
    (ho : o.op = .call { callee := .builtin .copy, args := #[d, s], argTypes := #[28, 28] })
    (g off dLen dCap : Nat) (dp sp : Option Addr) (sLen sCap : Nat) (hd : a.eval d = .slice dp dLen dCap) (hs : a.eval s = .slice sp sLen sCap)
    (L m : List UInt8) (hB : Buf w g L) (hr : RA w sp m) (hn : sLen = m.length) (hdp : m ≠ [] → dp = some ⟨g, off, none⟩) (hfit : m.length ≤ dLen) (hfit2 : off + m.length ≤ L.length)
    (h : ∀ w', Buf w' g (splice L off m) → w.grownBy w' (some g) → wpList Try.prog ops Q rest (a.put o.dst (goInt m.length)) w') : wpList Try.prog ops Q (o :: rest) a w :=
  wpList_plain hgd fun _ hK => wp_copyB d s ho g off dLen dCap dp sp sLen sCap hd hs L m hB hr hn hdp hfit hfit2 fun w' h1 h2 => hK _ _ (h w' h1 h2)
theorem step_copyB {w : World} {K : Act → World → Prop} {E : Prop} (hgd : o.guard = none) (d s : Operand)
    (ho : o.op = .call { callee := .builtin .copy, args := #[d, s], argTypes := #[28, 28] })
    (g off dLen dCap : Nat) (dp sp : Option Addr) (sLen sCap : Nat) (hd : a.eval d = .slice dp dLen dCap) (hs : a.eval s = .slice sp sLen sCap)
    (L m : List UInt8) (hB : Buf w g L) (hr : RA w sp m) (hn : sLen = m.length) (hdp : m ≠ [] → dp = some ⟨g, off, none⟩) (hfit : m.length ≤ dLen) (hfit2 : off + m.length ≤ L.length)
    (h : ∀ w', Buf w' g (splice L off m) → w.grownBy w' (some g) → K (a.put o.dst (goInt m.length)) w') : if Region.wanted o (yielded ops a.tmps) = true then Oper.wp Try.prog o a w K Q else E := by
  rw [if_pos (by simp [Region.wanted, hgd])]
  exact wp_copyB d s ho g off dLen dCap dp sp sLen sCap hd hs L m hB hr hn hdp hfit hfit2 h
end
end Go.Proofs.Ytlhfphidanjafaa
