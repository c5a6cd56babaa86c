/- Memory: frames with a footprint, pools of rows that share no place, append of one cell to a row. -/
import Derived.Test.YtlhfphidanjafaaBase
import Derived.OwnWalk
import Derived.ArgAppend
import Derived.Deep.OwnRows
set_option linter.unusedVariables false
set_option linter.unusedSimpArgs false
namespace Go.Proofs.Ytlhfphidanjafaa
open Go.RowKit

/-! ### only the blocks of S have turned -/
structure Fr (S : Nat → Prop) (w w' : World) : Prop where
  os : w'.os = w.os
  tape : w'.tape = w.tape
  output : w'.output = w.output
  size : w.heap.size ≤ w'.heap.size
  block : ∀ k, k < w.heap.size → ¬ S k → w'.heap[k]? = w.heap[k]?
section
variable {S T : Nat → Prop} {a w w' : World}
theorem Fr.refl (S : Nat → Prop) (w : World) : Fr S w w := ⟨rfl, rfl, rfl, Nat.le_refl _, fun _ _ _ => rfl⟩
theorem Fr.trans (h : Fr S a w) (k : Fr S w w') : Fr S a w' :=
  ⟨k.os.trans h.os, k.tape.trans h.tape, k.output.trans h.output, Nat.le_trans h.size k.size, fun i hi hs => (k.block i (Nat.lt_of_lt_of_le hi h.size) hs).trans (h.block i hi hs)⟩
theorem Fr.mono (h : Fr S w w') (hs : ∀ k, k < w.heap.size → S k → T k) : Fr T w w' := ⟨h.os, h.tape, h.output, h.size, fun i hi ht => h.block i hi fun e => ht (hs i hi e)⟩
/-- the second step may also turn what was made since -/
theorem Fr.then_ (h : Fr S a w) (k : Fr T w w') (ht : ∀ i, i < a.heap.size → T i → S i) : Fr S a w' :=
  ⟨k.os.trans h.os, k.tape.trans h.tape, k.output.trans h.output, Nat.le_trans h.size k.size, fun i hi hs => (k.block i (Nat.lt_of_lt_of_le hi h.size) fun e => hs (ht i hi e)).trans (h.block i hi hs)⟩
theorem Fr.of_below (h : Below w.heap.size w w') : Fr S w w' := ⟨h.os, h.tape, h.output, h.size, fun i hi _ => h.block i hi⟩
theorem Fr.of_grown {row : Option Nat} (h : w.grownBy w' row) (hr : ∀ g, row = some g → S g) : Fr S w w' :=
  ⟨h.os, h.tape, h.output, h.size, fun i hi hs => h.block i hi fun e => hs (hr i e.symm)⟩
theorem Fr.drew (h : Fr S a w) : Fr S a w.drew := ⟨h.os, h.tape, h.output, h.size, h.block⟩
theorem Fr.drewN (h : Fr S a w) (n : Nat) : Fr S a (w.drewN n) := ⟨h.os, h.tape, h.output, h.size, h.block⟩
theorem Fr.alloc (h : Fr S a w) (o : Obj) : Fr S a (w.alloc o) := h.then_ (Fr.of_below (S := S) ((Below.refl _ _).alloc (Nat.le_refl _) o)) fun _ _ h => h
theorem Fr.set_ (h : Fr S a w) {p : Addr} (hp : S p.block ∨ a.heap.size ≤ p.block) (u : Value) : Fr S a (w.setCell p u) :=
  ⟨h.os, h.tape, h.output, by simpa [World.setCell] using h.size, fun i hi hs => (Below.heap_setCell w p u i (by
    rintro rfl
    rcases hp with hp | hp
    · exact hs hp
    · omega)).trans (h.block i hi hs)⟩
theorem Fr.below {B : Nat} (h : Fr S w w') (hB : B ≤ w.heap.size) (hs : ∀ k, k < B → ¬ S k) : Below B w w' :=
  ⟨h.os, h.tape, h.output, h.size, fun k hk => h.block k (Nat.lt_of_lt_of_le hk hB) (hs k hk)⟩
theorem Fr.on_below {B : Nat} (b : Below B a w) (hB : B ≤ w.heap.size) (h : Fr S w w') (hs : ∀ k, k < B → ¬ S k) : Below B a w' := b.trans (h.below hB hs)
theorem Blk.fr {g : Nat} {t : TypeId} {cs : List Value} (h : Blk w g t cs) (f : Fr S w w') (hg : ¬ S g) : Blk w' g t cs := (f.block g h.lt hg).trans h
theorem RA.fr {A : Option Addr} {l : List UInt8} (h : RA w A l) (f : Fr S w w') (hg : ∀ ad, A = some ad → l ≠ [] → ¬ S ad.block) : RA w' A l := by
  by_cases h0 : l = []
  · exact .inl h0
  · rcases h with h | ⟨ad, rfl, hlt, hc⟩
    · exact .inl h
    · refine .inr ⟨ad, rfl, Nat.lt_of_lt_of_le hlt f.size, fun j hj => ?_⟩
      rw [← hc j hj]
      exact World.cell?_of_block (by rw [block_add]; exact f.block _ hlt (hg ad rfl h0))
theorem owns_fr {base : Nat} {e : TypeId} {size n : Nat} {v : Value} {xs : List Value} (h : w.ownsRow base e size v n xs) (f : Fr S w w') (hg : ∀ g, v.ownBlock = some g → ¬ S g) : w'.ownsRow base e size v n xs := by
  refine ⟨h.1, ?_⟩
  rcases h.2 with h | ⟨g, cap, cur, rfl, h1, h2, h3⟩
  · exact .inl h
  · exact .inr ⟨g, cap, cur, rfl, h1, (f.block g (Array.getElem?_eq_some_iff.1 h2).1 (hg g rfl)).trans h2, h3⟩
theorem Own.fr {base : Nat} {v : Value} {l : List UInt8} (h : Own w base v l) (f : Fr S w w') (hg : ∀ g, v.ownBlock = some g → ¬ S g) : Own w' base v l := owns_fr h f hg
end
theorem owns_blk {w : World} {base : Nat} {e t : TypeId} {size n : Nat} {v : Value} {xs cs : List Value} {g : Nat} (h : w.ownsRow base e size v n xs) (hg : Blk w g t cs) (hne : e ≠ t) : v.ownBlock ≠ some g := by
  rcases h.2 with ⟨rfl, _⟩ | ⟨g', cap, cur, rfl, _, hh, _⟩
  · simp [Value.ownBlock]
  · intro he
    have : g' = g := by simpa [Value.ownBlock] using he
    subst this
    unfold Blk at hg
    rw [hg] at hh
    injection hh with hh
    injection hh with _ ht
    exact hne ht.symm
theorem owns_owns {w : World} {b b' : Nat} {e e' : TypeId} {s s' n n' : Nat} {v v' : Value} {xs xs' : List Value} (h : w.ownsRow b e s v n xs) (h' : w.ownsRow b' e' s' v' n' xs') (hne : e ≠ e') {g : Nat} (hg : v.ownBlock = some g) : v'.ownBlock ≠ some g := by
  rcases h.2 with ⟨rfl, _⟩ | ⟨k, cap, cur, rfl, _, hh, _⟩
  · simp [Value.ownBlock] at hg
  · obtain rfl : k = g := by simpa [Value.ownBlock] using hg
    rcases h'.2 with ⟨rfl, _⟩ | ⟨k', cap', cur', rfl, _, hh', _⟩
    · simp [Value.ownBlock]
    · intro he
      obtain rfl : k' = k := by simpa [Value.ownBlock] using he
      rw [hh] at hh'
      injection hh' with hh'
      injection hh' with _ ht
      exact hne ht
theorem owns_lt {w : World} {base : Nat} {e : TypeId} {size n : Nat} {v : Value} {xs : List Value} (h : w.ownsRow base e size v n xs) {g : Nat} (hg : v.ownBlock = some g) : base ≤ g ∧ g < w.heap.size := by
  rcases h.2 with ⟨rfl, _⟩ | ⟨k, cap, cur, rfl, hb, hh, _⟩
  · simp [Value.ownBlock] at hg
  · obtain rfl : k = g := by simpa [Value.ownBlock] using hg
    exact ⟨hb, (Array.getElem?_eq_some_iff.1 hh).1⟩
theorem owns_form {w : World} {base : Nat} {e : TypeId} {n : Nat} {v : Value} {xs : List Value} (h : w.ownsRow base e 1 v n xs) :
    ∃ A c, v = .slice A n c ∧ n ≤ c ∧ c ≤ 9223372036854775807 ∧ (∀ i, i < n → ∃ g, A = some ⟨g, 0, none⟩ ∧ v.ownBlock = some g ∧ w.cell? ⟨g, i, none⟩ = xs[i]?) := by
  rcases h.2 with ⟨rfl, h0⟩ | ⟨g, cap, cur, rfl, hb, hg, hn, hm, hs, hx⟩
  · exact ⟨none, 0, by rw [h0], by omega, by omega, fun i hi => by omega⟩
  · refine ⟨_, cap, rfl, hn, by simpa [maxLen] using hm, fun i hi => ⟨g, rfl, rfl, ?_⟩⟩
    rw [cell_of_row w g i _ e (0, 0) hg, ← hx, Nat.mul_one, List.getElem?_take, if_pos hi]
    simp

/-! ### the type of a block -/
def tyAt (w : World) (g : Nat) : Option TypeId := match w.heap[g]? with
  | some (.cells _ t _) => some t
  | _ => none
theorem tyAt_same {w w' : World} {g : Nat} (h : w'.heap[g]? = w.heap[g]?) : tyAt w' g = tyAt w g := by unfold tyAt; rw [h]
theorem Blk.ty {w : World} {g : Nat} {t : TypeId} {cs : List Value} (h : Blk w g t cs) : tyAt w g = some t := by unfold Blk at h; simp [tyAt, h]
theorem owns_ty {w : World} {base : Nat} {e : TypeId} {size n : Nat} {v : Value} {xs : List Value} (h : w.ownsRow base e size v n xs) {g : Nat} (hg : v.ownBlock = some g) : tyAt w g = some e := by
  rcases h.2 with ⟨rfl, _⟩ | ⟨k, cap, cur, rfl, _, hh, _⟩
  · simp [Value.ownBlock] at hg
  · obtain rfl : k = g := by simpa [Value.ownBlock] using hg
    simp [tyAt, hh]
/-- the blocks of some types, from base on -/
def Ty (w : World) (base : Nat) (ts : List TypeId) (g : Nat) : Prop := base ≤ g ∧ ∃ t ∈ ts, tyAt w g = some t
theorem Fr.ty {base : Nat} {ts : List TypeId} {a w w' : World} (h : Fr (Ty a base ts) a w) (k : Fr (Ty w base ts) w w') : Fr (Ty a base ts) a w' :=
  ⟨k.os.trans h.os, k.tape.trans h.tape, k.output.trans h.output, Nat.le_trans h.size k.size, fun i hi hs => (k.block i (Nat.lt_of_lt_of_le hi h.size) fun ⟨hb, t, ht, e⟩ => hs ⟨hb, t, ht, by rw [← e]; exact (tyAt_same (h.block i hi hs)).symm⟩).trans (h.block i hi hs)⟩
theorem Blk.frT {base : Nat} {ts : List TypeId} {w w' : World} {g : Nat} {t : TypeId} {cs : List Value} (h : Blk w g t cs) (f : Fr (Ty w base ts) w w') (ht : t ∉ ts) : Blk w' g t cs :=
  h.fr f fun ⟨_, u, hu, e⟩ => by rw [h.ty] at e; injection e with e; subst e; exact ht hu
theorem owns_frT {base b : Nat} {ts : List TypeId} {w w' : World} {e : TypeId} {size n : Nat} {v : Value} {xs : List Value} (h : w.ownsRow b e size v n xs) (f : Fr (Ty w base ts) w w') (ht : e ∉ ts) : w'.ownsRow b e size v n xs :=
  owns_fr h f fun g hg ⟨_, u, hu, he⟩ => by rw [owns_ty h hg] at he; injection he with he; subst he; exact ht hu
theorem RA.frT {base : Nat} {ts : List TypeId} {w w' : World} {A : Option Addr} {l : List UInt8} (h : RA w A l) (f : Fr (Ty w base ts) w w') (hb : ∀ ad, A = some ad → l ≠ [] → ad.block < base) : RA w' A l :=
  h.fr f fun ad hA hl ⟨hg, _⟩ => by have := hb ad hA hl; omega

/-! ### rows that share no place -/
def Apart (x y : Value × List UInt8) : Prop := ∀ g, x.1.ownBlock = some g → y.1.ownBlock ≠ some g
theorem Apart.symm {x y : Value × List UInt8} (h : Apart x y) : Apart y x := fun g hy hx => h g hx hy
structure Pool (w : World) (base : Nat) (L : List (Value × List UInt8)) : Prop where
  own : ∀ x ∈ L, Own w base x.1 x.2
  far : L.Pairwise Apart
section
variable {w w' : World} {base : Nat} {L M : List (Value × List UInt8)}
theorem Pool.nil (w : World) (base : Nat) : Pool w base [] := ⟨by simp, .nil⟩
theorem Pool.fr {S : Nat → Prop} (h : Pool w base L) (f : Fr S w w') (hs : ∀ x ∈ L, ∀ g, x.1.ownBlock = some g → ¬ S g) : Pool w' base L := ⟨fun x hx => (h.own x hx).fr f (hs x hx), h.far⟩
theorem Pool.below (h : Pool w base L) (hb : Below w.heap.size w w') : Pool w' base L := ⟨fun x hx => (h.own x hx).below hb, h.far⟩
theorem Pool.lt (h : Pool w base L) {x : Value × List UInt8} (hx : x ∈ L) {g : Nat} (hg : x.1.ownBlock = some g) : base ≤ g ∧ g < w.heap.size := owns_lt (h.own x hx) hg
/-- what a call made anew -/
theorem Pool.add (h : Pool w base L) (hB : base ≤ w.heap.size) (hb : Below w.heap.size w w') {v : Value} {l : List UInt8} (hv : Own w' w.heap.size v l) : Pool w' base (L ++ [(v, l)]) := by
  refine ⟨fun x hx => ?_, ?_⟩
  · rcases List.mem_append.1 hx with hx | hx
    · exact (h.own x hx).below hb
    · obtain rfl : x = (v, l) := by simpa using hx
      exact hv.less hB
  · refine List.pairwise_append.2 ⟨h.far, by simp, fun x hx y hy => ?_⟩
    obtain rfl : y = (v, l) := by simpa using hy
    intro g hg he
    have h1 := (h.lt hx hg).2
    have h2 := (owns_lt hv he).1
    omega
theorem Pool.frT {ts : List TypeId} {b : Nat} (h : Pool w base L) (f : Fr (Ty w b ts) w w') (ht : 5 ∉ ts) : Pool w' base L := ⟨fun x hx => owns_frT (h.own x hx) f ht, h.far⟩
theorem Pool.left (h : Pool w base (L ++ M)) : Pool w base L := ⟨fun x hx => h.own x (List.mem_append_left _ hx), (List.pairwise_append.1 h.far).1⟩
theorem Pool.right (h : Pool w base (L ++ M)) : Pool w base M := ⟨fun x hx => h.own x (List.mem_append_right _ hx), (List.pairwise_append.1 h.far).2.1⟩
theorem Pool.perm (h : Pool w base L) (p : L.Perm M) : Pool w base M := ⟨fun x hx => h.own x (p.mem_iff.2 hx), p.pairwise h.far fun h => h.symm⟩
theorem Pool.apart (h : Pool w base L) {i j : Nat} (hi : i < L.length) (hj : j < L.length) (hne : i ≠ j) : Apart L[i] L[j] := by
  rcases Nat.lt_or_ge i j with hlt | hge
  · exact List.pairwise_iff_getElem.1 h.far i j hi hj hlt
  · exact (List.pairwise_iff_getElem.1 h.far j i hj hi (by omega)).symm
end
theorem Pool.drop1 {w w' : World} {base : Nat} {L1 L2 : List (Value × List UInt8)} {x : Value × List UInt8} (h : Pool w base (L1 ++ x :: L2)) (f : Fr (fun g => x.1.ownBlock = some g) w w') : Pool w' base (L1 ++ L2) := by
  have hp := List.pairwise_append.1 h.far
  have hc := List.pairwise_cons.1 hp.2.1
  refine ⟨fun y hy => ?_, List.pairwise_append.2 ⟨hp.1, hc.2, fun a ha b hb => hp.2.2 a ha b (List.mem_cons_of_mem _ hb)⟩⟩
  rcases List.mem_append.1 hy with hy | hy
  · exact (h.own y (List.mem_append_left _ hy)).fr f fun g hg he => hp.2.2 y hy x (List.mem_cons_self ..) g hg he
  · exact (h.own y (List.mem_append_right _ (List.mem_cons_of_mem _ hy))).fr f fun g hg he => hc.1 y hy g he hg
theorem Own.buf {w : World} {base g k : Nat} {l : List UInt8} (h : Own w base (.slice (some ⟨g, 0, none⟩) k k) l) : Buf w g l := by
  have hk : k = l.length := by
    obtain ⟨A, c, e, _⟩ := h.form
    injection e
  rcases h.2 with ⟨e, _⟩ | ⟨g', cap, cur, e, _, hg, _, _, hs, hx⟩
  · injection e with e; cases e
  · injection e with e _ e3
    injection e with e
    injection e with e _ _
    subst e e3
    have hcur : cur.toList = bvs l := by
      rw [← hx, List.take_of_length_le]
      rw [Array.length_toList, hs, ← hk]; omega
    unfold Buf Blk
    rw [← hcur]
    simpa using hg
theorem Own.ty8 {w : World} {base n c : Nat} {A : Option Addr} {l : List UInt8} (h : Own w base (.slice A n c) l) : ∀ ad, A = some ad → l ≠ [] → tyAt w ad.block = some 5 := by
  intro ad hA hl
  rcases h.2 with ⟨e, _⟩ | ⟨g', cap, cur, e, _, hg, _⟩
  · injection e with e; rw [hA] at e; cases e
  · injection e with e _ _
    rw [hA] at e
    injection e with e
    subst e
    simp [tyAt, hg]
/-- the blocks of a pool -/
def Of (L : List (Value × List UInt8)) (g : Nat) : Prop := ∃ x ∈ L, x.1.ownBlock = some g
theorem Pool.rest {w w' : World} {base : Nat} {L M : List (Value × List UInt8)} (h : Pool w base (L ++ M)) (f : Fr (Of L) w w') : Pool w' base M :=
  h.right.fr f fun y hy g hg ⟨x, hx, hxg⟩ => (List.pairwise_append.1 h.far).2.2 x hx y hy g hxg hg

/-! ### append of one cell to a row -/
section
variable {ops : Array Oper} {rest : List Oper} {o : Oper} {a : Act} {Q : Exit → Act → World → Prop}
theorem wp_appE {W : World} {K : Act → World → Prop} (base : Nat) (T E : TypeId) (z : Value) (bytes : Nat) (hT : Try.prog.underlying T = some (.slice E)) (hE : (Try.prog.info? E).map (fun i => (i.zero, i.size, i.bytes)) = some (some z, 1, bytes)) (hz1 : z.cells.size = 1)
    (s x : Operand) (ho : o.op = .call { callee := .builtin .append, args := #[s, x], argTypes := #[T, T] })
    (v : Value) (n : Nat) (xs : List Value) (y : Value) (ad : Addr) (hs : a.eval s = v) (hx : a.eval x = .slice (some ad) 1 1) (hy : y.oneCell' = true) (had : W.cell? ad = some y)
    (HO : W.ownsRow base E 1 v n xs) (hbase : base ≤ W.heap.size) (hn : n + 1 ≤ 9223372036854775807) (hl : (n + 1) * bytes ≤ 140737488355328)
    (h : ∀ v1 w1, w1.ownsRow base E 1 v1 (n + 1) (xs ++ [y]) → W.grownBy w1 v.ownBlock → (v1.ownBlock = v.ownBlock ∨ ∃ k, v1.ownBlock = some k ∧ W.heap.size ≤ k) → K (a.put o.dst v1) w1) :
    o.wp Try.prog a W K Q := by
  obtain ⟨i0, hi, hz0, hsz, hz2⟩ := info_parts hE
  obtain ⟨v', w', hr, h2, h3, h4, h5⟩ := run_append_own_at (P := Try.prog) W base T o.type E i0 z 1 bytes hT hi hz0 hsz hz2 hz1 (by omega) v n xs HO ad 1 1 [y] rfl
    (by intro j u hu; match j, hu with | 0, hu => simpa [Addr.add] using had.trans hu) (by simpa using hy) (by simpa [maxLen] using hn) hl hbase
  unfold Oper.wp execOp
  simp only [ho, resolve, invoke, builtin, Sem.run_bind, Sem.run_pure, Result.andThen_ok, List.map_toArray, List.map_cons, List.map_nil, hs, hx, hr]
  exact h v' w' h2 h3 (h5.imp id fun h => ⟨_, h, Nat.le_refl _⟩)
theorem appE {W : World} (base : Nat) (T E : TypeId) (z : Value) (bytes : Nat) (hT : Try.prog.underlying T = some (.slice E)) (hE : (Try.prog.info? E).map (fun i => (i.zero, i.size, i.bytes)) = some (some z, 1, bytes)) (hz1 : z.cells.size = 1)
    (hgd : o.guard = none) (s x : Operand) (ho : o.op = .call { callee := .builtin .append, args := #[s, x], argTypes := #[T, T] })
    (v : Value) (n : Nat) (xs : List Value) (y : Value) (ad : Addr) (hs : a.eval s = v) (hx : a.eval x = .slice (some ad) 1 1) (hy : y.oneCell' = true) (had : W.cell? ad = some y)
    (HO : W.ownsRow base E 1 v n xs) (hbase : base ≤ W.heap.size) (hn : n + 1 ≤ 9223372036854775807) (hl : (n + 1) * bytes ≤ 140737488355328)
    (h : ∀ v1 w1, w1.ownsRow base E 1 v1 (n + 1) (xs ++ [y]) → W.grownBy w1 v.ownBlock → (v1.ownBlock = v.ownBlock ∨ ∃ k, v1.ownBlock = some k ∧ W.heap.size ≤ k) → wpList Try.prog ops Q rest (a.put o.dst v1) w1) :
    wpList Try.prog ops Q (o :: rest) a W :=
  wpList_plain hgd fun _ hK => wp_appE base T E z bytes hT hE hz1 s x ho v n xs y ad hs hx hy had HO hbase hn hl fun v1 w1 h1 h2 h3 => hK _ _ (h v1 w1 h1 h2 h3)
theorem step_appE {W : World} {K : Act → World → Prop} {D : Prop} (base : Nat) (T E : TypeId) (z : Value) (bytes : Nat) (hT : Try.prog.underlying T = some (.slice E)) (hE : (Try.prog.info? E).map (fun i => (i.zero, i.size, i.bytes)) = some (some z, 1, bytes)) (hz1 : z.cells.size = 1)
    (hgd : o.guard = none) (s x : Operand) (ho : o.op = .call { callee := .builtin .append, args := #[s, x], argTypes := #[T, T] })
    (v : Value) (n : Nat) (xs : List Value) (y : Value) (ad : Addr) (hs : a.eval s = v) (hx : a.eval x = .slice (some ad) 1 1) (hy : y.oneCell' = true) (had : W.cell? ad = some y)
    (HO : W.ownsRow base E 1 v n xs) (hbase : base ≤ W.heap.size) (hn : n + 1 ≤ 9223372036854775807) (hl : (n + 1) * bytes ≤ 140737488355328)
    (h : ∀ v1 w1, w1.ownsRow base E 1 v1 (n + 1) (xs ++ [y]) → W.grownBy w1 v.ownBlock → (v1.ownBlock = v.ownBlock ∨ ∃ k, v1.ownBlock = some k ∧ W.heap.size ≤ k) → K (a.put o.dst v1) w1) :
    if Region.wanted o (yielded ops a.tmps) = true then Oper.wp Try.prog o a W K Q else D := by
  rw [if_pos (by simp [Region.wanted, hgd])]
  exact wp_appE base T E z bytes hT hE hz1 s x ho v n xs y ad hs hx hy had HO hbase hn hl h
theorem cell_box (W : World) (y : Value) (E : TypeId) : (W.alloc (.cells #[y] E)).cell? ⟨W.heap.size, 0, none⟩ = some y := by simp [World.cell?_alloc_new]

/-- the same, and the old row is told: it is the new one's, or it stays as it is -/
theorem app1x {W : World} (base : Nat) (hgd : o.guard = none) (s x : Operand)
    (ho : o.op = .call { callee := .builtin .append, args := #[s, x], argTypes := #[28, 28] })
    (v : Value) (l : List UInt8) (y : Value) (b : UInt8) (hs : a.eval s = v) (hx : a.eval x = .slice (some ⟨W.heap.size, 0, none⟩) 1 1) (hy : y = bv b)
    (HO : Own W base v l) (hbase : base ≤ W.heap.size) (hl : l.length < 140737488355328)
    (h : ∀ v1 w1, Own w1 base v1 (l ++ [b]) → (W.grownBy w1 v.ownBlock ∧ (∃ g c, v = .slice (some ⟨g, 0, none⟩) l.length c ∧ v1 = .slice (some ⟨g, 0, none⟩) (l.length + 1) c) ∨ W.grownBy w1 none ∧ ∃ k, v1.ownBlock = some k ∧ W.heap.size ≤ k) → wpList Try.prog ops Q rest (a.put o.dst v1) w1) :
    wpList Try.prog ops Q (o :: rest) a (W.alloc (.cells #[y] 5)) := by
  subst hy
  obtain ⟨i0, hi, hz0, hz1, hz2⟩ := info_parts Try.info_u8
  have HO' : (W.alloc (.cells #[bv b] 5)).ownsRow base 5 1 v l.length (bvs l) := World.ownsRow.alloc HO _
  have hnews := World.news_of_block (cs := #[bv b]) (t := 5) (fr := (0, 0)) (heap_alloc_new W (.cells #[bv b] 5))
  obtain ⟨A, c, rfl, hr, hlc, hq⟩ := HO.form
  by_cases hfit : l.length + 1 ≤ c
  · rcases HO.2 with ⟨e, h0⟩ | ⟨g, cap, cur, e, hb, hg, hn, hm, hsz, htk⟩
    · injection e with _ _ e; omega
    injection e with e1 _ e3
    subst e1 e3
    refine wpList_append_fits (W.alloc (.cells #[bv b] 5)) hgd s x _ ho base _ i0 1 Try.underlying28 hi hz1 g l.length c (bvs l) hs HO' ⟨W.heap.size, 0, none⟩ 1 1 [bv b] hx rfl hnews (by simp [bv, Value.oneCell']) hfit ?_
    intro w1 hown hgr
    refine h _ w1 (by unfold Own; rw [bvs_append]; simpa [bvs] using hown) (.inl ⟨World.grownBy.trans (World.grownBy_alloc W _ _) hgr, g, c, rfl, rfl⟩)
  · have hcl : c = l.length := by omega
    refine wpList_append_grows (W.alloc (.cells #[bv b] 5)) hgd s x _ ho _ i0 (.int .u8 0) 1 1 Try.underlying28 hi hz0 hz1 hz2 rfl (by omega) A l.length c (bvs l) hs ?_ (by simp [bvs]) ?_ ⟨W.heap.size, 0, none⟩ 1 1 [bv b] hx rfl hnews (by simp [bv, Value.oneCell']) (by omega) (by simp only [maxLen]; omega) (by omega) ?_
    · intro hA
      rcases HO.2 with ⟨e, h0⟩ | ⟨g, cap, cur, e, _⟩
      · injection e with _ _ e; omega
      · injection e with e1; rw [hA] at e1; cases e1
    · intro ad hA j u hu
      subst hA
      exact (hr.alloc _).cells j u hu
    · intro v1 w1 hown hgr
      have hown' : Own w1 (W.heap.size + 1) v1 (l ++ [b]) := by
        unfold Own; rw [bvs_append]; simpa [bvs] using hown
      refine h v1 w1 (hown'.less (by omega)) (.inr ⟨World.grownBy.trans (World.grownBy_alloc W _ _) hgr, ?_⟩)
      rcases hown'.2 with ⟨e, h0⟩ | ⟨g, cap, cur, e, hb, _⟩
      · simp at h0
      · exact ⟨g, by rw [e]; rfl, by omega⟩
end

/-! ### buffers that are made -/
theorem make_bytes (m : Nat) (hn : m ≤ 281474976710656) :
    ∀ W : World, (Instr.makeSlice 28 (.int .i64 (m : Int)) (.int .i64 (m : Int))).run Try.prog W = .ok (.slice (some ⟨W.heap.size, 0, none⟩) m m) (W.alloc (.cells (madeCells #[.int .u8 0] m) 5)) := by
  intro W
  exact run_make_row' 28 5 (.int .u8 0) 1 Try.underlying28 Try.info_u8 rfl .i64 .i64 m (by omega) (by omega) W
theorem Buf.made (W : World) (m : Nat) : Buf (W.alloc (.cells (madeCells #[.int .u8 0] m) 5)) W.heap.size (List.replicate m 0) := by
  have h : madeCells #[.int .u8 0] m = (bvs (List.replicate m 0)).toArray := by
    apply Array.ext'
    rw [toList_madeCells_one]
    simp [bvs, bv]
  rw [h]
  exact Blk.new W _ _
theorem bv_nat (n : Nat) (h : n < 256) : bv (UInt8.ofNat n) = .int .u8 (n : Int) := by
  rw [bv_of]
  congr 1; omega
theorem Buf.fr {S : Nat → Prop} {w w' : World} {g : Nat} {l : List UInt8} (h : Buf w g l) (f : Fr S w w') (hg : ¬ S g) : Buf w' g l := Blk.fr h f hg
theorem Buf.frozen {w : World} {g : Nat} {l : List UInt8} (h : Buf w g l) (i : Nat) : w.frozen? ⟨g, i, none⟩ = false := Blk.frozen h i
end Go.Proofs.Ytlhfphidanjafaa
