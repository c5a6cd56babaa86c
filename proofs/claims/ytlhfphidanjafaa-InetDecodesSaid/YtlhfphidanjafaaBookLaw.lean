/- What slipwayref01.Book's Owned leaves, round by round: lemmas without the walk. -/
import Derived.Test.YtlhfphidanjafaaBook
set_option linter.unusedVariables false
set_option linter.unusedSimpArgs false
namespace Go.Proofs.Ytlhfphidanjafaa
open Go.RowKit

def MB (i n : Nat) : UInt8 := UInt8.ofNat (i * 7 + n * 13 + i / 256 + 1)
def marks (i m : Nat) : List UInt8 := (List.range m).map (MB i)
theorem marks_length (i m : Nat) : (marks i m).length = m := by simp [marks]
theorem marks_get (i m n : Nat) (h : n < (marks i m).length) : (marks i m)[n] = MB i n := by simp [marks]
theorem marks_succ (i m : Nat) : marks i (m + 1) = marks i m ++ [MB i m] := by simp [marks, List.range_succ]
theorem marks_zero (i : Nat) : marks i 0 = [] := rfl
theorem marks_over (i q : Nat) (l : List UInt8) (h : q < l.length) : (marks i q ++ l.drop q).set q (MB i q) = marks i (q + 1) ++ l.drop (q + 1) := by
  rw [marks_succ, List.set_append_right _ _ (by rw [marks_length]; exact Nat.le_refl _), marks_length, Nat.sub_self, List.drop_eq_getElem_cons h, List.set_cons_zero, List.append_assoc]
  rfl

theorem Own.put {w : World} {base g c n : Nat} {l : List UInt8} (h : Own w base (.slice (some ⟨g, 0, none⟩) n c) l) (i : Nat) (b : UInt8) : Own (w.setCell ⟨g, i, none⟩ (bv b)) base (.slice (some ⟨g, 0, none⟩) n c) (l.set i b) := by
  have hn : n = l.length := by
    rcases h.form with ⟨A, c', e, _⟩
    injection e
  subst hn
  have := (World.ownsRow.stored h i (bv b)).1
  unfold Own
  rw [List.length_set, show bvs (l.set i b) = (bvs l).set i (bv b) from by simp [bvs, List.map_set]]
  exact this
theorem Own.slot {w : World} {base g c n : Nat} {l : List UInt8} (h : Own w base (.slice (some ⟨g, 0, none⟩) n c) l) (i : Nat) (hi : i < l.length) : w.cell? ⟨g, i, none⟩ = some (bv l[i]) ∧ w.frozen? ⟨g, i, none⟩ = false := by
  have hn : n = l.length := by
    rcases h.form with ⟨A, c', e, _⟩
    injection e
  subst hn
  refine ⟨?_, ?_⟩
  · have := World.ownsRow.cells h (g := g) rfl i (bv l[i]) (by rw [bvs_get, List.getElem?_eq_getElem hi]; rfl)
    rwa [add_plain', Nat.zero_add] at this
  · rcases h.2 with ⟨h', _⟩ | ⟨g', cap', cur, h', hb, hg, _⟩
    · simp at h'
    · injection h' with h' _ _
      injection h' with h'
      injection h' with h' _ _
      subst h'
      simp [World.frozen?, hg]
/-- an owned row whose length is not 0 has a block, and starts there -/
theorem Own.head {w : World} {base : Nat} {A : Option Addr} {n c : Nat} {l : List UInt8} (h : Own w base (.slice A n c) l) (hl : 0 < l.length) : ∃ g, A = some ⟨g, 0, none⟩ ∧ base ≤ g ∧ g < w.heap.size ∧ tyAt w g = some 5 := by
  rcases h.2 with ⟨h', h0⟩ | ⟨g, cap, cur, h', hb, hg, _⟩
  · omega
  · injection h' with h' _ _
    exact ⟨g, h', hb, (Array.getElem?_eq_some_iff.1 hg).1, by simp [tyAt, hg]⟩
theorem Own.eqn {w : World} {base : Nat} {A : Option Addr} {n c : Nat} {l : List UInt8} (h : Own w base (.slice A n c) l) : n = l.length := by
  rcases h.form with ⟨A', c', e, _⟩
  injection e
theorem RA.pre {w : World} {A : Option Addr} {l m : List UInt8} (h : RA w A (l ++ m)) : RA w A l := by
  by_cases h0 : l = []
  · exact .inl h0
  · rcases h with h | ⟨ad, rfl, hlt, hc⟩
    · simp at h; exact absurd h.1 h0
    · refine .inr ⟨ad, rfl, hlt, fun j hj => ?_⟩
      rw [hc j (by simp; omega), List.getElem_append_left hj]
theorem Own.ra {w : World} {base : Nat} {A : Option Addr} {n c : Nat} {l : List UInt8} (h : Own w base (.slice A n c) l) : RA w A l := by
  rcases h.form with ⟨A', c', e, hr, _⟩
  injection e with e
  rw [e]; exact hr

/-- a list that was written over and grown -/
structure Grow (w : World) (base B1 : Nat) (v : Value) (A : Option Addr) (j len q : Nat) (gv : Value) : Prop where
  own : Own w base gv (marks j (len + q))
  old : RA w A (marks j len)
  at_ : gv.ownBlock = v.ownBlock ∨ ∃ b, gv.ownBlock = some b ∧ B1 ≤ b
theorem Grow.next {wr wi w1 : World} {base B1 j len q c : Nat} {A : Option Addr} {gv v1 : Value} {S : Nat → Prop} (h : Grow wi base B1 (.slice A len c) A j len q gv) (f : Fr S wr wi) (hS : ∀ b, (Value.slice A len c).ownBlock = some b → S b) (hB : wr.heap.size ≤ B1)
    (hA : ∀ ad, A = some ad → 0 < len → (∃ g, ad = ⟨g, 0, none⟩) ∧ (Value.slice A len c).ownBlock = some ad.block ∧ ad.block < B1)
    (ho : Own w1 base v1 (marks j (len + q) ++ [MB j (len + q)]))
    (hc : (wi.grownBy w1 gv.ownBlock ∧ (∃ g c', gv = .slice (some ⟨g, 0, none⟩) (marks j (len + q)).length c' ∧ v1 = .slice (some ⟨g, 0, none⟩) ((marks j (len + q)).length + 1) c')) ∨ (wi.grownBy w1 none ∧ ∃ k, v1.ownBlock = some k ∧ wi.heap.size ≤ k)) (hB1 : B1 ≤ wi.heap.size) :
    Grow w1 base B1 (.slice A len c) A j len (q + 1) v1 ∧ Fr S wr w1 := by
  have ho' : Own w1 base v1 (marks j (len + (q + 1))) := by rw [← Nat.add_assoc, marks_succ]; exact ho
  rcases hc with ⟨hg, g, c', rfl, rfl⟩ | ⟨hg, k, hk, hle⟩
  · refine ⟨⟨ho', ?_, h.at_⟩, ?_⟩
    · rcases Nat.eq_zero_or_pos len with h0 | h0
      · subst h0; exact .inl rfl
      · rcases h.at_ with e | ⟨b, e, hb⟩
        · rcases h.old with e0 | ⟨ad, rfl, _⟩
          · have := congrArg List.length e0; rw [marks_length] at this; simp at this; omega
          · obtain ⟨⟨g', rfl⟩, e2, _⟩ := hA ad rfl h0
            rw [e2] at e
            have : g = g' := by simpa [Value.ownBlock] using e
            subst this
            have := ho.ra
            rw [show marks j (len + q) = marks j len ++ (List.range q).map (fun i => MB j (len + i)) from by simp [marks, List.range_add, List.map_append, Function.comp_def]] at this
            rw [List.append_assoc] at this
            exact this.pre
        · refine h.old.grown hg fun ad hA' _ he => ?_
          obtain ⟨_, _, h3⟩ := hA ad hA' h0
          rw [e] at he
          injection he with he
          omega
    · refine f.then_ (Fr.of_grown (S := fun b => (Value.slice (some ⟨g, 0, none⟩) (marks j (len + q)).length c').ownBlock = some b) hg fun b h => h) fun i hi hb => ?_
      rcases h.at_ with e | ⟨b, e, hb'⟩
      · exact hS i (e ▸ hb)
      · rw [e] at hb; injection hb with hb; omega
  · exact ⟨⟨ho', h.old.grown hg (fun _ _ _ => by simp), .inr ⟨k, hk, by omega⟩⟩, f.then_ (T := fun _ => False) (Fr.of_grown hg (fun _ h => by cases h)) fun _ _ h => h.elim⟩

/-- what is known of a list that is done -/
def DoneAt (w : World) (B0 i : Nat) (v : Value) (len : Nat) (gv : Value) : Prop :=
  ∃ A c A' c', v = .slice A len c ∧ gv = .slice A' (len + 9) c' ∧ RA w A (marks i len) ∧ RA w A' (marks i (len + 9)) ∧
    (∀ ad, A = some ad → 0 < len → v.ownBlock = some ad.block) ∧ (∀ ad, A' = some ad → v.ownBlock = some ad.block ∨ (B0 ≤ ad.block ∧ tyAt w ad.block = some 5 ∧ ad.block < w.heap.size))
theorem DoneAt.fr {w w' : World} {B0 i len : Nat} {v gv : Value} {S : Nat → Prop} (h : DoneAt w B0 i v len gv) (f : Fr S w w') (h1 : ∀ b, v.ownBlock = some b → ¬ S b) (h2 : ∀ b, B0 ≤ b → b < w.heap.size → tyAt w b = some 5 → ¬ S b) : DoneAt w' B0 i v len gv := by
  obtain ⟨A, c, A', c', e1, e2, r1, r2, a1, a2⟩ := h
  refine ⟨A, c, A', c', e1, e2, r1.fr f fun ad hA hne => h1 _ (a1 ad hA ?_), r2.fr f fun ad hA hne => ?_, a1, fun ad hA => ?_⟩
  · rcases Nat.eq_zero_or_pos len with h0 | h0
    · subst h0; exact absurd rfl hne
    · exact h0
  · rcases a2 ad hA with h | ⟨hb, ht, hl⟩
    · exact h1 _ h
    · exact h2 _ hb hl ht
  · rcases a2 ad hA with h | ⟨hb, ht, hl⟩
    · exact .inl h
    · exact .inr ⟨hb, (tyAt_same (f.block _ hl (h2 _ hb hl ht))).trans ht, Nat.lt_of_lt_of_le hl f.size⟩
theorem Grow.done {w : World} {base B0 B1 j len c : Nat} {A : Option Addr} {gv : Value} (h : Grow w base B1 (.slice A len c) A j len 9 gv) (hB : B0 ≤ B1) (hA : ∀ ad, A = some ad → 0 < len → (Value.slice A len c).ownBlock = some ad.block) : DoneAt w B0 j (.slice A len c) len gv := by
  obtain ⟨A', c', rfl, hr, _, _⟩ := h.own.form
  rw [marks_length] at *
  refine ⟨A, c, A', c', rfl, rfl, h.old, hr, hA, fun ad hA' => ?_⟩
  obtain ⟨g, e, hg1, hg2, hg3⟩ := Own.head h.own (by rw [marks_length]; omega)
  rw [hA'] at e
  injection e with e
  subst e
  subst hA'
  rcases h.at_ with e | ⟨b, e, hb⟩
  · exact .inl e.symm
  · have : g = b := by simpa [Value.ownBlock] using e
    subst this
    exact .inr ⟨by show B0 ≤ g; omega, hg3, hg2⟩

def Forms (its : List (Value × List UInt8)) : Prop := ∀ x ∈ its, ∃ A c, x.1 = .slice A x.2.length c ∧ x.2.length ≤ c ∧ c ≤ 9223372036854775807
theorem Pool.forms {w : World} {base : Nat} {its : List (Value × List UInt8)} (h : Pool w base its) : Forms its := fun x hx => by
  have hx := h.own x hx
  obtain ⟨A, c, e, _, hlc, _⟩ := hx.form
  exact ⟨A, c, e, hlc, by rw [e] at hx; exact hx.cap⟩
/-- a book's cells, where the walk wants them -/
theorem BookAt.open_ {w : World} {base k : Nat} {T : TypeId} {cs : List Value} {o : Nat} {its : List (Value × List UInt8)} (h : BookAt w base k T cs o its) (hp : Forms its) :
    ∃ LA lc SA sc, w.cell? ⟨k, o, none⟩ = some (.slice LA its.length lc) ∧ w.cell? ⟨k, o + 1, none⟩ = some (.slice SA its.length sc) ∧
      ∀ (i : Nat) (hi : i < its.length), ∃ gl gs A c, LA = some ⟨gl, 0, none⟩ ∧ SA = some ⟨gs, 0, none⟩ ∧ its[i].1 = .slice A its[i].2.length c ∧ w.cell? ⟨gl, i, none⟩ = some (.slice A its[i].2.length c) ∧ w.cell? ⟨gs, i, none⟩ = some (.string ⟨its[i].2.toArray⟩) ∧ its[i].2.length ≤ c ∧ c ≤ 9223372036854775807 := by
  obtain ⟨lv, sv, hb, e1, e2, r1, r2⟩ := h
  obtain ⟨LA, lc, rfl, _, _, h1⟩ := owns_form r1
  obtain ⟨SA, sc, rfl, _, _, h2⟩ := owns_form r2
  refine ⟨LA, lc, SA, sc, (hb.cell o).trans e1, (hb.cell (o + 1)).trans e2, fun i hi => ?_⟩
  obtain ⟨gl, hl1, _, hl3⟩ := h1 i hi
  obtain ⟨gs, hs1, _, hs3⟩ := h2 i hi
  obtain ⟨A, c, e, hlc, hcm⟩ := hp its[i] (List.getElem_mem hi)
  refine ⟨gl, gs, A, c, hl1, hs1, e, ?_, ?_, hlc, hcm⟩
  · rw [hl3, List.getElem?_map, List.getElem?_eq_getElem hi, Option.map_some, e]
  · rw [hs3, strs, List.getElem?_map, List.getElem?_eq_getElem hi, Option.map_some]
theorem BookAt.fr {w w' : World} {base k : Nat} {T : TypeId} {cs : List Value} {o : Nat} {its : List (Value × List UInt8)} {S : Nat → Prop} (h : BookAt w base k T cs o its) (f : Fr S w w') (h1 : ¬ S k) (h2 : ∀ b t, tyAt w b = some t → t = 28 ∨ t = 9 → ¬ S b) : BookAt w' base k T cs o its := by
  obtain ⟨lv, sv, hb, e1, e2, r1, r2⟩ := h
  exact ⟨lv, sv, hb.fr f h1, e1, e2, owns_fr r1 f fun g hg => h2 g _ (owns_ty r1 hg) (.inl rfl), owns_fr r2 f fun g hg => h2 g _ (owns_ty r2 hg) (.inr rfl)⟩
theorem BookAt.of {w w' : World} {base k : Nat} {T : TypeId} {cs : List Value} {o : Nat} {its : List (Value × List UInt8)} (h : BookAt w base k T cs o its) (hp : Pool w base its) (hT : T ≠ 5) (f : Fr (Of its) w w') : BookAt w' base k T cs o its := by
  refine h.fr f ?_ fun b t ht ht2 ⟨x, hx, he⟩ => ?_
  · rintro ⟨x, hx, he⟩
    obtain ⟨lv, sv, hb, _⟩ := h
    exact owns_blk (hp.own x hx) hb (Ne.symm hT) he
  · rw [owns_ty (hp.own x hx) he] at ht
    injection ht with ht
    subst ht
    rcases ht2 with e | e <;> revert e <;> decide

/-- the third loop's words after one more list -/
def DoneTo (w : World) (B0 : Nat) (its : List (Value × List UInt8)) (gs : List Value) (j : Nat) : Prop := ∀ (i : Nat) (h : i < its.length), i < j → DoneAt w B0 i its[i].1 its[i].2.length (gs.getD i undef)
def LeftFrom (w : World) (base : Nat) (its : List (Value × List UInt8)) (j : Nat) : Prop := ∀ (i : Nat) (h : i < its.length), j ≤ i → Own w base its[i].1 its[i].2
theorem round2 {w wo wr w2 : World} {base j q c c8 : Nat} {A A8 : Option Addr} {its : List (Value × List UInt8)} {gv : Value} {gs : List Value} {o : Obj} (hP : Pool w base its) (hj : j < its.length) (e1 : its[j].1 = .slice A q c) (e2 : its[j].2.length = q)
    (hF : Fr (Of its) w wo) (HD : DoneTo wo w.heap.size its gs j) (HE : LeftFrom wo base its j) (hrow : wo.ownsRow w.heap.size 28 1 gv j gs) (hgl : gs.length = j)
    (hd : DoneAt wr w.heap.size j (.slice A q c) q (.slice A8 (q + 9) c8)) (hf : Fr (fun b => (Value.slice A q c).ownBlock = some b) wo wr) (hg2 : (wr.alloc o).grownBy w2 gv.ownBlock) :
    (gs ++ [Value.slice A8 (q + 9) c8]).length = j + 1 ∧ Fr (Of its) w w2 ∧ DoneTo w2 w.heap.size its (gs ++ [.slice A8 (q + 9) c8]) (j + 1) ∧ LeftFrom w2 base its (j + 1) := by
  have hj' : Of its = Of its := rfl
  have lt : ∀ (i : Nat) (h : i < its.length) (b : Nat), its[i].1.ownBlock = some b → b < w.heap.size := fun i h b hb => (hP.lt (List.getElem_mem h) hb).2
  have ap : ∀ (i : Nat) (h : i < its.length), i ≠ j → ∀ b, its[i].1.ownBlock = some b → ¬ (Value.slice A q c).ownBlock = some b := fun i h hne b hb => by
    have := hP.apart h hj hne b hb
    rwa [e1] at this
  have ltj : ∀ b, (Value.slice A q c).ownBlock = some b → b < w.heap.size := fun b hb => lt j hj b (by rw [e1]; exact hb)
  have hrow' : wr.ownsRow w.heap.size 28 1 gv j gs := owns_fr hrow hf fun g hg he => by
    have := (owns_lt hrow hg).1
    have := ltj g he
    omega
  have f2 : Fr (fun b => gv.ownBlock = some b) wr w2 := (((Fr.refl _ wr).alloc o).then_ (Fr.of_grown (S := fun b => gv.ownBlock = some b) hg2 fun g h => h) fun _ _ h => h)
  have hge : ∀ b, gv.ownBlock = some b → w.heap.size ≤ b := fun b hb => (owns_lt hrow' hb).1
  have hty : ∀ b, gv.ownBlock = some b → tyAt wr b = some 28 := fun b hb => owns_ty hrow' hb
  refine ⟨by simp [hgl], ?_, fun i h hi => ?_, fun i h hi => ?_⟩
  · refine (hF.then_ hf fun i hi hb => ⟨its[j], List.getElem_mem hj, by rw [e1]; exact hb⟩).then_ f2 fun i hi hb => ?_
    have := hge i hb
    omega
  · rcases Nat.lt_or_ge i j with hlt | hge'
    · have hne : i ≠ j := by omega
      have h1 := ((HD i h hlt).fr hf (ap i h hne) (fun b hb _ _ he => by have := ltj b he; omega)).fr f2 (fun b hb he => by have := lt i h b hb; have := hge b he; omega) (fun b _ _ ht he => by rw [hty b he] at ht; injection ht with ht; revert ht; decide)
      have hg : (gs ++ [Value.slice A8 (q + 9) c8]).getD i undef = gs.getD i undef := by
        simp only [List.getD]; rw [List.getElem?_append_left (by omega)]
      rwa [hg]
    · obtain rfl : i = j := by omega
      have hg : (gs ++ [Value.slice A8 (q + 9) c8]).getD i undef = .slice A8 (q + 9) c8 := by
        simp only [List.getD]; rw [List.getElem?_append_right (by omega), hgl]; simp
      rw [hg, e1, e2]
      exact hd.fr f2 (fun b hb he => by have := ltj b hb; have := hge b he; omega) (fun b _ _ ht he => by rw [hty b he] at ht; injection ht with ht; revert ht; decide)
  · have hne : i ≠ j := by omega
    exact ((HE i h (by omega)).fr hf (ap i h hne)).fr f2 (fun b hb he => by have := lt i h b hb; have := hge b he; omega)
theorem Pool.take {w w' : World} {base b k : Nat} {T : TypeId} {cs : List Value} {L : List (Value × List UInt8)} (h : Pool w base L) (hk : Blk w k T cs) (hT : T ≠ 5) (f : Fr (Taking w b k) w w') : Pool w' base L := by
  refine h.fr f fun x hx g hg he => ?_
  rcases he with rfl | ⟨_, t, ht, he⟩
  · exact owns_blk (h.own x hx) hk (Ne.symm hT) hg
  · rw [owns_ty (h.own x hx) hg] at he
    injection he with he
    subst he
    revert ht; decide
theorem BookAt.blk {w : World} {base k : Nat} {T : TypeId} {cs : List Value} {o : Nat} {its : List (Value × List UInt8)} (h : BookAt w base k T cs o its) : Blk w k T cs := by
  obtain ⟨lv, sv, hb, _⟩ := h
  exact hb
theorem BookAt.empty (w : World) (base : Nat) (T : TypeId) : BookAt (w.alloc (.cells #[.slice none 0 0, .slice none 0 0] T)) base w.heap.size T [.slice none 0 0, .slice none 0 0] 0 [] :=
  ⟨_, _, Blk.new w T [.slice none 0 0, .slice none 0 0], rfl, rfl, World.ownsRow_nil _ _ _ _, World.ownsRow_nil _ _ _ _⟩
theorem law_take {w W W' : World} {b k : Nat} {T : TypeId} {cs : List Value} {L : List (Value × List UInt8)} (hP : Pool W b L) (hO : Below b w W) (hz : b ≤ W.heap.size) (hB : Blk W k T cs) (hk : b ≤ k) (hT : T ≠ 5) (hf : Fr (Taking W b k) W W') : Pool W' b L ∧ Below b w W' ∧ b ≤ W'.heap.size :=
  ⟨hP.take hB hT hf, hf.on_below hO hz fun i hi he => by
    rcases he with rfl | ⟨h, _⟩ <;> omega, Nat.le_trans hz hf.size⟩
end Go.Proofs.Ytlhfphidanjafaa
