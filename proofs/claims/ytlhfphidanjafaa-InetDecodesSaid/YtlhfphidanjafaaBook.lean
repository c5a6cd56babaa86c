/- slipwayref01.Book: Take. -/
import Derived.Test.YtlhfphidanjafaaLent
import Derived.Deep.RegionHeld3
set_option linter.unusedVariables false
set_option linter.unusedSimpArgs false
namespace Go.Proofs.Ytlhfphidanjafaa
open Go.RowKit

theorem Try.info_bytes : (Try.prog.info? 28).map (fun i => (i.zero, i.size, i.bytes)) = some (some (.slice none 0 0), 1, 24) := by kernel_rfl
theorem Try.info_str : (Try.prog.info? 9).map (fun i => (i.zero, i.size, i.bytes)) = some (some (.string ⟨#[]⟩), 1, 16) := by kernel_rfl

def strs (its : List (Value × List UInt8)) : List Value := its.map fun x => .string ⟨x.2.toArray⟩
/-- a book lies in the cells o, o + 1 of block k, and holds these lists -/
def BookAt (w : World) (base k : Nat) (T : TypeId) (cs : List Value) (o : Nat) (its : List (Value × List UInt8)) : Prop :=
  ∃ lv sv, Blk w k T cs ∧ cs[o]? = some lv ∧ cs[o + 1]? = some sv ∧ w.ownsRow base 28 1 lv its.length (its.map (·.1)) ∧ w.ownsRow base 9 1 sv its.length (strs its)

/-- what Take may turn -/
def Taking (w : World) (base k : Nat) (b : Nat) : Prop := b = k ∨ Ty w base [28, 9] b

set_option maxRecDepth 100000 in
set_option maxHeartbeats 2000000 in
theorem Take_any (base k : Nat) (T : TypeId) (cs : List Value) (o : Nat) (its : List (Value × List UInt8)) (A : Option Addr) (l : List UInt8) (m c : Nat) (w : World)
    (hB : BookAt w base k T cs o its) (hk : base ≤ w.heap.size) (h1 : T ≠ 28) (h2 : T ≠ 9) (h3' : T ≠ 5) (hm : m = l.length) (hA : RA w A l) (hA2 : ∀ ad, A = some ad → l ≠ [] → tyAt w ad.block = some 5) (hn : its.length ≤ 1000000000000) (ho : o + 1 ≤ 1000) :
    Calls Try.prog 13 #[.pointer (some ⟨k, o, none⟩), .slice A m c] w fun e w' => e = .returned (.tuple #[]) ∧
      ∃ cs', cs'.length = cs.length ∧ (∀ i, i ≠ o → i ≠ o + 1 → cs'[i]? = cs[i]?) ∧ BookAt w' base k T cs' o (its ++ [(.slice A m c, l)]) ∧ Fr (Taking w base k) w w' := by
  subst hm
  obtain ⟨lv, sv, hb, e1, e2, r1, r2⟩ := hB
  have c1 := (hb.cell o).trans e1
  have c2 := (hb.cell (o + 1)).trans e2
  have f1 := hb.frozen o
  have n1 : lv.ownBlock ≠ some k := owns_blk r1 hb (Ne.symm h1)
  have n2 : sv.ownBlock ≠ some k := owns_blk r2 hb (Ne.symm h2)
  go_enter Try.func13, Try.ntmps13
  go_wp2_with (at_builtin; refine appE (W := w.alloc (.cells #[.slice A l.length c] 28)) base 34 28 (.slice none 0 0) 24 Try.underlying34 Try.info_bytes rfl rfl _ _ rfl lv its.length (its.map (·.1)) (.slice A l.length c) ⟨w.heap.size, 0, none⟩ rfl rfl rfl (cell_box _ _ _) (World.ownsRow.alloc r1 _) (by simp <;> omega) (by omega) (by omega) ?_; intro v1 w1 o1 g1 a1; have b1 := (hb.alloc (.cells #[.slice A l.length c] 28)).grown g1 (Ne.symm n1); have d1 := b1.cell o; rw [e1] at d1; have d2 := b1.frozen o; obtain ⟨A1, k1, rfl, hn1, hq1, _⟩ := owns_form o1; have O1 := Lib.hid o1; have AT1 := Lib.hid a1; clear o1 a1)
  have b2 := b1.set_ o (.slice A1 (its.length + 1) k1)
  have c3 := (b2.cell (o + 1))
  rw [List.getElem?_set_ne (by omega), e2] at c3
  have b3 := b2.frozen (o + 1)
  have m1 : Fr (Taking w base k) w (w1.setCell ⟨k, o, none⟩ (.slice A1 (its.length + 1) k1)) :=
    ((((Fr.refl _ w).alloc (.cells #[.slice A l.length c] 28)).then_ (Fr.of_grown (S := fun g => lv.ownBlock = some g) g1 (fun g h => h)) (fun i hi h => .inr ⟨(owns_lt r1 h).1, 28, by simp, owns_ty r1 h⟩)).set_ (p := ⟨k, o, none⟩) (.inl (.inl rfl)) _)
  have q1 : (w1.setCell ⟨k, o, none⟩ (.slice A1 (its.length + 1) k1)).ownsRow base 28 1 (.slice A1 (its.length + 1) k1) (its.length + 1) (its.map (·.1) ++ [.slice A l.length c]) :=
    owns_fr (S := (· = k)) O1.out ((Fr.refl (· = k) _).set_ (p := ⟨k, o, none⟩) (.inl rfl) _) (fun g hg he => by subst he; exact owns_blk O1.out b1 (Ne.symm h1) hg)
  have q2 : (w1.setCell ⟨k, o, none⟩ (.slice A1 (its.length + 1) k1)).ownsRow base 9 1 sv its.length (strs its) := by
    refine owns_fr (S := fun g => g = k ∨ lv.ownBlock = some g) r2 ?_ (fun g hg he => ?_)
    · exact (((Fr.refl _ w).alloc (.cells #[.slice A l.length c] 28)).then_ (Fr.of_grown (S := fun g => lv.ownBlock = some g) g1 (fun g h => h)) (fun i hi h => .inr h)).set_ (p := ⟨k, o, none⟩) (.inl (.inl rfl)) _
    · rcases he with rfl | he
      · exact n2 hg
      · exact owns_owns r1 r2 (by decide) he hg
  have q3 : RA (w1.setCell ⟨k, o, none⟩ (.slice A1 (its.length + 1) k1)) A l := by
    refine hA.fr m1 (fun ad h0 h3 h4 => ?_)
    have ty := hA2 ad h0 h3
    rcases h4 with h4 | ⟨_, t, ht, h4⟩
    · rw [h4, hb.ty] at ty
      injection ty with ty
      exact h3' ty
    · rw [ty] at h4
      injection h4 with h4
      subst h4
      revert ht; decide
  have M1 := Lib.hid m1
  have Q1 := Lib.hid q1
  have Q2 := Lib.hid q2
  have B2 := Lib.hid b2
  have s1 : ∀ j, (convert 28 9 (.slice A l.length c)).run Try.prog ((w1.setCell ⟨k, o, none⟩ (.slice A1 (its.length + 1) k1)).drewN j) = .ok (.string ⟨l.toArray⟩) ((w1.setCell ⟨k, o, none⟩ (.slice A1 (its.length + 1) k1)).drewN j) := fun j => conv_str _ _ rfl (q3.drewN j)
  clear m1 q1 q2 q3 d1 d2 b1 c1 c2 b2
  generalize w1.setCell ⟨k, o, none⟩ (.slice A1 (its.length + 1) k1) = w2 at c3 b3 s1 M1 Q1 Q2 B2 ⊢
  have s0 : (convert 28 9 (.slice A l.length c)).run Try.prog w2.drew = .ok (.string ⟨l.toArray⟩) w2.drew := s1 1
  have klt : k < w2.heap.size := B2.out.lt
  have hb1 : (its.length + 1) ≤ 9223372036854775807 := by omega
  have hb2 : (its.length + 1) * 16 ≤ 140737488355328 := by omega
  have hk3 : base ≤ (w2.alloc (.cells #[.string ⟨l.toArray⟩] 9)).drew.heap.size := by have := M1.out.size; show base ≤ (w2.alloc (.cells #[.string ⟨l.toArray⟩] 9)).heap.size; simp; omega
  have HB1 := Lib.hid hb1
  have HB2 := Lib.hid hb2
  have HK3 := Lib.hid hk3
  clear hb1 hb2 hk3
  have hk2 : base ≤ w2.heap.size := Nat.le_trans hk M1.out.size
  go_region_law
    ((refine step_appE (W := (w2.alloc (.cells #[.string ⟨l.toArray⟩] 9)).drew) base 35 9 (.string ⟨#[]⟩) 16 Try.underlying35 Try.info_str rfl rfl _ _ rfl sv its.length (strs its) (.string ⟨l.toArray⟩) ⟨w2.heap.size, 0, none⟩ rfl rfl rfl (cell_box w2 _ _) (World.ownsRow.drew (World.ownsRow.alloc Q2.out _)) HK3.out HB1.out HB2.out ?_; intro v3 w3 o3 g3 a3; have b4 := (B2.out.alloc (.cells #[.string ⟨l.toArray⟩] 9)).drew.grown g3 (Ne.symm n2); have d3 := b4.cell (o + 1); rw [List.getElem?_set_ne (by omega), e2] at d3; have d4 := b4.frozen (o + 1); obtain ⟨A3, k3, rfl, hn3, hq3, _⟩ := owns_form o3; have O3 := Lib.hid o3; have AT3 := Lib.hid a3; clear o3 a3))
  all_goals
    go_end0
    refine ⟨rfl, (cs.set o (.slice A1 (its.length + 1) k1)).set (o + 1) (.slice A3 (its.length + 1) k3), by simp, fun i h1 h2 => by rw [List.getElem?_set_ne (Ne.symm h2), List.getElem?_set_ne (Ne.symm h1)], ⟨.slice A1 (its.length + 1) k1, .slice A3 (its.length + 1) k3, ?_, ?_, ?_, ?_, ?_⟩, ?_⟩
    · exact b4.set_ (o + 1) _
    · rw [List.getElem?_set_ne (by omega), List.getElem?_set_self (List.getElem?_eq_some_iff.1 e1).1]
    · rw [List.getElem?_set_self (by rw [List.length_set]; exact (List.getElem?_eq_some_iff.1 e2).1)]
    · refine owns_fr (S := fun g => g = k ∨ sv.ownBlock = some g) (by simpa using Q1.out) ?_ (fun g hg he => ?_)
      · exact ((((Fr.refl _ w2).alloc (.cells #[.string ⟨l.toArray⟩] 9)).drew.then_ (Fr.of_grown (S := fun g => sv.ownBlock = some g) g3 (fun g h => h)) (fun i hi h => .inr h)).set_ (p := ⟨k, o + 1, none⟩) (.inl (.inl rfl)) _)
      · rcases he with rfl | he
        · exact owns_blk Q1.out B2.out (Ne.symm h1) hg
        · exact owns_owns Q2.out Q1.out (by decide) he hg
    · refine owns_fr (S := (· = k)) (by simpa [strs] using O3.out) ((Fr.refl (· = k) _).set_ (p := ⟨k, o + 1, none⟩) (.inl rfl) _) (fun g hg he => by subst he; exact owns_blk O3.out b4 (Ne.symm h2) hg)
    · refine M1.out.then_ (T := fun g => g = k ∨ sv.ownBlock = some g) ?_ (fun i hi h => ?_)
      · exact ((((Fr.refl _ w2).alloc (.cells #[.string ⟨l.toArray⟩] 9)).drew.then_ (Fr.of_grown (S := fun g => sv.ownBlock = some g) g3 (fun g h => h)) (fun i hi h => .inr h)).set_ (p := ⟨k, o + 1, none⟩) (.inl (.inl rfl)) _)
      · rcases h with h | h
        · exact .inl h
        · exact .inr ⟨(owns_lt r2 h).1, 9, by simp, owns_ty r2 h⟩
end Go.Proofs.Ytlhfphidanjafaa
