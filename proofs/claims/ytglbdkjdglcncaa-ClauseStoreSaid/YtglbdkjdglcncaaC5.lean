/-
  slices.Clone, slices.SortFunc at clause.Order and slices.Compact, in the words of own rows. No condition but that lengths are below 2^44.
-/
import Derived.Test.YtglbdkjdglcncaaC4
namespace Go
theorem World.ownsRow.slice {w : World} {base n : Nat} {e : TypeId} {v : Value} {xs : List Value} (h : w.ownsRow base e 1 v n xs) : ∃ a c, v = .slice a n c ∧ n ≤ c := by
  rcases h.2 with ⟨hv, rfl⟩ | ⟨g, cap, cur, hv, _, _, h1, _⟩
  · exact ⟨none, 0, hv, Nat.le_refl _⟩
  · exact ⟨_, _, hv, h1⟩
end Go
namespace Go.Proofs.Ytglbdkjdglcncaa
open Go.RowKit Go.Sort Go.Lib

def WfI (xs : List Int) : Prop := ∀ x ∈ xs, -9223372036854775808 ≤ x ∧ x ≤ 9223372036854775807

theorem clone_any (a : Option Addr) (n c : Nat) (xs : List Int) (w : World) (hx : RdI w a n xs) (hn : n < 17592186044416) :
    Calls Try.prog 20 #[.slice a n c] w fun e w' => ∃ a' c', e = .returned (.slice a' n c') ∧ w'.ownsRow w.heap.size 3 1 (.slice a' n c') n (xs.map (Value.int .i64)) ∧ Below w.heap.size w w' := by
  by_cases h0 : 0 < n
  · obtain ⟨b, o, rfl, _, hc⟩ := hx.cells h0
    refine (Try.slices_Clone_int b o n c xs w (by rw [hx.len]; exact Nat.le_refl _) (by omega) (fun j hj => hc j (by rw [← hx.len]; exact hj))).mono ?_
    rintro e w' ⟨v', he, ho, _, hb⟩
    rw [show xs.take n = xs by rw [← hx.len, List.take_length]] at ho
    obtain ⟨a', c', rfl, _⟩ := ho.slice
    exact ⟨a', c', he, ho, hb⟩
  · obtain rfl : n = 0 := by omega
    have : xs = [] := List.eq_nil_of_length_eq_zero hx.len
    subst this
    cases a with
    | none =>
      refine (Try.slices_Clone_int_nil 0 c w).mono ?_
      rintro e w' ⟨he, rfl⟩
      exact ⟨none, 0, he, World.ownsRow_nil _ _ _ _, Below.refl _ _⟩
    | some a =>
      refine (Try.slices_Clone_int_zero a c w).mono ?_
      rintro e w' ⟨v', he, ho, _, hb⟩
      obtain ⟨a', c', rfl, _⟩ := ho.slice
      exact ⟨a', c', he, ho, hb⟩

theorem compact_any (base : Nat) (a : Option Addr) (n c : Nat) (xs : List Int) (w : World) (ho : w.ownsRow base 3 1 (.slice a n c) n (xs.map (Value.int .i64))) (hn : n < 17592186044416) :
    Calls Try.prog 24 #[.slice a n c] w fun e w' => ∃ m, m = (Lib.compact xs).length ∧ e = .returned (.slice a m c) ∧ w'.ownsRow base 3 1 (.slice a m c) m ((Lib.compact xs).map (Value.int .i64)) ∧ w.grownBy w' (Value.ownBlock (.slice a n c)) := by
  have hl : xs.length = n := by simpa using ho.1
  rcases ho.2 with ⟨hv, rfl⟩ | ⟨g, cap, cur, hv, hg, hh, h1, h2, h3, h4⟩
  · cases hv
    have : xs = [] := List.eq_nil_of_length_eq_zero hl
    subst this
    refine (Try.slices_Compact_int_empty none 0 w).mono ?_
    rintro e w' ⟨he, rfl⟩
    exact ⟨0, rfl, he, World.ownsRow_nil _ _ _ _, ⟨rfl, rfl, rfl, Nat.le_refl _, fun _ _ _ => rfl⟩⟩
  · cases hv
    subst hl
    refine (Try.slices_Compact_int g 0 c xs w (holdsI_of_block hh (by simpa using h4)) (by omega) h1).mono ?_
    rintro e w' ⟨he, q, rfl⟩
    have hle := Lib.compact_length_le xs
    have hgr := grownByI_sorted (w := w) (g := g) (n := q) (os := #[]) (compact xs ++ List.replicate (xs.length - (compact xs).length) 0).toArray
    have hown := ownsRowI_sorted (n := q) (os := #[]) (ss := xs) (ts := compact xs ++ List.replicate (xs.length - (compact xs).length) 0) (by simp; omega) hg hh h1 h2 h3
    rw [grow_empty'] at hgr hown
    refine ⟨_, rfl, he, ?_, hgr⟩
    rw [List.map_append] at hown
    have := ownsRow_cut hown
    rwa [List.length_map] at this

def sortC (xs : List Int) : List Int := xs.mergeSort fun x y => !(ltOf cfC) y x

theorem sort_any (base : Nat) (a : Option Addr) (n c : Nat) (xs : List Int) (w : World) (ho : w.ownsRow base 3 1 (.slice a n c) n (xs.map (Value.int .i64))) (hn : n < 17592186044416) :
    Calls Try.prog 22 #[.slice a n c, .func (.func 23) #[] #[]] w fun e w' => e = .returned (.tuple #[]) ∧ w'.ownsRow base 3 1 (.slice a n c) n ((sortC xs).map (Value.int .i64)) ∧ w.grownBy w' (Value.ownBlock (.slice a n c)) := by
  have hl : xs.length = n := by simpa using ho.1
  rcases ho.2 with ⟨hv, rfl⟩ | ⟨g, cap, cur, hv, hg, hh, h1, h2, h3, h4⟩
  · cases hv
    have : xs = [] := List.eq_nil_of_length_eq_zero hl
    subst this
    refine (Try.slices_SortFunc_none (α := Int) none 0 _ w).mono ?_
    rintro e w' ⟨he, rfl⟩
    exact ⟨he, by rw [show sortC [] = [] from by simp [sortC]]; exact World.ownsRow_nil _ _ _ _, ⟨rfl, rfl, rfl, Nat.le_refl _, fun _ _ _ => rfl⟩⟩
  · cases hv
    subst hl
    have eg : ∀ args w, (callFunc 23 args).run Try.prog w = .ok (.enter 23 args) w := enters_of Try.func23 (by kernel_rfl) rfl
    have hcmp : CmpLays1 Try.prog 23 #[] (Value.int .i64) cfC g 0 xs.toArray.size w := fun m os dk hs x y => order_any x y _
    have hlt := (Array.getElem?_eq_some_iff.1 hh).1
    have hS := Try.slices_SortFunc_total (Value.int .i64) (fun _ => rfl) cfC swoC 23 #[] g 0 c xs.toArray w eg hcmp (holdsI_of_block hh (by simpa using h4)) hlt (by simp; omega) totC
    refine hS.mono ?_
    rintro e w' ⟨he, q, os, rfl⟩
    have hls : (sortC xs).length = xs.length := by simp [sortC]
    refine ⟨he, ?_, ?_⟩
    · exact ownsRowI_sorted (n := q) (os := os) (ss := xs) (ts := sortC xs) hls hg hh h1 h2 h3
    · exact grownByI_sorted (w := w) (g := g) (n := q) (os := os) (sortC xs).toArray
end Go.Proofs.Ytglbdkjdglcncaa
