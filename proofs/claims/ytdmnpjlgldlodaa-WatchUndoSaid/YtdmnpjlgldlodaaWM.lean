/-
  theodolitelaw21.awake returns true, whatever the world; it writes nothing old. No condition.
-/
import Derived.Test.YtdmnpjlgldlodaaWK
namespace Go.Proofs.Ytdmnpjlgldlodaa
open Go.RowKit Go.Sort Go.Lib Go.Maps

theorem WatchP.rowGe {B p m1 m2 : Nat} {C : List (Int × List Int)} {R S : List Int} {w : World} (h : WatchP B p m1 m2 C R S w) {k : Nat} (hr : rowOf w p = some k) : B ≤ k := by
  obtain ⟨v, hv, ho⟩ := h.blk
  unfold rowOf at hr
  rw [hv] at hr
  exact (ho.lt k hr).1
theorem WatchP.stepBelow {B p m1 m2 : Nat} {C : List (Int × List Int)} {R S : List Int} {w w' : World} (h : WatchP B p m1 m2 C R S w) (hs : WStep p m1 m2 w w') : Below B w w' :=
  ⟨hs.os, hs.tape, hs.output, hs.size, fun k hk => by
    have h1 := h.bp
    have h2 := h.b1
    have h3 := h.b2
    have h4 := h.plt
    exact (hs.block k (by omega) (by omega) (by omega) (by omega) (fun e => by have := h.rowGe e; omega)).1⟩
theorem WatchP.atOld {B p m1 m2 : Nat} {C : List (Int × List Int)} {R S : List Int} {w w0 : World} {a : Option Addr} {n : Nat} {xs : List Int} (h : WatchP B p m1 m2 C R S w) (hr0 : RdI w0 a n xs) (hB : w0.heap.size ≤ B) (hr : RdI w a n xs) (hn : n < 1099511627776) : AtR p m1 m2 w a n xs := by
  refine ⟨hr, hn, fun h0 => ?_⟩
  obtain ⟨b, o, ha, hlt, _⟩ := hr0.cells h0
  have h1 := h.bp
  have h2 := h.b1
  have h3 := h.b2
  intro x hx
  rw [ha] at hx
  cases hx
  exact ⟨by show b ≠ p; omega, by show b ≠ m1; omega, by show b ≠ m2; omega, fun e => by have : B ≤ b := h.rowGe e; omega⟩
theorem RdR.lit2 (xs ys : List Int) (e e2 : TypeId) (w : World) (hx : WfI xs) (hy : WfI ys) :
    RdR (((w.alloc (.cells (xs.map (Value.int .i64)).toArray e)).alloc (.cells (ys.map (Value.int .i64)).toArray e)).alloc (.cells #[.slice (some ⟨w.heap.size, 0, none⟩) xs.length xs.length, .slice (some ⟨w.heap.size + 1, 0, none⟩) ys.length ys.length] e2)) (some ⟨w.heap.size + 2, 0, none⟩) 2 [xs, ys] := by
  obtain ⟨h1, h2⟩ := RdI.lit2 xs ys e w hx hy
  have hsz : ((w.alloc (.cells (xs.map (Value.int .i64)).toArray e)).alloc (.cells (ys.map (Value.int .i64)).toArray e)).heap.size = w.heap.size + 2 := by simp
  have hb : ∀ o, Below ((w.alloc (.cells (xs.map (Value.int .i64)).toArray e)).alloc (.cells (ys.map (Value.int .i64)).toArray e)).heap.size ((w.alloc (.cells (xs.map (Value.int .i64)).toArray e)).alloc (.cells (ys.map (Value.int .i64)).toArray e)) (((w.alloc (.cells (xs.map (Value.int .i64)).toArray e)).alloc (.cells (ys.map (Value.int .i64)).toArray e)).alloc o) := fun o => (Below.refl _ _).alloc (Nat.le_refl _) _
  refine ⟨rfl, fun _ => ⟨w.heap.size + 2, 0, rfl, by simp, fun j hj => ?_⟩⟩
  have hc : ∀ cs : Array Value, (((w.alloc (.cells (xs.map (Value.int .i64)).toArray e)).alloc (.cells (ys.map (Value.int .i64)).toArray e)).alloc (.cells cs e2)).cell? ⟨w.heap.size + 2, 0 + j, none⟩ = cs[j]? := fun cs => by
    rw [← hsz, World.cell?_alloc_new, Nat.zero_add]
  rw [hc]
  match j, hj with
  | 0, _ => exact ⟨_, _, rfl, h1.below (hb _) (Nat.le_refl _)⟩
  | 1, _ => exact ⟨_, _, rfl, h2.below (hb _) (Nat.le_refl _)⟩
def awC : List (Int × List Int) := [(4, [1, 2])]
theorem aw_close1 : closeS [[1, 2], [-2, 3]] [-1] = some [-1, 2, 3] := by decide +kernel
theorem aw_nrm1 : nrm [-1, 2, 3] = [-1, 2, 3] := by decide +kernel
theorem aw_close2 : closeS [[1], [-1]] [] = none := by decide +kernel
theorem aw_add1 : badAdd [] 4 [1, 2] = false ∧ nout [1, 2] = [1, 2] := by decide +kernel
theorem aw_add2 : badAdd awC 4 [5] = true := by decide +kernel
theorem aw_set1 : ((-1 : Int) == 0 || valS [] (-1) != 0) = false ∧ setC awC [-1] = -1 ∧ setU awC [-1] = [2] := by decide +kernel
theorem aw_set2 : ((-2 : Int) == 0 || valS [-1] (-2) != 0) = false ∧ setC awC [-1, -2] = 4 ∧ setU awC [-1, -2] = [] := by decide +kernel
theorem aw_undo : [-1, -2].take (2 - undoN 1 [-1, -2]) = [-1] := by decide +kernel
theorem aw_set3 : ((-1 : Int) == 0 || valS [-1] (-1) != 0) = true := by decide +kernel
theorem aw_val : valW [-1] 1 = -1 ∧ valW [-1] 2 = 0 := by decide +kernel
end Go.Proofs.Ytdmnpjlgldlodaa
