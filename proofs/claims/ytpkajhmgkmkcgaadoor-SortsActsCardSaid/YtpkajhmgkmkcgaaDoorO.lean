/-
  From a row's reading of an argument to this seat's vocabulary: slices of ints ('RdI') and of bools ('RdB'). No condition.
-/
import Derived.Test.YtpkajhmgkmkcgaaDoorV
import Derived.ProofKit
import Derived.OpenShut
import Derived.ShutString
import Derived.ChangeOld
import Derived.Deep.Grids
namespace Go.Proofs.YtpkajhmgkmkcgaaDoor
open Go.RowKit Go.ChangeShapes Go.WideShapes
open Go.Deep (open_bools)

variable {H : Type} {enc : TypeId × Value → H} {P : Program} {w : World}

theorem addr_at {w : World} {x : Addr} {n : Nat} {f : Nat → Value} (hn : 0 < n) (h : ∀ i, i < n → w.cell? (x.add i) = some (f i)) : ∃ b o, x = ⟨b, o, none⟩ ∧ b < w.heap.size ∧ ∀ j, j < n → w.cell? ⟨b, o + j, none⟩ = some (f j) := by
  obtain ⟨b, o, sp⟩ := x
  have hc := h 0 hn
  have hs : sp = none := by simpa [Addr.add] using World.cell?_spot hc
  subst hs
  refine ⟨b, o, rfl, World.block_lt_of_cell? w _ hc, fun j hj => by rw [← Addr.add_lit b o j]; exact h j hj⟩

theorem opened_ints {t e : TypeId} {a : Option Addr} {len cap : Nat} {d : DataW H} {p : List MemPlace} (ht : P.underlying t = some (.slice e)) (he : P.underlying e = some (.int .i64)) (hc : P.cellsOf e = 1)
    (h : DataW.Trod enc P w 0 (fun _ => true) true t (.slice a len cap) d p) : ∃ xs, RdI w a len xs ∧ (len ≤ cap ∧ cap ≤ 9223372036854775807) := by
  obtain ⟨fuel, hf⟩ := h
  rcases open_ints ht he hc hf with ⟨hcs, _⟩ | ⟨x, l, c, zs, hcs, _, hl, hm, hz, _, hcell, hwz⟩
  · simp [Value.cells] at hcs
    obtain ⟨rfl, rfl, rfl⟩ := hcs
    exact ⟨[], RdI.nil _ _, by omega⟩
  · simp [Value.cells] at hcs
    obtain ⟨rfl, rfl, rfl⟩ := hcs
    simp only [if_true] at hz
    unfold maxLen at hm
    refine ⟨zs.take len, ⟨by simp; omega, fun y hy => bounds_i64 (hwz y (List.mem_of_mem_take hy)), fun hn => ?_⟩, by omega⟩
    obtain ⟨b, o, hx, hb, hcc⟩ := addr_at (n := len) (f := fun j => .int .i64 (zs.getD j 0)) hn (fun i hi => hcell i (by omega))
    refine ⟨b, o, by rw [hx], hb, fun j hj => ?_⟩
    rw [hcc j hj]
    simp [nth, List.getD, hj]

theorem opened_bools {t e : TypeId} {a : Option Addr} {len cap : Nat} {d : DataW H} {p : List MemPlace} (ht : P.underlying t = some (.slice e)) (he : P.underlying e = some .bool) (hc : P.cellsOf e = 1)
    (h : DataW.Trod enc P w 0 (fun _ => true) true t (.slice a len cap) d p) : ∃ xs, RdB w a len xs ∧ (len ≤ cap ∧ cap ≤ 9223372036854775807) := by
  obtain ⟨fuel, hf⟩ := h
  rcases open_bools ht he hc hf with ⟨hcs, _⟩ | ⟨x, l, c, B, hcs, _, hl, hm, _, hcell⟩
  · simp [Value.cells] at hcs
    obtain ⟨rfl, rfl, rfl⟩ := hcs
    exact ⟨[], ⟨rfl, by omega⟩, by omega⟩
  · simp [Value.cells] at hcs
    obtain ⟨rfl, rfl, rfl⟩ := hcs
    unfold maxLen at hm
    refine ⟨(List.range len).map B, ⟨by simp, fun hn => ?_⟩, by omega⟩
    obtain ⟨b, o, hx, hb, hcc⟩ := addr_at (n := len) (f := fun j => .bool (B j)) hn (fun i hi => hcell i (by omega))
    refine ⟨b, o, by rw [hx], hb, fun j hj => ?_⟩
    rw [hcc j hj]
    simp [nthB, List.getD, hj]
end Go.Proofs.YtpkajhmgkmkcgaaDoor
