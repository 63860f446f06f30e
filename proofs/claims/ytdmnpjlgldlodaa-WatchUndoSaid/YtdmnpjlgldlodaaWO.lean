/-
  From a row's reading of an argument to this seat's vocabulary: slices of slices of ints ('RdR'). No condition.
-/
import Derived.Test.YtdmnpjlgldlodaaO
import Derived.Test.YtdmnpjlgldlodaaWB
namespace Go.Proofs.Ytdmnpjlgldlodaa
open Go.RowKit Go.ChangeShapes Go.WideShapes
open Go.Deep (open_int_rows)

variable {H : Type} {enc : TypeId × Value → H} {P : Program} {w : World}
theorem opened_rows {t e q : TypeId} {a : Option Addr} {len cap : Nat} {d : DataW H} {p : List MemPlace} (ht : P.underlying t = some (.slice e)) (he : P.underlying e = some (.slice q)) (hq : P.underlying q = some (.int .i64)) (hc : P.cellsOf e = 1) (hc2 : P.cellsOf q = 1)
    (h : DataW.Trod enc P w 0 (fun _ => true) true t (.slice a len cap) d p) : ∃ xs, RdR w a len xs ∧ (len ≤ cap ∧ cap ≤ 9223372036854775807) := by
  obtain ⟨fuel, hf⟩ := h
  rcases open_int_rows ht he hq hc hc2 hf with ⟨hcs, _⟩ | ⟨x, l, c, A, L, C, Z, hcs, _, hl, hm, _, hcell⟩
  · simp [Value.cells] at hcs
    obtain ⟨rfl, rfl, rfl⟩ := hcs
    exact ⟨[], ⟨rfl, by omega⟩, by omega⟩
  · simp [Value.cells] at hcs
    obtain ⟨rfl, rfl, rfl⟩ := hcs
    unfold maxLen at hm
    refine ⟨(List.range len).map fun r => (Z r).take (L r), ⟨by simp, fun hn => ?_⟩, by omega⟩
    obtain ⟨b, o, hx, hb, hcc⟩ := addr_at (n := len) (f := fun j => .slice (A j) (L j) (C j)) hn (fun i hi => (hcell i (by omega)).1)
    refine ⟨b, o, by rw [hx], hb, fun j hj => ?_⟩
    obtain ⟨_, h1, h2, h3, h4, _, h6⟩ := hcell j (by omega)
    have hr : nthR ((List.range len).map fun r => (Z r).take (L r)) j = (Z j).take (L j) := by simp [nthR, List.getD, hj]
    have hlen : ((Z j).take (L j)).length = L j := by rw [List.length_take]; omega
    rw [hr, hlen]
    refine ⟨A j, C j, hcc j hj, hlen, fun y hy => bounds_i64 (h4 y (List.mem_of_mem_take hy)), fun hn2 => ?_⟩
    cases hA : A j with
    | none =>
      have : C j = 0 := by obtain ⟨_, _, _, _, _, h5, _⟩ := hcell j (by omega); exact h5 hA
      omega
    | some a' =>
      obtain ⟨b2, o2, hx2, hb2, hcc2⟩ := addr_at (n := L j) (f := fun i => .int .i64 ((Z j).getD i 0)) hn2 (fun i hi => (h6 a' hA).2 i (by omega))
      refine ⟨b2, o2, by rw [hx2], hb2, fun i hi => ?_⟩
      rw [hcc2 i hi]
      simp [nth, List.getD, hi]
end Go.Proofs.Ytdmnpjlgldlodaa
