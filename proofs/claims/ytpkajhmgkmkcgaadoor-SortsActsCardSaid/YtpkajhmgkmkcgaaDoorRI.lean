/-
  SortsActs: the plain law: how a table stands behind each act, and that a row of functions in order is the only one. No program in sight but the tables' readings. No condition.
-/
import Derived.Test.YtpkajhmgkmkcgaaDoorRH
namespace Go.Proofs.YtpkajhmgkmkcgaaDoor
open Go.RowKit Go.Sort Go.Lib

structure OkT (k : Nat) (T : TabD) : Prop where
  s : T.sorts.length ≤ k
  f : T.funs.length ≤ k
  m : T.marks.length ≤ k
  a : ∀ f ∈ T.funs, f.args.length ≤ 70
  wf : WfT T
  nd : (T.funs.map fun f => f.name.toList).Nodup
section
variable {k : Nat} {T : TabD}
theorem OkT.small (h : OkT k T) (hk : k ≤ 1000) : Small T := ⟨by have := h.s; omega, by have := h.f; omega, by have := h.m; omega, fun f hf => by have := h.a f hf; omega⟩
theorem OkT.more (h : OkT k T) : OkT (k + 1) T := ⟨by have := h.s; omega, by have := h.f; omega, by have := h.m; omega, h.a, h.wf, h.nd⟩
theorem OkT.nil : OkT 0 ⟨[], [], []⟩ := ⟨Nat.le_refl _, Nat.le_refl _, Nat.le_refl _, by simp, ⟨List.Pairwise.nil, by simp⟩, by simp⟩
theorem OkT.sort (h : OkT k T) (s : ByteArray) : OkT (k + 1) { T with sorts := T.sorts ++ [s] } :=
  ⟨by have := h.s; simp; omega, by have := h.f; show T.funs.length ≤ _; omega, by have := h.m; show T.marks.length ≤ _; omega, h.a, ⟨h.wf.mono, fun m hm => by have := h.wf.top m hm; refine ⟨?_, this.2⟩; show m.1 ≤ (T.sorts ++ [s]).length; rw [List.length_append]; omega⟩, h.nd⟩
theorem OkT.push (h : OkT k T) : OkT (k + 1) { T with marks := T.marks ++ [(T.sorts.length, T.funs.length)] } :=
  ⟨by have := h.s; show T.sorts.length ≤ _; omega, by have := h.f; show T.funs.length ≤ _; omega, by have := h.m; show (T.marks ++ [_]).length ≤ _; rw [List.length_append, List.length_singleton]; omega, h.a, ⟨List.pairwise_append.2 ⟨h.wf.mono, List.pairwise_singleton _ _, fun a ha b hb => by obtain rfl := List.mem_singleton.1 hb; exact h.wf.top a ha⟩, fun m hm => by
    rcases List.mem_append.1 hm with hm | hm
    · exact h.wf.top m hm
    · obtain rfl := List.mem_singleton.1 hm
      exact ⟨Nat.le_refl _, Nat.le_refl _⟩⟩, h.nd⟩
theorem errFun_zero {f : FunD} (h : errFun T f = 0) : (findF T f.name).isSome = false ∧ f.args.length ≤ 64 := by
  unfold errFun at h
  by_cases h1 : mayFunB T f.name = true
  · by_cases h2 : 64 < f.args.length
    · rw [h1] at h; simp [h2] at h
    · unfold mayFunB at h1
      simp at h1
      exact ⟨by simpa using h1.2, by omega⟩
  · rw [Bool.not_eq_true] at h1
    rw [h1] at h; simp at h
theorem OkT.fn (h : OkT k T) (f : FunD) : OkT (k + 1) (addFun T f) := by
  unfold addFun
  split
  · rename_i h0
    obtain ⟨hn, hl⟩ := errFun_zero h0
    refine ⟨by have := h.s; show T.sorts.length ≤ _; omega, by have := h.f; show (T.funs ++ [f]).length ≤ _; rw [List.length_append, List.length_singleton]; omega, by have := h.m; show T.marks.length ≤ _; omega, fun g hg => ?_, ⟨h.wf.mono, fun m hm => by have := h.wf.top m hm; refine ⟨this.1, ?_⟩; show m.2 ≤ (T.funs ++ [f]).length; rw [List.length_append]; omega⟩, ?_⟩
    · rcases List.mem_append.1 hg with hg | hg
      · exact h.a g hg
      · obtain rfl := List.mem_singleton.1 hg; omega
    · show ((T.funs ++ [f]).map fun f => f.name.toList).Nodup
      rw [List.map_append, List.nodup_append]
      refine ⟨h.nd, by simp, fun x hx y hy e => ?_⟩
      obtain ⟨g, hg, rfl⟩ := List.mem_map.1 hx
      simp at hy
      subst hy
      unfold findF at hn
      rw [Option.isSome_eq_false_iff, Option.isNone_iff_eq_none, List.find?_eq_none] at hn
      refine hn g hg ?_
      show eqS g.name f.name = true
      unfold eqS
      rw [e]; simp
  · exact h.more
theorem OkT.pop (h : OkT k T) (n : Int) : OkT (k + 1) (popT T n) := by
  unfold popT
  split
  · rename_i hn
    have hlen : T.marks.length - n.toNat < T.marks.length := by omega
    generalize T.marks.length - n.toNat = j at *
    have hj : T.marks[j]? = some (T.marks[j]) := List.getElem?_eq_getElem hlen
    have hm : markAt T j = T.marks[j] := by unfold markAt; rw [List.getD_eq_getElem?_getD, hj]; rfl
    have htop := h.wf.top (T.marks[j]) (List.getElem_mem hlen)
    have hat := List.pairwise_iff_getElem.1 h.wf.mono
    rw [hm]
    refine ⟨?_, ?_, ?_, fun f hf => h.a f (List.mem_of_mem_take hf), ⟨h.wf.mono.sublist (List.take_sublist _ _), fun m hmm => ?_⟩, ?_⟩
    · show (T.sorts.take _).length ≤ _; rw [List.length_take]; have := h.s; omega
    · show (T.funs.take _).length ≤ _; rw [List.length_take]; have := h.f; omega
    · show (T.marks.take _).length ≤ _; rw [List.length_take]; have := h.m; omega
    · obtain ⟨i, hi, rfl⟩ := List.getElem_of_mem hmm
      have hi' : i < j := by have := hi; rw [List.length_take] at this; omega
      have := hat i j (by omega) hlen hi'
      show (T.marks.take j)[i].1 ≤ (T.sorts.take _).length ∧ (T.marks.take j)[i].2 ≤ (T.funs.take _).length
      rw [List.getElem_take]
      refine ⟨?_, ?_⟩
      · rw [List.length_take (l := T.sorts)]; omega
      · rw [List.length_take (l := T.funs)]; omega
    · show ((T.funs.take _).map fun f => f.name.toList).Nodup
      rw [List.map_take]
      exact h.nd.sublist (List.take_sublist _ _)
  · exact h.more
end
theorem funs_one {fs gs hs : List FunD} (hn : (fs.map fun f => f.name.toList).Nodup) (p1 : gs.Perm fs) (b1 : ByName gs) (p2 : hs.Perm fs) (b2 : ByName hs) : gs = hs := by
  refine List.Perm.eq_of_pairwise (le := fun a b : FunD => ltS b.name a.name = false) ?_ b1 b2 (p1.trans p2.symm)
  intro a b ha hb h1 h2
  have e := bytesLess_tot h1 h2
  obtain ⟨i, hi, rfl⟩ := List.getElem_of_mem (p1.mem_iff.1 ha)
  obtain ⟨j, hj, rfl⟩ := List.getElem_of_mem (p2.mem_iff.1 hb)
  have hat := List.pairwise_iff_getElem.1 hn
  rcases Nat.lt_trichotomy i j with hij | rfl | hij
  · exact absurd (by rw [List.getElem_map, List.getElem_map]; exact e.symm) (hat i j (by simpa using hi) (by simpa using hj) hij)
  · rfl
  · exact absurd (by rw [List.getElem_map, List.getElem_map]; exact e) (hat j i (by simpa using hj) (by simpa using hi) hij)

/-! ### both tables, side by side -/
structure Both (w0 : World) (p q k : Nat) (T : TabD) (w : World) : Prop where
  t : TabIs w0.heap.size p T w
  r : RefX (fun _ => False) w0.heap.size q T w
  ap : Apart w p q
  b : Below w0.heap.size w0 w
  e : Env w
  ok : OkT k T
section
variable {w0 w w1 w' : World} {p q k : Nat} {T T' : TabD}
theorem Apart.symm (h : Apart w p q) (hp : ∀ j, ownOf w p j → j < w.heap.size) : Apart w q p := fun j hj => ⟨hp j hj, fun hq => (h j hq).2 hj⟩
theorem Env.step {B : Nat} (h : Env w) (hb : Below B w w') (hB : 0 < B) : Env w' := h.below hb hB
theorem Both.all (h : Both w0 p q k T w) (hb : Below w.heap.size w w') : Both w0 p q k T w' :=
  ⟨h.t.all hb, h.r.all hb, (h.ap.keep (.of_below h.t.plt hb)).2, h.b.trans (hb.mono h.b.size), h.e.all hb, h.ok⟩
theorem Both.more (h : Both w0 p q k T w) : Both w0 p q (k + 1) T w := ⟨h.t, h.r, h.ap, h.b, h.e, h.ok.more⟩
/-- a step of the table, then one of the reference, between them nothing old written -/
theorem Both.step (h : Both w0 p q k T w) (h0 : 0 < w0.heap.size) (s1 : PStep p w w1) : RefX (fun _ => False) w0.heap.size q T w1 ∧ Apart w1 p q ∧ Below w0.heap.size w0 w1 ∧ Env w1 := by
  have hk := h.ap.keep s1
  have hb := h.t.stepBelow s1
  exact ⟨h.r.keep hk.1 (fun j hj => (s1.block j hj.lt fun e => h.t.ownI e hj).1) s1.size, hk.2, h.b.trans hb, h.e.below hb h0⟩
theorem Both.step2 (h0 : 0 < w0.heap.size) (t1 : TabIs w0.heap.size p T' w1) (r1 : RefX (fun _ => False) w0.heap.size q T w1) (ap : Apart w1 p q) (b : Below w0.heap.size w0 w1) (e : Env w1) (ok : OkT k T') (r2 : RefX (fun _ => False) w0.heap.size q T' w') (s2 : PStep q w1 w') : Both w0 p q k T' w' := by
  have ap' := ap.symm fun j hj => (t1.ownB hj).2
  have hk := ap'.keep s2
  have hb := r1.stepBelow s2
  exact ⟨t1.keep hk.1 (fun j hj => (s2.block j hj.lt fun e => r1.ownI e hj).1) s2.size, r2, hk.2.symm fun j hj => (r2.ownB hj).2, b.trans hb, e.below hb h0, ok⟩
end
end Go.Proofs.YtpkajhmgkmkcgaaDoor
