/-
  watch.Watch: Undo. Conditions: ints, bounded lengths.
-/
import Derived.Test.YtdmnpjlgldlodaaWF
namespace Go.Proofs.Ytdmnpjlgldlodaa
open Go.RowKit Go.Sort Go.Lib Go.Maps

section
variable {B p m1 m2 : Nat} {C : List (Int × List Int)} {R S : List Int} {w : World}
theorem WatchP.rows {F : Int → Option Value} {w' : World} (hs : WStep p m1 m2 w w') (hF : ∀ id, match findC C id with
    | none => F id = none
    | some l => ∃ a n c, F id = some (.slice a n c) ∧ AtR p m1 m2 w a n l) : ∀ id, match findC C id with
    | none => F id = none
    | some l => ∃ a n c, F id = some (.slice a n c) ∧ AtR p m1 m2 w' a n l := fun id => by
  have := hF id
  split at this
  · exact this
  · obtain ⟨a, n, c, e1, e2⟩ := this
    exact ⟨a, n, c, e1, e2.wstep hs⟩
theorem own_ne_map {b : Nat} {v : Value} {n : Nat} {xs : List Value} (ho : w.ownsRow B 3 1 v n xs) (hm : ∃ es c, w.heap[b]? = some (.map es c)) : v.ownBlock ≠ some b := by
  intro e
  obtain ⟨es, c, hm⟩ := hm
  rcases ho.2 with ⟨rfl, _⟩ | ⟨g, cap, cur, rfl, _, hg, _⟩
  · simp [Value.ownBlock] at e
  · simp [Value.ownBlock] at e
    subst e
    rw [hm] at hg; cases hg
theorem own_ne_cells {b : Nat} {v : Value} {n : Nat} {xs : List Value} {cs : Array Value} {t : TypeId} {f : Nat × Nat} (ht : t ≠ 3) (ho : w.ownsRow B 3 1 v n xs) (hm : w.heap[b]? = some (.cells cs t f)) : v.ownBlock ≠ some b := by
  intro e
  rcases ho.2 with ⟨rfl, _⟩ | ⟨g, cap, cur, rfl, _, hg, _⟩
  · simp [Value.ownBlock] at e
  · simp [Value.ownBlock] at e
    subst e
    rw [hm] at hg
    cases hg
    exact ht rfl
theorem MapV.isMap {m n : Nat} {F : Int → Option Value} (h : MapV Try.prog 3 m n F w) : ∃ es c, w.heap[m]? = some (.map es c) := by
  obtain ⟨D, ⟨es, c, hb, _⟩, _⟩ := h; exact ⟨es, c, hb⟩
theorem WatchP.turn2 {S' : List Int} {w' : World} (h : WatchP B p m1 m2 C R S w) (ht : w.mapTurned w' m2) (hT : TruthIs m2 S' w') : WatchP B p m1 m2 C R S' w' ∧ WStep p p m2 w w' := by
  have hs0 := WStep.of_map (m1 := p) (m2 := m2) h.plt (.inr rfl) h.ne2 ht
  have hs : WStep p m1 m2 w w' := hs0.weaken
  refine ⟨?_, hs0⟩
  obtain ⟨v, hv, ho⟩ := h.blk
  obtain ⟨F, hm, hF⟩ := h.all
  refine ⟨h.ne1, h.ne2, h.ne3, h.bp, h.b1, h.b2, ⟨v, (ht.grown.block p h.plt (by simpa using h.ne2)).trans hv, ho.kept ht.grown (Or.inr (own_ne_map ho h.tru.map.isMap))⟩, hT, F, hm.kept ht.grown (by simpa using h.ne3), WatchP.rows hs hF⟩
theorem WatchP.setRow {R' : List Int} {W : World} {v v' : Value} (h : WatchP B p m1 m2 C R S w) (hv : w.heap[p]? = some (.cells #[.map (some m1), v, .map (some m2)] 85 (0, 0))) (ho : w.ownsRow B 3 1 v R.length (R.map (Value.int .i64)))
    (hg : w.grownBy W v.ownBlock) (ho' : W.ownsRow B 3 1 v' R'.length (R'.map (Value.int .i64))) (hn : v'.ownBlock = v.ownBlock ∨ ∀ g, v'.ownBlock = some g → w.heap.size ≤ g) :
    WatchP B p m1 m2 C R' S (W.setCell ⟨p, 1, none⟩ v') ∧ WStep p p m2 w (W.setCell ⟨p, 1, none⟩ v') := by
  have hp : v.ownBlock ≠ some p := own_ne_cells (by decide) ho hv
  have hp' := (hg.block p h.plt (Ne.symm hp)).trans hv
  have hq : v'.ownBlock ≠ some p := own_ne_cells (by decide) ho' hp'
  obtain ⟨F, hm, hF⟩ := h.all
  have hbk : (W.setCell ⟨p, 1, none⟩ v').heap[p]? = some (.cells #[.map (some m1), v', .map (some m2)] 85 (0, 0)) := by
    unfold World.setCell
    rw [Array.getElem?_modify, if_pos rfl, hp']
    rfl
  have hr : rowOf w p = v.ownBlock := by unfold rowOf; rw [hv]; rfl
  have hr' : rowOf (W.setCell ⟨p, 1, none⟩ v') p = v'.ownBlock := by unfold rowOf; rw [hbk]; rfl
  have hs : WStep p p m2 w (W.setCell ⟨p, 1, none⟩ v') := by
    refine ⟨hg.os, hg.tape, hg.output, by simpa [World.setCell] using hg.size, fun k hk h1 h2 h3 h4 => ⟨?_, ?_⟩⟩
    · rw [hr] at h4
      exact (Below.heap_setCell _ _ _ _ h1).trans (hg.block k hk (Ne.symm h4))
    · rw [hr']
      rcases hn with e | e
      · rw [e, ← hr]; exact h4
      · intro e2; have := e k e2; omega
  refine ⟨⟨h.ne1, h.ne2, h.ne3, h.bp, h.b1, h.b2, ⟨v', hbk, ?_⟩, ⟨h.tru.nodup, h.tru.wf, ?_⟩, F, ?_, WatchP.rows hs.weaken hF⟩, hs⟩
  · have : W.grownBy (W.setCell ⟨p, 1, none⟩ v') (some p) := ⟨rfl, rfl, rfl, by simp [World.setCell], fun k _ hk => Below.heap_setCell _ _ _ k (fun e => hk (by rw [e]))⟩
    exact ho'.kept this (Or.inr hq)
  · exact (h.tru.map.kept hg (Ne.symm (own_ne_map ho h.tru.map.isMap))).setCell (Ne.symm h.ne2) v'
  · exact (hm.kept hg (Ne.symm (own_ne_map ho hm.isMap))).setCell (Ne.symm h.ne1) v'
end
/-- 'delete(t, x)' of the last literal -/
theorem TruthIs.dropLast {m k : Nat} {S : List Int} {w : World} (h : TruthIs m S w) (hk : S.length = k + 1) (ty : TypeId) :
    ∃ w', (Builtin.delete_ #[80, 3] ty #[.map (some m), .int .i64 (nth S k)]).run Try.prog w = .ok (.tuple #[]) w' ∧ TruthIs m (S.take k) w' ∧ w.mapTurned w' m := by
  have hx : nth S k ∈ S := nth_mem (by omega)
  obtain ⟨w', h1, h2, h3⟩ := h.map.drop (t := 80) Try.underlying3 Try.underlying80 (h.wf _ hx) ty
  refine ⟨w', h1, ⟨h.nodup.sublist (List.take_sublist _ _), fun x hx => h.wf x (List.mem_of_mem_take hx), ?_⟩, h3⟩
  have hsp : S = S.take k ++ [nth S k] := by
    rw [← take_succ_nth (by omega), ← hk, List.take_length]
  have hnd := h.nodup
  rw [hsp, List.nodup_append] at hnd
  have hni : nth S k ∉ S.take k := fun hm => hnd.2.2 _ hm _ (by simp) rfl
  have e1 : upd (fun y => if hasI S y then some (Value.bool true) else none) (nth S k) none = fun y => if hasI (S.take k) y then some (Value.bool true) else none := by
    funext y
    by_cases e : y = nth S k
    · subst e
      rw [upd_same]
      have : hasI (S.take k) (nth S k) = false := by
        cases hh : hasI (S.take k) (nth S k)
        · rfl
        · exact absurd (hasI_iff.1 hh) hni
      rw [this]; rfl
    · rw [upd_other _ _ e]
      have : hasI S y = hasI (S.take k) y := by
        apply Bool.eq_iff_iff.2
        rw [hasI_iff, hasI_iff]
        constructor
        · intro hm
          rw [hsp] at hm
          rcases List.mem_append.1 hm with h | h
          · exact h
          · exact absurd (by simpa using h) e
        · exact List.mem_of_mem_take
      rw [this]
  have hh : hasI S (nth S k) = true := hasI_iff.2 hx
  simp only [hh, if_true, Option.isSome_some] at h2
  rw [e1] at h2
  have : (S.take k).length = S.length - 1 := by rw [List.length_take]; omega
  rw [this]
  exact h2
theorem own_take {B : Nat} {w : World} {a : Option Addr} {n c k : Nat} {xs : List Value} (h : w.ownsRow B 3 1 (.slice a n c) n xs) (hk : k < n) : w.ownsRow B 3 1 (.slice a k c) k (xs.take k) := by
  obtain ⟨hl, h2⟩ := h
  rcases h2 with ⟨_, h0⟩ | ⟨g, cap, cur, hv, hg, hh, h1, h2, h3, h4⟩
  · omega
  · cases hv
    refine ⟨by simp; omega, .inr ⟨g, c, cur, rfl, hg, hh, by omega, h2, h3, ?_⟩⟩
    rw [← h4, List.take_take]
    congr 1
    omega
theorem WatchP.undo1 {B p m1 m2 k : Nat} {C : List (Int × List Int)} {S : List Int} {w w' : World} {a : Option Addr} {c : Nat} (h : WatchIs B p m1 m2 C S w) (hk : S.length = k + 1) (hc : w.cell? ⟨p, 1, none⟩ = some (.slice a (k + 1) c))
    (ht : w.mapTurned w' m2) (hT : TruthIs m2 (S.take k) w') : WatchIs B p m1 m2 C (S.take k) (w'.setCell ⟨p, 1, none⟩ (.slice a k c)) ∧ WStep p m1 m2 w (w'.setCell ⟨p, 1, none⟩ (.slice a k c)) := by
  obtain ⟨h1, s1⟩ := WatchP.turn2 h ht hT
  obtain ⟨v, hv, ho⟩ := h1.blk
  have c1 : w'.cell? ⟨p, 1, none⟩ = some v := cell_p hv 1
  have c2 : w'.cell? ⟨p, 1, none⟩ = some (.slice a (k + 1) c) := (cell_grown ht h.ne2 h.plt).trans hc
  rw [c1] at c2
  cases c2
  rw [hk] at ho
  have ho' := own_take ho (Nat.lt_succ_self k)
  rw [← List.map_take] at ho'
  have hl : (S.take k).length = k := by rw [List.length_take]; omega
  have ho2 : w'.ownsRow B 3 1 (.slice a k c) (S.take k).length ((S.take k).map (Value.int .i64)) := by rw [hl]; exact ho'
  obtain ⟨h2, s2⟩ := h1.setRow (R' := S.take k) (W := w') hv (by rw [hk]; exact ho) (⟨rfl, rfl, rfl, Nat.le_refl _, fun _ _ _ => rfl⟩) ho2 (Or.inl (by cases a <;> rfl))
  exact ⟨h2, (s1.trans s2).weaken⟩
end Go.Proofs.Ytdmnpjlgldlodaa
