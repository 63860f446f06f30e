/-
  theodoliteref6.Sorts: what the reference's table in memory holds ('RefX'), and how it stands behind a store into one of its fields. No condition.
-/
import Derived.Test.YtpkajhmgkmkcgaaDoorSG
import Derived.Test.YtpkajhmgkmkcgaaDoorTU
namespace Go.Proofs.YtpkajhmgkmkcgaaDoor
open Go.RowKit Go.Sort Go.Lib
variable {X : Nat → Prop} {B p : Nat} {T : TabD} {w w' W : World} {v1 v2 v3 v' : Value}
structure RefX (X : Nat → Prop) (B p : Nat) (T : TabD) (w : World) : Prop where
  bp : B ≤ p
  xlt : ∀ k, X k → k < w.heap.size
  blk : ∃ v1 v2 v3, w.heap[p]? = some (.cells #[v1, v2, v3] 49 (0, 0)) ∧ OwnR Rep.str (fun _ => False) w B 9 v1 T.sorts ∧ OwnR repF (IntX X w) w B 32 v2 T.funs ∧ OwnR repM (fun _ => False) w B 79 v3 T.marks
theorem RefX.plt (h : RefX X B p T w) : p < w.heap.size := by obtain ⟨v1, v2, v3, hb, _⟩ := h.blk; exact (Array.getElem?_eq_some_iff.1 hb).1
theorem RefX.ownB (h : RefX X B p T w) {k : Nat} (hk : ownOf w p k) : B ≤ k ∧ k < w.heap.size := by
  obtain ⟨v1, v2, v3, hb, h1, h2, h3⟩ := h.blk
  rcases (own3 hb).1 hk with rfl | hk | hk | hk
  · exact ⟨h.bp, h.plt⟩
  · exact h1.lt k hk
  · exact h2.lt k hk
  · exact h3.lt k hk
theorem RefX.ownI (h : RefX X B p T w) {k : Nat} (hk : ownOf w p k) : ¬ IntX X w k := fun hi => by
  obtain ⟨v1, v2, v3, hb, h1, h2, h3⟩ := h.blk
  rcases (own3 hb).1 hk with rfl | hk | hk | hk
  · exact ty_ne (by decide) ⟨_, _, hb⟩ hi.2
  · exact ty_ne (by decide) (h1.ty k hk) hi.2
  · exact ty_ne (by decide) (h2.ty k hk) hi.2
  · exact ty_ne (by decide) (h3.ty k hk) hi.2
theorem RefX.keep (h : RefX X B p T w) (hk : ∀ k, ownOf w p k → w'.heap[k]? = w.heap[k]?) (hi : ∀ k, IntX X w k → w'.heap[k]? = w.heap[k]?) (hs : w.heap.size ≤ w'.heap.size) : RefX X B p T w' := by
  obtain ⟨v1, v2, v3, hb, h1, h2, h3⟩ := h.blk
  refine ⟨h.bp, fun k hx => Nat.lt_of_lt_of_le (h.xlt k hx) hs, v1, v2, v3, (hk p (.inl rfl)).trans hb, h1.keep (fun _ _ h => h.elim) (fun k e => hk k ((own3 hb).2 (.inr (.inl e)))) hs, h2.keepI hi (fun k e => hk k ((own3 hb).2 (.inr (.inr (.inl e))))) hs, h3.keep (fun _ _ h => h.elim) (fun k e => hk k ((own3 hb).2 (.inr (.inr (.inr e))))) hs⟩
theorem RefX.all (h : RefX X B p T w) (hb : Below w.heap.size w w') : RefX X B p T w' := h.keep (fun k hk => hb.block k (h.ownB hk).2) (fun k hk => hb.block k hk.lt) hb.size
theorem RefX.drewN (h : RefX X B p T w) (n : Nat) : RefX X B p T (w.drewN n) := h.all ((Below.refl _ _).drewN n)
theorem RefX.stepBelow (h : RefX X B p T w) (hs : PStep p w w') : Below B w w' := hs.below (Nat.le_trans h.bp (Nat.le_of_lt h.plt)) fun _ hk => (h.ownB hk).1
theorem RefX.setSorts (h : RefX X B p T w) (hb : w.heap[p]? = some (.cells #[v1, v2, v3] 49 (0, 0))) (hg : w.grownBy W v1.ownBlock) (hloc : v'.ownBlock = v1.ownBlock ∨ ∀ k, v'.ownBlock = some k → w.heap.size ≤ k) {l : List ByteArray} (ho : OwnR Rep.str (fun _ => False) W B 9 v' l) :
    RefX X B p { T with sorts := l } (W.setCell ⟨p, 0, none⟩ v') ∧ PStep p w (W.setCell ⟨p, 0, none⟩ v') := by
  obtain ⟨u1, u2, u3, hb', h1, h2, h3⟩ := h.blk
  rw [hb] at hb'
  cases hb'
  have hp1 : v1.ownBlock ≠ some p := fun e => ty_ne (by decide) (h1.ty p e) ⟨_, _, hb⟩
  have hp2 : v2.ownBlock ≠ some p := fun e => ty_ne (by decide) (h2.ty p e) ⟨_, _, hb⟩
  have hp3 : v3.ownBlock ≠ some p := fun e => ty_ne (by decide) (h3.ty p e) ⟨_, _, hb⟩
  obtain ⟨s1, s2, s3⟩ := setField (v' := v') hb (i := 0) rfl hg hp1 hloc
  have hpW : W.heap[p]? = w.heap[p]? := hg.block p h.plt (Ne.symm hp1)
  have hp' : v'.ownBlock ≠ some p := fun e => ty_ne (by decide) (ho.ty p e) ⟨_, _, hpW.trans hb⟩
  have hsz : (W.setCell ⟨p, 0, none⟩ v').heap.size = W.heap.size := by simp [World.setCell]
  refine ⟨⟨h.bp, fun k hx => Nat.lt_of_lt_of_le (h.xlt k hx) (Nat.le_trans hg.size (Nat.le_of_eq hsz.symm)), v', v2, v3, s2, ho.keep (fun _ _ h => h.elim) (fun k hk => s3 k fun e => hp' (by rw [← e]; exact hk)) (Nat.le_of_eq hsz.symm), h2.keepI (fun k hk => ?_) (fun k hk => ?_) (by rw [hsz]; exact hg.size), h3.keep (fun _ _ h => h.elim) (fun k hk => ?_) (by rw [hsz]; exact hg.size)⟩, s1⟩
  · rw [s3 k fun e => by subst e; exact ty_ne (by decide) ⟨_, _, hb⟩ hk.2]
    exact hg.block k hk.lt fun e => ty_ne (by decide) (h1.ty k e.symm) hk.2
  · rw [s3 k fun e => hp2 (by rw [← e]; exact hk)]
    exact hg.block k (h2.lt k hk).2 fun e => own_ty_ne h2 h1 (by decide) hk e.symm
  · rw [s3 k fun e => hp3 (by rw [← e]; exact hk)]
    exact hg.block k (h3.lt k hk).2 fun e => own_ty_ne h3 h1 (by decide) hk e.symm
theorem RefX.setFuns (h : RefX X B p T w) (hb : w.heap[p]? = some (.cells #[v1, v2, v3] 49 (0, 0))) (hg : w.grownBy W v2.ownBlock) (hloc : v'.ownBlock = v2.ownBlock ∨ ∀ k, v'.ownBlock = some k → w.heap.size ≤ k) {l : List FunD} (ho : OwnR repF (IntX X W) W B 32 v' l) :
    RefX X B p { T with funs := l } (W.setCell ⟨p, 1, none⟩ v') ∧ PStep p w (W.setCell ⟨p, 1, none⟩ v') := by
  obtain ⟨u1, u2, u3, hb', h1, h2, h3⟩ := h.blk
  rw [hb] at hb'
  cases hb'
  have hp1 : v1.ownBlock ≠ some p := fun e => ty_ne (by decide) (h1.ty p e) ⟨_, _, hb⟩
  have hp2 : v2.ownBlock ≠ some p := fun e => ty_ne (by decide) (h2.ty p e) ⟨_, _, hb⟩
  have hp3 : v3.ownBlock ≠ some p := fun e => ty_ne (by decide) (h3.ty p e) ⟨_, _, hb⟩
  obtain ⟨s1, s2, s3⟩ := setField (v' := v') hb (i := 1) rfl hg hp2 hloc
  have hpW : W.heap[p]? = w.heap[p]? := hg.block p h.plt (Ne.symm hp2)
  have hp' : v'.ownBlock ≠ some p := fun e => ty_ne (by decide) (ho.ty p e) ⟨_, _, hpW.trans hb⟩
  have hsz : (W.setCell ⟨p, 1, none⟩ v').heap.size = W.heap.size := by simp [World.setCell]
  refine ⟨⟨h.bp, fun k hx => Nat.lt_of_lt_of_le (h.xlt k hx) (Nat.le_trans hg.size (Nat.le_of_eq hsz.symm)), v1, v', v3, s2, h1.keep (fun _ _ h => h.elim) (fun k hk => ?_) (by rw [hsz]; exact hg.size), ho.keepI (fun k hk => s3 k fun e => ?_) (fun k hk => s3 k fun e => hp' (by rw [← e]; exact hk)) (Nat.le_of_eq hsz.symm), h3.keep (fun _ _ h => h.elim) (fun k hk => ?_) (by rw [hsz]; exact hg.size)⟩, s1⟩
  · rw [s3 k fun e => hp1 (by rw [← e]; exact hk)]
    exact hg.block k (h1.lt k hk).2 fun e => own_ty_ne h1 h2 (by decide) hk e.symm
  · subst e; exact ty_ne (by decide) ⟨_, _, hpW.trans hb⟩ hk.2
  · rw [s3 k fun e => hp3 (by rw [← e]; exact hk)]
    exact hg.block k (h3.lt k hk).2 fun e => own_ty_ne h3 h2 (by decide) hk e.symm
theorem RefX.setMarks (h : RefX X B p T w) (hb : w.heap[p]? = some (.cells #[v1, v2, v3] 49 (0, 0))) (hg : w.grownBy W v3.ownBlock) (hloc : v'.ownBlock = v3.ownBlock ∨ ∀ k, v'.ownBlock = some k → w.heap.size ≤ k) {l : List (Nat × Nat)} (ho : OwnR repM (fun _ => False) W B 79 v' l) :
    RefX X B p { T with marks := l } (W.setCell ⟨p, 2, none⟩ v') ∧ PStep p w (W.setCell ⟨p, 2, none⟩ v') := by
  obtain ⟨u1, u2, u3, hb', h1, h2, h3⟩ := h.blk
  rw [hb] at hb'
  cases hb'
  have hp1 : v1.ownBlock ≠ some p := fun e => ty_ne (by decide) (h1.ty p e) ⟨_, _, hb⟩
  have hp2 : v2.ownBlock ≠ some p := fun e => ty_ne (by decide) (h2.ty p e) ⟨_, _, hb⟩
  have hp3 : v3.ownBlock ≠ some p := fun e => ty_ne (by decide) (h3.ty p e) ⟨_, _, hb⟩
  obtain ⟨s1, s2, s3⟩ := setField (v' := v') hb (i := 2) rfl hg hp3 hloc
  have hpW : W.heap[p]? = w.heap[p]? := hg.block p h.plt (Ne.symm hp3)
  have hp' : v'.ownBlock ≠ some p := fun e => ty_ne (by decide) (ho.ty p e) ⟨_, _, hpW.trans hb⟩
  have hsz : (W.setCell ⟨p, 2, none⟩ v').heap.size = W.heap.size := by simp [World.setCell]
  refine ⟨⟨h.bp, fun k hx => Nat.lt_of_lt_of_le (h.xlt k hx) (Nat.le_trans hg.size (Nat.le_of_eq hsz.symm)), v1, v2, v', s2, h1.keep (fun _ _ h => h.elim) (fun k hk => ?_) (by rw [hsz]; exact hg.size), h2.keepI (fun k hk => ?_) (fun k hk => ?_) (by rw [hsz]; exact hg.size), ho.keep (fun _ _ h => h.elim) (fun k hk => s3 k fun e => hp' (by rw [← e]; exact hk)) (Nat.le_of_eq hsz.symm)⟩, s1⟩
  · rw [s3 k fun e => hp1 (by rw [← e]; exact hk)]
    exact hg.block k (h1.lt k hk).2 fun e => own_ty_ne h1 h3 (by decide) hk e.symm
  · rw [s3 k fun e => by subst e; exact ty_ne (by decide) ⟨_, _, hb⟩ hk.2]
    exact hg.block k hk.lt fun e => ty_ne (by decide) (h3.ty k e.symm) hk.2
  · rw [s3 k fun e => hp2 (by rw [← e]; exact hk)]
    exact hg.block k (h2.lt k hk).2 fun e => own_ty_ne h2 h3 (by decide) hk e.symm
theorem RefX.look {B p : Nat} {T : TabD} {w : World} (h : RefX X B p T w) : ∃ a1 c1 a2 c2 a3 c3, w.heap[p]? = some (.cells #[.slice a1 T.sorts.length c1, .slice a2 T.funs.length c2, .slice a3 T.marks.length c3] 49 (0, 0)) ∧
    OwnR Rep.str (fun _ => False) w B 9 (.slice a1 T.sorts.length c1) T.sorts ∧ OwnR repF (IntX X w) w B 32 (.slice a2 T.funs.length c2) T.funs ∧ OwnR repM (fun _ => False) w B 79 (.slice a3 T.marks.length c3) T.marks := by
  obtain ⟨v1, v2, v3, hb, h1, h2, h3⟩ := h.blk
  obtain ⟨a1, c1, rfl, _⟩ := h1.slice
  obtain ⟨a2, c2, rfl, _⟩ := h2.slice
  obtain ⟨a3, c3, rfl, _⟩ := h3.slice
  exact ⟨a1, c1, a2, c2, a3, c3, hb, h1, h2, h3⟩

end Go.Proofs.YtpkajhmgkmkcgaaDoor
