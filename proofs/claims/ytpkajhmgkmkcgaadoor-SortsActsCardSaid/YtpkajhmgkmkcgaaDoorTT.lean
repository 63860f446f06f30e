/-
  A region that draws its order, whose last operations (from number n on, in a forced order) wait for all others: before them a condition S on the world is held, behind them nothing is asked of it. So an operation that yields its value in every world that meets S may be taken first although the region's last operation stores into what it read. No program. No condition.
-/
import Derived.Deep.RegionHeld
import Derived.StillTail
namespace Go
section
variable {P : Program} {ops : Array Oper} {Q : Exit → Act → World → Prop} {md : Region.Mode} {S : World → Prop}

/-- whatever order is picked of the f operations ahead of number n that are left, S holding behind each; then the g last ones in their order -/
def wpAnyT (P : Program) (md : Region.Mode) (ops : Array Oper) (Q : Exit → Act → World → Prop) (S : World → Prop) (n g : Nat) : Nat → Array Bool → Act → World → Prop
  | 0, listed, a, w => Region.seqB md ops g n listed = true ∧ wpList P ops Q (ops.toList.drop n) a w
  | f + 1, listed, a, w => Region.ready md ops listed ≠ [] ∧ ∀ i ∈ Region.ready md ops listed, i < n ∧ wpOp P ops Q i (fun a' w' => S w' ∧ wpAnyT P md ops Q S n g f (listed.setIfInBounds i true) a' w') a w

theorem wpAny_of_T {n g : Nat} (hg : (ops.toList.drop n).length = g) : ∀ (f : Nat) (listed : Array Bool) (a : Act) (w : World), wpAnyT P md ops Q S n g f listed a w → wpAny P md ops Q (f + g) listed a w
  | 0, listed, a, w, h => by
    rw [Nat.zero_add]
    have := wpAny_of_seq (P := P) (md := md) (Q' := Q) (ops.toList.drop n) n listed a w (fun j => by simp [List.getElem?_drop]) (by rw [hg]; exact h.1) h.2
    rwa [hg] at this
  | f + 1, listed, a, w, h => by
    rw [show f + 1 + g = (f + g) + 1 by omega]
    exact ⟨fun h0 => absurd h0 h.1, fun i hi => wpOp_mono (fun a' w' h' => wpAny_of_T hg f _ a' w' h'.2) (h.2 i hi).2⟩

theorem wpAnyT_first {n g i : Nat} {oi : Oper} {v : Value} (hi : ops[i]? = some oi) (hsel : ∀ (j : Nat) (o : Oper) cs b, ops[j]? = some o → o.op ≠ .select cs b)
    (hQ : ∀ c a w, Q (.panic c) (a.put oi.dst v) w → Q (.panic c) a w) (hs : Region.sinkB md ops n = true) (hc : Region.chainB md ops n = true) (hn : n < ops.size) (hin : i < n) :
    ∀ (f : Nat) (listed : Array Bool) (a : Act) (w : World), HeadInv md ops n listed →
      (∀ j oj, ops[j]? = some oj → j ≠ i → listed.getD j true = false → (∀ e ∈ oj.after, Region.binds md e = true → e.on ≠ i) → oi.apart ops oj = true) →
      i ∈ Region.ready md ops listed → YieldsIf P ops S oi v a → S w →
      wpAnyT P md ops Q S n g f (listed.setIfInBounds i true) (a.put oi.dst v) w → wpAnyT P md ops Q S n g (f + 1) listed a w := by
  intro f
  induction f with
  | zero =>
    intro listed a w inv _ hr hy hS H
    have hun := (mem_ready.1 hr).1
    refine ⟨fun h => (by rw [h] at hr; cases hr), fun j hj => ?_⟩
    have hjn : j < n := by
      rcases Nat.lt_or_ge j n with h | h
      · exact h
      · exact absurd hj (tail_waits hs hc hn inv _ i rfl hin hun j h)
    refine ⟨hjn, ?_⟩
    by_cases hji : j = i
    · subst hji; exact hy.wpOp hi hS ⟨hS, H⟩
    · have := seqB_ready H.1 j (ready_mono hj hji)
      omega
  | succ f ih =>
    intro listed a w inv hfree hr hy hS H
    have hun := (mem_ready.1 hr).1
    refine ⟨fun h => (by rw [h] at hr; cases hr), fun j hj => ?_⟩
    have hjn : j < n := by
      rcases Nat.lt_or_ge j n with h | h
      · exact h
      · exact absurd hj (tail_waits hs hc hn inv _ i rfl hin hun j h)
    refine ⟨hjn, ?_⟩
    by_cases hji : j = i
    · subst hji; exact hy.wpOp hi hS ⟨hS, H⟩
    · have h1 := (H.2 j (ready_mono hj hji)).2
      obtain ⟨hjun, oj, hoj, hall⟩ := mem_ready.1 hj
      have hnot : ∀ e ∈ oj.after, Region.binds md e = true → e.on ≠ i := fun e he hb heq => by
        have h1 := hall e he hb
        rw [heq, getD_both hun] at h1
        cases h1
      have h2 := wpOp_putIf hoj (hfree j oj hoj hji hjun hnot) (fun cs b => hsel i oi cs b hi) (fun cs b => hsel j oj cs b hoj) hQ hy h1
      have hfree' : ∀ k ok, ops[k]? = some ok → k ≠ i → (listed.setIfInBounds j true).getD k true = false →
          (∀ e ∈ ok.after, Region.binds md e = true → e.on ≠ i) → oi.apart ops ok = true := fun k ok hk hki hun hno => by
        refine hfree k ok hk hki ?_ hno
        by_cases hjk : j = k
        · subst hjk; exact hjun
        · rw [getD_set_ne true hjk] at hun; exact hun
      refine wpOp_mono (fun a' w' h3 => ⟨h3.2.1, ih (listed.setIfInBounds j true) a' w' (inv.set hj hjn) hfree' (ready_mono hr (Ne.symm hji)) h3.1 h3.2.1 ?_⟩) h2
      rw [Array.setIfInBounds_comm _ _ hji]
      exact h3.2.2

/-- what is known of the region -/
def TailOk (md : Region.Mode) (ops : Array Oper) (n : Nat) : Bool := Region.noSelect ops && decide (n < ops.size) && Region.sinkB md ops n && Region.chainB md ops n
/-- the walk's goal -/
def TT (P : Program) (md : Region.Mode) (ops : Array Oper) (Q : Exit → Act → World → Prop) (S : World → Prop) (n g f : Nat) (listed : Array Bool) (a : Act) (w : World) : Prop :=
  TailOk md ops n = true → HeadInv md ops n listed → wpAnyT P md ops Q S n g f listed a w
theorem tailOk {n : Nat} (h : TailOk md ops n = true) : Region.noSelect ops = true ∧ n < ops.size ∧ Region.sinkB md ops n = true ∧ Region.chainB md ops n = true := by
  simp only [TailOk, Bool.and_eq_true, decide_eq_true_eq] at h
  exact ⟨h.1.1.1, h.1.1.2, h.1.2, h.2⟩
section
variable {n g f i : Nat} {listed : Array Bool} {a : Act} {w : World}
/-- take number i first -/
theorem tt_take {oi : Oper} {v : Value} (hi : ops.toList[i]? = some oi) (hB : (decide (i < n) && Region.free md ops listed i && (Region.ready md ops listed).contains i) = true)
    (hQ : ∀ c a w, Q (.panic c) (a.put oi.dst v) w → Q (.panic c) a w) (hy : YieldsIf P ops S oi v a) (hS : S w)
    (h : TT P md ops Q S n g f (listed.setIfInBounds i true) (a.put oi.dst v) w) : TT P md ops Q S n g (f + 1) listed a w := fun hT inv => by
  obtain ⟨h1, h2, h3, h4⟩ := tailOk hT
  simp only [Bool.and_eq_true, decide_eq_true_eq] at hB
  have hr : i ∈ Region.ready md ops listed := by simpa using hB.2
  have hi' : ops[i]? = some oi := by simpa using hi
  exact wpAnyT_first hi' (Region.noSelect_spec h1) hQ h3 h4 h2 hB.1.1 f listed a w inv (Region.free_spec hi' hB.1.2) hr hy hS (h hT (inv.set hr hB.1.1))
/-- each of the operations rs comes up next -/
def AllT (P : Program) (md : Region.Mode) (ops : Array Oper) (Q : Exit → Act → World → Prop) (S : World → Prop) (n g f : Nat) (listed : Array Bool) (a : Act) (w : World) (rs : List Nat) : Prop :=
  ∀ i ∈ rs, wpOp P ops Q i (fun a' w' => S w' ∧ TT P md ops Q S n g f (listed.setIfInBounds i true) a' w') a w
theorem allT_nil : AllT P md ops Q S n g f listed a w [] := fun _ h => by cases h
theorem allT_cons {o : Oper} {rs : List Nat} (ho : ops.toList[i]? = some o)
    (h : ∀ K' : Act → World → Prop, Shut (∀ a w, S w → (S w → TT P md ops Q S n g f (listed.setIfInBounds i true) a w) → K' a w) → if Region.wanted o (yielded ops a.tmps) = true then Oper.wp P o a w K' Q else K' (a.put o.dst undef) w)
    (hs : AllT P md ops Q S n g f listed a w rs) : AllT P md ops Q S n g f listed a w (i :: rs) := fun j hj => by
  rcases List.mem_cons.1 hj with rfl | hj
  · exact wpOp_step (by simpa using ho) (fun K' hK => h K' (fun a w hS hW => hK a w ⟨hS, hW hS⟩))
  · exact hs j hj
theorem tt_ready {rs : List Nat} (hr : (decide (Region.ready md ops listed = rs) && rs.all (fun i => decide (i < n)) && !rs.isEmpty) = true) (h : AllT P md ops Q S n g f listed a w rs) : TT P md ops Q S n g (f + 1) listed a w := fun hT inv => by
  simp only [Bool.and_eq_true, decide_eq_true_eq, List.all_eq_true, Bool.not_eq_true'] at hr
  obtain ⟨⟨h1, h2⟩, h3⟩ := hr
  refine ⟨fun h0 => (by rw [← h1, h0] at h3; cases h3), fun j hj => ?_⟩
  have hj' : j ∈ rs := by rw [← h1]; exact hj
  exact ⟨h2 j hj', wpOp_mono (fun a' w' h' => ⟨h'.1, h'.2 hT (inv.set hj (h2 j hj'))⟩) (h j hj')⟩
/-- the last ones -/
theorem tt_tail (hB : Region.seqB md ops g n listed = true) (h : wpList P ops Q (ops.toList.drop n) a w) : TT P md ops Q S n g 0 listed a w := fun _ _ => ⟨hB, h⟩
end
/-- the beginning -/
theorem wp_region_tt {id : Nat} {l : List Oper} {a : Act} {w : World} (n : Nat) (hm : P.follows .mixedOrders = true) (hB : TailOk .any l.toArray n = true) (hS : S w.drew)
    (h : S w.drew → TT P .any l.toArray Q S n (l.length - n) n (Array.replicate l.length false) a w.drew) : (Code.region id l.toArray true).wp P Q a w := by
  obtain ⟨_, hn, _, _⟩ := tailOk hB
  have hn' : n < l.length := by simpa using hn
  have inv0 : HeadInv .any l.toArray n (Array.replicate l.length false) :=
    ⟨by simp, fun j oj _ hl => (by rw [getD_replicate_false] at hl; cases hl), fun t _ ht => getD_in (by simpa using ht) (getD_replicate_false _ _)⟩
  refine wp_region_any hm ?_
  have := wpAny_of_T (P := P) (S := S) (g := l.length - n) (by simp) _ _ _ _ (h hS hB inv0)
  rw [show n + (l.length - n) = l.length by omega] at this
  simpa using this
end
end Go
