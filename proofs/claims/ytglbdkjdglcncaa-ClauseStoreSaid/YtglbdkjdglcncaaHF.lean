/-
  ClauseStore: what an act is in memory; what both stores hold, side by side ('Inv'), and how it stands behind each act. No condition.
-/
import Derived.Test.YtglbdkjdglcncaaHE
import Derived.Test.YtglbdkjdglcncaaOP
import Derived.Test.YtglbdkjdglcncaaK
namespace Go.Proofs.Ytglbdkjdglcncaa
open Go.RowKit Go.Sort Go.Lib

structure ActD where
  kind : Int
  l : List Int
  learned : Bool
  n : Int
def repAct : Rep ActD := Rep.map (fun a => (a.kind, a.l, a.learned, a.n)) (.prod .int (.prod (.slice .int) (.prod .bool .int)))
theorem repAct_k : repAct.k = 4 := rfl
theorem opens_act : Opens Try.prog 32 repAct :=
  .map _ (fun y => ⟨y.1, y.2.1, y.2.2.1, y.2.2.2⟩) (fun _ => rfl)
    (.struct Try.underlying32 (by kernel_rfl)
      (OpensF.cons rfl (.int Try.underlying3 (by kernel_rfl)) rfl
        (OpensF.cons rfl (.slice (.int Try.underlying3 (by kernel_rfl)) Try.underlying30 (by kernel_rfl) (by decide)) rfl
          (OpensF.cons rfl (.bool Try.underlying4 (by kernel_rfl)) rfl
            (OpensF.one rfl (.int Try.underlying3 (by kernel_rfl)))))))
theorem opens_acts : Opens Try.prog 22 (.slice repAct) := .slice opens_act Try.underlying22 (by kernel_rfl) (by decide)
theorem repAct_rd {S : Nat → Prop} {w : World} {x : ActD} {cs : List Value} : repAct.rd S w x cs → ∃ a n c, cs = [.int .i64 x.kind, .slice a n c, .bool x.learned, .int .i64 x.n] ∧ n ≤ c ∧ c ≤ maxLen ∧ SlR Rep.int S w a n x.l ∧ okI x.kind ∧ okI x.n := by
  rintro ⟨c, d, rfl, ⟨h1, h2⟩, c', d', rfl, ⟨a, n, cc, h3, h4, h5, h6⟩, c'', d'', rfl, h7, h8, h9⟩
  have h1' : c = [.int .i64 x.kind] := h1
  have h7' : c'' = [.bool x.learned] := h7
  have h8' : d'' = [.int .i64 x.n] := h8
  subst h1' h3 h7' h8'
  exact ⟨a, n, cc, rfl, h4, h5, h6, h2, h9⟩
theorem SlR.actAt {S : Nat → Prop} {w : World} {a : Option Addr} {n : Nat} {xs : List ActD} (h : SlR repAct S w a n xs) {k : Nat} {x : ActD} (hk : xs[k]? = some x) :
    ∃ b o a' c', a = some ⟨b, o, none⟩ ∧ w.cell? ⟨b, o + k * 4, none⟩ = some (.int .i64 x.kind) ∧ w.cell? ⟨b, o + k * 4 + 1, none⟩ = some (.slice a' x.l.length c') ∧ w.cell? ⟨b, o + k * 4 + 2, none⟩ = some (.bool x.learned) ∧ w.cell? ⟨b, o + k * 4 + 3, none⟩ = some (.int .i64 x.n) ∧ SlR Rep.int S w a' x.l.length x.l ∧ okI x.kind ∧ okI x.n := by
  obtain ⟨b, o, cs, ha, _, hr, hc⟩ := h.at hk
  obtain ⟨a', n', c', rfl, _, _, h3, h4, h5⟩ := repAct_rd hr
  obtain rfl : n' = x.l.length := h3.1.symm
  rw [repAct_k] at hc
  exact ⟨b, o, a', c', ha, hc 0 _ rfl, hc 1 _ rfl, hc 2 _ rfl, hc 3 _ rfl, h3, h4, h5⟩

theorem StoreIs.touchQ {Lo p m q : Nat} {S : St} {w w' : World} (h : StoreIs Lo p m S w) (ht : Touch (fun k => k = q) w w') (hp : p ≠ q) (hm : m ≠ q) (hq : q < Lo) : StoreIs Lo p m S w' := by
  obtain ⟨F, hmm, hF⟩ := h.map
  have hb : w'.heap[p]? = w.heap[p]? := ht.block p h.plt hp
  have hcell : ∀ j, w'.cell? ⟨p, j, none⟩ = w.cell? ⟨p, j, none⟩ := fun j => World.cell?_of_block (w := w) hb
  refine ⟨Nat.le_trans h.lo ht.size, h.ne, by rw [hcell]; exact h.c0, by rw [hcell]; exact h.c1, by rw [hcell]; exact h.c2, fun j => by rw [World.frozen?_of_block (w := w) (a := ⟨p, j, none⟩) hb]; exact h.f0 j, Nat.lt_of_lt_of_le h.plt ht.size, h.len, F, hmm.same (ht.block m hmm.lt hm), fun x => ?_⟩
  have := hF x
  split at this
  · exact this
  · obtain ⟨a, n, c, h1, h2, h3, h4⟩ := this
    exact ⟨a, n, c, h1, h2.touch ht (fun y hy e => by have := h4.2 y hy; omega), h3, h4⟩
theorem StoreIs.raise {Lo Lo' p m : Nat} {most next : Int} {w : World} (h : StoreIs Lo p m ⟨most, next, []⟩ w) (hl : Lo' ≤ w.heap.size) : StoreIs Lo' p m ⟨most, next, []⟩ w := by
  obtain ⟨F, hm, hF⟩ := h.map
  exact ⟨hl, h.ne, h.c0, h.c1, h.c2, h.f0, h.plt, h.len, F, hm, fun x => hF x⟩
/-- the plain part: numbers rise, all below the next one -/
structure Ord (k : Nat) (S : St) : Prop where
  up : (S.items.map (·.id)).Pairwise (· < ·)
  bd : ∀ it ∈ S.items, 0 ≤ it.id ∧ it.id < S.next
  nx : 0 ≤ S.next ∧ S.next ≤ k
  len : S.items.length ≤ k
theorem Ord.nd {k : Nat} {S : St} (h : Ord k S) : S.items.Pairwise fun a b => a.id ≠ b.id := by
  have := List.pairwise_map.1 h.up
  exact this.imp fun h => by omega
theorem Ord.fresh {k : Nat} {S : St} (h : Ord k S) : findIt S.items S.next = none := by
  unfold findIt
  rw [List.find?_eq_none]
  intro it hit
  have := (h.bd it hit).2
  simp; omega
theorem Ord.wf {k : Nat} {S : St} (h : Ord k S) (hk : k < 1099511627776) : WfI (S.items.map (·.id)) := fun x hx => by
  obtain ⟨it, hit, rfl⟩ := List.mem_map.1 hx
  have := h.bd it hit
  have := h.nx
  omega
theorem Ord.more {k : Nat} {S : St} (h : Ord k S) : Ord (k + 1) S := ⟨h.up, h.bd, ⟨h.nx.1, by have := h.nx.2; omega⟩, by have := h.len; omega⟩
theorem Ord.add {k : Nat} {S : St} (h : Ord k S) (xs : List Int) (b : Bool) : Ord (k + 1) (sAdd S xs b) := by
  unfold sAdd
  split
  · refine ⟨?_, fun it hit => ?_, ⟨by have := h.nx.1; show 0 ≤ S.next + 1; omega, by have := h.nx.2; show S.next + 1 ≤ ((k + 1 : Nat) : Int); omega⟩, by simp; exact h.len⟩
    · show ((S.items ++ [(⟨S.next, nrm xs, b⟩ : Item)]).map (·.id)).Pairwise (· < ·)
      rw [List.map_append, List.pairwise_append]
      refine ⟨h.up, by simp, fun x hx y hy => ?_⟩
      obtain ⟨it, hit, rfl⟩ := List.mem_map.1 hx
      simp at hy
      subst hy
      exact (h.bd it hit).2
    · show 0 ≤ it.id ∧ it.id < S.next + 1
      rcases List.mem_append.1 hit with hit | hit
      · have := h.bd it hit; omega
      · simp at hit; subst hit; have := h.nx.1; show 0 ≤ S.next ∧ S.next < S.next + 1; omega
  · exact h.more
theorem Ord.forget {k : Nat} {S : St} (h : Ord k S) (x : Int) : Ord (k + 1) (sForget S x) := by
  unfold sForget
  split
  · refine ⟨?_, fun it hit => h.bd it (List.mem_filter.1 hit).1, ⟨h.nx.1, by have := h.nx.2; show S.next ≤ ((k + 1 : Nat) : Int); omega⟩, ?_⟩
    · exact List.Pairwise.sublist (List.Sublist.map _ List.filter_sublist) h.up
    · have := List.length_filter_le (fun it : Item => it.id != x) S.items
      have := h.len
      show (S.items.filter fun it => it.id != x).length ≤ k + 1
      omega
  · exact h.more
/-- both stores hold S -/
structure Inv (w0 : World) (p m q k : Nat) (S : St) (w : World) : Prop where
  st : StoreIs (q + 1) p m S w
  rs : RStIs q S w
  b : Below w0.heap.size w0 w
  ord : Ord k S
  pq : p < q ∧ m < q
  p0 : w0.heap.size ≤ p ∧ w0.heap.size ≤ m
section
variable {w0 w w' w'' : World} {p m q k : Nat} {S : St}
theorem Inv.below (h : Inv w0 p m q k S w) (hb : Below w.heap.size w w') : Inv w0 p m q k S w' :=
  ⟨h.st.touch (.of_below hb), h.rs.all hb, h.b.trans (hb.mono h.b.size), h.ord, h.pq, h.p0⟩
theorem Inv.lit (h : Inv w0 p m q k S w) (o : Obj) : Inv w0 p m q k S (w.alloc o) := h.below ((Below.refl _ _).alloc (Nat.le_refl _) _)
theorem Inv.drewN (h : Inv w0 p m q k S w) (z : Nat) : Inv w0 p m q k S (w.drewN z) := h.below ((Below.refl _ _).drewN z)
theorem Inv.more (h : Inv w0 p m q k S w) : Inv w0 p m q (k + 1) S w := ⟨h.st, h.rs, h.b, h.ord.more, h.pq, h.p0⟩
theorem Inv.mid (h : Inv w0 p m q k S w) {S' : St} (h1 : StoreIs (q + 1) p m S' w') (t1 : Touch (Own2 p m) w w') : RStIs q S w' ∧ Below w0.heap.size w0 w' := by
  refine ⟨h.rs.touch t1 fun k hk => ?_, h.b.trans (t1.below h.b.size fun k hk => ?_)⟩
  · rcases hk with rfl | rfl
    · exact h.pq.1
    · exact h.pq.2
  · rcases hk with rfl | rfl
    · exact h.p0.1
    · exact h.p0.2
theorem Inv.both (h : Inv w0 p m q k S w) {S' : St} (ho : Ord (k + 1) S') (h1 : StoreIs (q + 1) p m S' w') (t1 : Touch (Own2 p m) w w') (h2 : RStIs q S' w'') (t2 : Touch (fun k => k = q) w' w'') : Inv w0 p m q (k + 1) S' w'' := by
  obtain ⟨_, hb⟩ := h.mid h1 t1
  have hq := h.pq
  have hp := h.p0
  exact ⟨h1.touchQ t2 (by omega) (by omega) (by omega), h2, hb.trans (t2.below hb.size fun k hk => by subst hk; omega), ho, h.pq, h.p0⟩
/-- a block behind q that is neither store's own keeps its cells through both -/
theorem cell_touch {P : Nat → Prop} (t : Touch P w w') {y : Addr} {u : Value} (hc : w.cell? y = some u) (hn : ¬ P y.block) : w'.cell? y = some u := by
  rw [World.cell?_of_block (w := w) (t.block y.block (World.block_lt_of_cell? w _ hc) hn)]; exact hc
end
end Go.Proofs.Ytglbdkjdglcncaa
