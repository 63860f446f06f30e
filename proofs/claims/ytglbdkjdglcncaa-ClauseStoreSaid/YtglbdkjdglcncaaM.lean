/-
  Maps keyed by int, whatever their elements: 'MapV P k b n F w': block b is a map of n entries that holds F x at key x. What lookups, len, store and delete come to, as equations on the operation's run. No program. Conditions: keys are ints.
-/
import Derived.Test.YtglbdkjdglcncaaV
import Derived.Maps.OwnSet
namespace Go.Proofs.Ytglbdkjdglcncaa
open Go.RowKit Go.Maps

/-- An element as it is: a token that is the value itself. -/
def rawElem (v : Value) : Option (DataW Value × List MemPlace) := some (.held v, [])
def keyI (x : Int) : Lit := .int .i64 x
def okI (x : Int) : Prop := -9223372036854775808 ≤ x ∧ x ≤ 9223372036854775807
theorem wf_key {x : Int} (h : okI x) : (Lit.int .i64 x).wf = true := WalkArith.wf_i64 (by unfold okI at h; omega)
theorem keyI_lit (x : Int) : WideAt.IsKeyLit (keyI x) := by simp [keyI, WideAt.IsKeyLit]
theorem keyI_ne {x y : Int} (h : x ≠ y) : keyI x ≠ keyI y := by intro e; cases e; exact h rfl

def MapV (P : Program) (k : TypeId) (b n : Nat) (F : Int → Option Value) (w : World) : Prop :=
  ∃ D : DataW Value, w.ownsMap P k rawElem b n D ∧ Maps.size D = n ∧ ∀ x, Maps.has D (keyI x) = (F x).isSome ∧ ∀ z, D.atKey (keyI x) (.held z) = .held ((F x).getD z)

/-- F with v at key x -/
def upd (F : Int → Option Value) (x : Int) (v : Option Value) : Int → Option Value := fun y => if y = x then v else F y
theorem upd_same (F : Int → Option Value) (x : Int) (v : Option Value) : upd F x v x = v := by simp [upd]
theorem upd_other (F : Int → Option Value) {x y : Int} (v : Option Value) (h : y ≠ x) : upd F x v y = F y := by simp [upd, h]

variable {P : Program} {k t e : TypeId} {b n : Nat} {F : Int → Option Value} {w w' : World}

theorem MapV.lt (h : MapV P k b n F w) : b < w.heap.size := by obtain ⟨D, h, _⟩ := h; exact h.lt
theorem MapV.made (w : World) : MapV P k w.heap.size 0 (fun _ => none) (w.alloc (.map #[] 0)) :=
  ⟨.map [], World.ownsMap_made w P k rawElem, rfl, fun _ => ⟨rfl, fun _ => rfl⟩⟩
theorem MapV.kept {row : Option Nat} (h : MapV P k b n F w) (hg : w.grownBy w' row) (hne : some b ≠ row) : MapV P k b n F w' := by
  obtain ⟨D, h1, h2⟩ := h; exact ⟨D, h1.kept hg hne, h2⟩
theorem MapV.same (h : MapV P k b n F w) (hb : w'.heap[b]? = w.heap[b]?) : MapV P k b n F w' := by
  obtain ⟨D, ⟨es, clock, hb', r⟩, h2⟩ := h; exact ⟨D, ⟨es, clock, hb.trans hb', r⟩, h2⟩
theorem MapV.setCell (h : MapV P k b n F w) {a : Addr} (ha : b ≠ a.block) (u : Value) : MapV P k b n F (w.setCell a u) := by
  obtain ⟨D, h1, h2⟩ := h; exact ⟨D, h1.setCell ha u, h2⟩
theorem MapV.drewN (h : MapV P k b n F w) (q : Nat) : MapV P k b n F (w.drewN q) := h

theorem MapV.look (h : MapV P k b n F w) (hk : P.underlying k = some (.int .i64)) (ht : P.underlying t = some (.map k e)) {z : Value} (hz : (zeroValue e).run P w = .ok z w) {x : Int} (hx : okI x) :
    (Instr.lookup t (.map (some b)) (.int .i64 x) false).run P w = .ok ((F x).getD z) w := by
  obtain ⟨D, h1, h2, h3⟩ := h
  obtain ⟨v, ps, hrun, hv⟩ := h1.lookup (int_keyed hk) ht hz (zd := .held z) (zp := []) rfl (keyOf_int_mk hk (wf_key hx))
  have e1 := (h3 x).2 z
  unfold keyI at e1
  rw [e1] at hv
  simp only [rawElem, Option.some.injEq, Prod.mk.injEq, DataW.held.injEq] at hv
  rw [hrun, hv.1]
theorem MapV.look_ok (h : MapV P k b n F w) (hk : P.underlying k = some (.int .i64)) (ht : P.underlying t = some (.map k e)) {z : Value} (hz : (zeroValue e).run P w = .ok z w) {x : Int} (hx : okI x) :
    (Instr.lookup t (.map (some b)) (.int .i64 x) true).run P w = .ok (.tuple #[(F x).getD z, .bool (F x).isSome]) w := by
  obtain ⟨D, h1, h2, h3⟩ := h
  obtain ⟨v, ps, hrun, hv⟩ := h1.look_ok (int_keyed hk) ht hz (zd := .held z) (zp := []) rfl (keyOf_int_mk hk (wf_key hx))
  have e1 := (h3 x).2 z
  have e2 := (h3 x).1
  unfold keyI at e1 e2
  rw [e1] at hv
  rw [e2] at hrun
  simp only [rawElem, Option.some.injEq, Prod.mk.injEq, DataW.held.injEq] at hv
  rw [hrun, hv.1]
theorem MapV.len (h : MapV P k b n F w) (ht : P.underlying t = some (.map k e)) (ty : TypeId) : (Builtin.len_ #[t] ty #[.map (some b)]).run P w = .ok (.int .i64 n) w := by
  obtain ⟨D, h1, h2, h3⟩ := h
  rw [h1.len ht ty, h2]
theorem MapV.store (h : MapV P k b n F w) (hk : P.underlying k = some (.int .i64)) (ht : P.underlying t = some (.map k e)) (hn : n < maxLen) {x : Int} (hx : okI x) (v : Value) :
    ∃ w', (Instr.mapUpdate t (.map (some b)) (.int .i64 x) v).run P w = .ok () w' ∧ MapV P k b (if (F x).isSome then n else n + 1) (upd F x (some v)) w' ∧ w.mapTurned w' b := by
  obtain ⟨D, h1, h2, h3⟩ := h
  obtain ⟨w', hrun, ho, hg⟩ := h1.store (int_keyed hk) ht hn (keyOf_int_mk hk (wf_key hx)) (d := .held v) (ps := []) (val := v) rfl
  have hs := size_put (h1.tidy (int_keyed hk)) (k := keyI x) (.held v)
  rw [(h3 x).1, h2] at hs
  refine ⟨w', hrun, ⟨D.put (keyI x) (.held v), ?_, hs, fun y => ?_⟩, hg⟩
  · obtain ⟨es, clock, a1, a2, a3, a4⟩ := ho
    refine ⟨es, clock, a1, a2, ?_, a4⟩
    have e1 : Maps.size (D.put (keyI x) (.held v)) = es.size := by
      show Maps.size (D.put (.int .i64 x) (.held v)) = es.size
      rw [a4]; simp [Maps.size, length_sorted]
    rw [← e1, hs]
    exact Nat.le_refl _
  · by_cases hy : y = x
    · subst hy
      rw [upd_same]
      exact ⟨has_put_same h1.isMap (keyI_lit y) _, fun z => by rw [atKey_put_same h1.isMap (keyI_lit y)]; rfl⟩
    · rw [upd_other F _ hy]
      exact ⟨by rw [has_put_other (keyI_ne hy)]; exact (h3 y).1, fun z => by rw [atKey_put_other (keyI_ne hy)]; exact (h3 y).2 z⟩
theorem MapV.drop (h : MapV P k b n F w) (hk : P.underlying k = some (.int .i64)) (ht : P.underlying t = some (.map k e)) {x : Int} (hx : okI x) (ty : TypeId) :
    ∃ w', (Builtin.delete_ #[t, k] ty #[.map (some b), .int .i64 x]).run P w = .ok (.tuple #[]) w' ∧ MapV P k b (if (F x).isSome then n - 1 else n) (upd F x none) w' ∧ w.mapTurned w' b := by
  obtain ⟨D, h1, h2, h3⟩ := h
  obtain ⟨w', hrun, ho, hg⟩ := h1.drop (int_keyed hk) ht (keyOf_int_mk hk (wf_key hx)) ty
  have hs := size_del (h1.tidy (int_keyed hk)) (k := keyI x)
  rw [(h3 x).1, h2] at hs
  have hs' : Maps.size (D.del (keyI x)) = if (F x).isSome then n - 1 else n := by split at hs <;> simp_all <;> omega
  refine ⟨w', hrun, ⟨D.del (keyI x), ?_, hs', fun y => ?_⟩, hg⟩
  · obtain ⟨es, clock, a1, a2, a3, a4⟩ := ho
    refine ⟨es, clock, a1, a2, ?_, a4⟩
    have e1 : Maps.size (D.del (keyI x)) = es.size := by
      show Maps.size (D.del (.int .i64 x)) = es.size
      rw [a4]; simp [Maps.size, length_sorted]
    rw [← e1, hs']
    exact Nat.le_refl _
  · by_cases hy : y = x
    · subst hy
      rw [upd_same]
      exact ⟨has_del_same, fun z => by rw [atKey_del_same]; rfl⟩
    · rw [upd_other F _ hy]
      exact ⟨by rw [has_del_other (keyI_ne hy)]; exact (h3 y).1, fun z => by rw [atKey_del_other (keyI_ne hy)]; exact (h3 y).2 z⟩
end Go.Proofs.Ytglbdkjdglcncaa
