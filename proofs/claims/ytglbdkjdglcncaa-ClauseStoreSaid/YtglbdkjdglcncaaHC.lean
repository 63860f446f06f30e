/-
  theodoliteref19.Store: what it holds in memory ('RStIs'); Find. Condition: a store in memory of fewer than 2^40 clauses.
-/
import Derived.Test.YtglbdkjdglcncaaHB
import Derived.Test.YtglbdkjdglcncaaT
namespace Go.Proofs.Ytglbdkjdglcncaa
open Go.RowKit Go.Sort Go.Lib

def repIt : Rep Item := Rep.map (fun it => (it.id, it.l, it.learned)) (.prod .int (.prod (.slice .int) .bool))
theorem repIt_k : repIt.k = 3 := rfl
theorem repIt_rd {S : Nat → Prop} {w : World} {it : Item} {cs : List Value} : repIt.rd S w it cs ↔ ∃ a n c, cs = [.int .i64 it.id, .slice a n c, .bool it.learned] ∧ n ≤ c ∧ c ≤ maxLen ∧ SlR Rep.int S w a n it.l ∧ okI it.id := by
  constructor
  · rintro ⟨c, d, rfl, ⟨h1, h2⟩, c', d', rfl, ⟨a, n, cc, h3, h4, h5, h6⟩, h7⟩
    have h1' : c = [.int .i64 it.id] := h1
    have h7' : d' = [.bool it.learned] := h7
    subst h1' h3 h7'
    exact ⟨a, n, cc, rfl, h4, h5, h6, h2⟩
  · rintro ⟨a, n, c, rfl, h3, h4, h5, h6⟩
    exact ⟨[.int .i64 it.id], _, rfl, ⟨rfl, h6⟩, [.slice a n c], _, rfl, ⟨a, n, c, rfl, h3, h4, h5⟩, rfl⟩
theorem cell_p {w : World} {p : Nat} {cs : Array Value} {t : TypeId} {f : Nat × Nat} (hb : w.heap[p]? = some (.cells cs t f)) (j : Nat) : w.cell? ⟨p, j, none⟩ = cs[j]? := by simp [World.cell?, hb]
theorem frz_p {w : World} {p : Nat} {cs : Array Value} {t : TypeId} (hb : w.heap[p]? = some (.cells cs t (0, 0))) (j : Nat) : w.frozen? ⟨p, j, none⟩ = false := by simp [World.frozen?, hb]
/-- the reference's store: its struct lies in block q, all that belongs to it behind q -/
structure RStIs (q : Nat) (S : St) (w : World) : Prop where
  blk : ∃ v, w.heap[q]? = some (.cells #[.int .i64 S.most, v, .int .i64 S.next] 29 (0, 0)) ∧ OwnR repIt (fun b => q < b) w (q + 1) 44 v S.items
section
variable {q : Nat} {S : St} {w w' W : World}
theorem RStIs.lt (h : RStIs q S w) : q < w.heap.size := by obtain ⟨v, hb, _⟩ := h.blk; exact (Array.getElem?_eq_some_iff.1 hb).1
theorem RStIs.keep (h : RStIs q S w) (hk : ∀ k, q ≤ k → k < w.heap.size → w'.heap[k]? = w.heap[k]?) (hs : w.heap.size ≤ w'.heap.size) : RStIs q S w' := by
  obtain ⟨v, hb, ho⟩ := h.blk
  exact ⟨v, (hk q (Nat.le_refl _) h.lt).trans hb, ho.keep (fun b hlt hb => hk b (Nat.le_of_lt hb) hlt) (fun k e => by have := ho.lt k e; exact hk k (by omega) this.2) hs⟩
theorem RStIs.all (h : RStIs q S w) (hb : Below w.heap.size w w') : RStIs q S w' := h.keep (fun k _ hk => hb.block k hk) hb.size
theorem RStIs.touch {T : Nat → Prop} (h : RStIs q S w) (ht : Touch T w w') (hT : ∀ k, T k → k < q) : RStIs q S w' := h.keep (fun k hk hlt => ht.block k hlt fun e => by have := hT k e; omega) ht.size
theorem RStIs.look (h : RStIs q S w) : ∃ a c, w.heap[q]? = some (.cells #[.int .i64 S.most, .slice a S.items.length c, .int .i64 S.next] 29 (0, 0)) ∧ S.items.length ≤ c ∧ c ≤ maxLen ∧ OwnR repIt (fun b => q < b) w (q + 1) 44 (.slice a S.items.length c) S.items := by
  obtain ⟨v, hb, ho⟩ := h.blk
  obtain ⟨a, c, rfl, h1, h2⟩ := ho.slice
  exact ⟨a, c, hb, h1, h2, ho⟩
theorem SlR.itAt {S : Nat → Prop} {w : World} {a : Option Addr} {n : Nat} {its : List Item} (h : SlR repIt S w a n its) {k : Nat} {it : Item} (hk : its[k]? = some it) :
    ∃ b o a' c', a = some ⟨b, o, none⟩ ∧ w.cell? ⟨b, o + k * 3, none⟩ = some (.int .i64 it.id) ∧ w.cell? ⟨b, o + k * 3 + 1, none⟩ = some (.slice a' it.l.length c') ∧ w.cell? ⟨b, o + k * 3 + 2, none⟩ = some (.bool it.learned) ∧ SlR Rep.int S w a' it.l.length it.l ∧ okI it.id ∧ it.l.length ≤ c' ∧ c' ≤ maxLen := by
  obtain ⟨b, o, cs, ha, _, hr, hc⟩ := h.at hk
  obtain ⟨a', n', c', rfl, h1, h2, h3, h4⟩ := repIt_rd.1 hr
  obtain rfl : n' = it.l.length := h3.1.symm
  rw [repIt_k] at hc
  exact ⟨b, o, a', c', ha, hc 0 _ rfl, hc 1 _ rfl, hc 2 _ rfl, h3, h4, h1, h2⟩
end
def idxP {α : Type} (p : α → Bool) : List α → Nat → Int
  | [], _ => -1
  | x :: xs, i => if p x then i else idxP p xs (i + 1)
theorem idxP_skip {α : Type} {p : α → Bool} : ∀ {xs : List α} {k i : Nat}, (∀ j x, j < k → xs[j]? = some x → p x = false) → k ≤ xs.length → idxP p xs i = idxP p (xs.drop k) (i + k)
  | xs, 0, i, _, _ => by simp
  | [], k + 1, i, _, hk => by simp at hk
  | x :: xs, k + 1, i, h, hk => by
    have h0 := h 0 x (by omega) rfl
    rw [List.drop_succ_cons, ← Nat.add_assoc, Nat.add_right_comm, ← idxP_skip (xs := xs) (k := k) (i := i + 1) (fun j y hj hy => h (j + 1) y (by omega) (by simpa using hy)) (by simpa using hk)]
    show (if p x = true then (i : Int) else idxP p xs (i + 1)) = _
    rw [h0]; rfl
theorem idxP_hit {α : Type} {p : α → Bool} {xs : List α} {k : Nat} {x : α} (h : ∀ j x, j < k → xs[j]? = some x → p x = false) (hk : xs[k]? = some x) (hx : p x = true) : idxP p xs 0 = k := by
  have hl := (List.getElem?_eq_some_iff.1 hk).1
  rw [idxP_skip h (by omega), Nat.zero_add, List.drop_eq_getElem_cons hl]
  have : xs[k] = x := (List.getElem?_eq_some_iff.1 hk).2
  unfold idxP
  rw [this, if_pos hx]
theorem idxP_miss {α : Type} {p : α → Bool} {xs : List α} (h : ∀ j x, j < xs.length → xs[j]? = some x → p x = false) : idxP p xs 0 = -1 := by
  rw [idxP_skip h (Nat.le_refl _), List.drop_length]; rfl
theorem idxP_find {α : Type} {p : α → Bool} : ∀ (xs : List α) (i : Nat), match xs.find? p with
    | none => idxP p xs i = -1
    | some x => ∃ k : Nat, idxP p xs i = ((i + k : Nat) : Int) ∧ xs[k]? = some x ∧ ∀ j y, j < k → xs[j]? = some y → p y = false
  | [], i => rfl
  | x :: xs, i => by
    rw [List.find?_cons]
    cases hx : p x with
    | true => exact ⟨0, by unfold idxP; rw [if_pos hx]; rfl, rfl, by intro j y h; omega⟩
    | false =>
      have := idxP_find (p := p) xs (i + 1)
      have e : idxP p (x :: xs) i = idxP p xs (i + 1) := by show (if p x = true then _ else _) = _; rw [hx]; rfl
      cases hf : xs.find? p with
      | none => rw [hf] at this; dsimp only at this ⊢; rw [e]; exact this
      | some y =>
        rw [hf] at this
        obtain ⟨k, h1, h2, h3⟩ := this
        refine ⟨k + 1, by rw [e, h1]; congr 1; omega, by simpa using h2, fun j z hj hz => ?_⟩
        cases j with
        | zero => simp at hz; rw [← hz]; exact hx
        | succ j => exact h3 j z (by omega) (by simpa using hz)
/-- where a number is -/
def posIt (l : List Item) (x : Int) : Int := idxP (fun it => it.id == x) l 0
set_option maxHeartbeats 1000000 in
theorem find19_any (q : Nat) (S : St) (x : Int) (w : World) (h : RStIs q S w) (hn : S.items.length < 1099511627776) :
    Calls Try.prog 11 #[.pointer (some ⟨q, 0, none⟩), .int .i64 x] w fun e w' => e = .returned (.int .i64 (posIt S.items x)) ∧ w = w' := by
  obtain ⟨a, c, hb, hc1, hc2, ho⟩ := h.look
  have k1 : w.cell? ⟨q, 1, none⟩ = some (.slice a S.items.length c) := cell_p hb 1
  have hrd := Lib.hid (ho.read (S' := fun _ => True) (fun _ _ _ => trivial) (fun _ _ => trivial))
  clear h hb ho
  go_enter Try.func11, Try.ntmps11
  go_wp2
  go_loopw [4, 5] (fun _ i wr => ∃ k : Nat, k ≤ S.items.length ∧ i = .int .i64 k ∧ wr = w ∧ Hid (∀ j it, j < k → S.items[j]? = some it → (it.id == x) = false)) (fun _ i _ => S.items.length - (intOf i).toNat)
  case atStart => exact ⟨0, Nat.zero_le _, rfl, rfl, by intro j it hj; omega⟩
  case round =>
    obtain ⟨k, hk, rfl, rfl, hne⟩ := hrel
    by_cases hlt : k < S.items.length
    · have hf := List.getElem?_eq_getElem hlt
      obtain ⟨b, o, a', c', rfl, q0, q1, q2, _⟩ := hrd.out.itAt hf
      have hf' := Lib.hid hf
      clear hf q1 q2
      cases he : (S.items[k].id == x)
      · have hs := @Lib.hid (∀ j it, j < k + 1 → S.items[j]? = some it → (it.id == x) = false) (fun j it hj hit => by
          by_cases hjk : j < k
          · exact hne.out j it hjk hit
          · obtain rfl : j = k := by omega
            rw [hf'.out] at hit
            cases hit
            exact he)
        generalize S.items[k] = it at *
        go_wp2
        go_roundw
        case rel => exact ⟨k + 1, by omega, by go_num, by trivial, hs.out⟩
        case measure => simp [intOf]; omega
      · have hv := Lib.hid (idxP_hit (p := fun it : Item => it.id == x) (fun j it hj hit => hne.out j it hj hit) hf'.out he)
        generalize S.items[k] = it at *
        go_wp2
        go_ret
        exact ⟨ret_int hv.out.symm, rfl⟩
    · have hv := Lib.hid (idxP_miss (p := fun it : Item => it.id == x) (xs := S.items) (fun j it hj hit => hne.out j it (by omega) hit))
      go_wp2
      go_ret
      exact ⟨ret_int hv.out.symm, rfl⟩
end Go.Proofs.Ytglbdkjdglcncaa
