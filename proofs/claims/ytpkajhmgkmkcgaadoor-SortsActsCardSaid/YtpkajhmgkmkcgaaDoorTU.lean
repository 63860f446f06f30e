/-
  Words for regions that lay literals and append to them, in whatever order: a literal of no element as a row of one's own ('OwnC.lit0'), the cells of a literal ('CellsF'), what stays behind an alloc and behind an append to a new row ('keep_alloc', 'keep_push'), the parts of a slice as what is appended ('Src'). No program. No condition.
-/
import Derived.Test.YtpkajhmgkmkcgaaDoorG
import Derived.Test.YtpkajhmgkmkcgaaDoorTT
namespace Go.Proofs.YtpkajhmgkmkcgaaDoor
open Go.RowKit Go.Lib

section
variable {w W W' w0 : World} {base base' g size n : Nat} {e : TypeId} {v : Value} {xs us : List Value}
theorem OwnC.lit0 (hg : g = w.heap.size) (hb : base ≤ w.heap.size) : OwnC (w.alloc (.cells #[] e)) base e size (.slice (some ⟨g, 0, none⟩) 0 0) 0 [] := by
  subst hg
  refine ⟨by simp, .inr ⟨w.heap.size, 0, #[], rfl, hb, ?_, Nat.le_refl _, Nat.zero_le _, by simp, by simp⟩⟩
  show (w.heap.push _)[w.heap.size]? = _
  simp
theorem OwnC.lower (h : OwnC w base e size v n xs) (hb : base' ≤ base) : OwnC w base' e size v n xs :=
  ⟨h.1, h.2.imp id fun ⟨g, cap, cur, h1, h2, h3⟩ => ⟨g, cap, cur, h1, Nat.le_trans hb h2, h3⟩⟩
theorem OwnC.drew0 (h : OwnC w base e size v n xs) : OwnC w.drew base e size v n xs := h.same fun _ _ => rfl
theorem OwnC.drewN (h : OwnC w base e size v n xs) (q : Nat) : OwnC (w.drewN q) base e size v n xs := h.same fun _ _ => rfl
/-- the cells of a literal that lies in block s -/
def CellsF (w : World) (s : Nat) (us : List Value) : Prop := ∀ (j : Nat) (u : Value), us[j]? = some u → w.cell? ⟨s, j, none⟩ = some u
theorem CellsF.lit {s : Nat} (hs : s = w.heap.size) : CellsF (w.alloc (.cells us.toArray e)) s us := fun j u hu => by
  subst hs; rw [World.cell?_alloc_new]; simpa using hu
theorem CellsF.lit1 {s : Nat} {u : Value} (hs : s = w.heap.size) : CellsF (w.alloc (.cells #[u] e)) s [u] := CellsF.lit (us := [u]) hs
theorem CellsF.more {s : Nat} (h : CellsF w s us) (o : Obj) : CellsF (w.alloc o) s us := fun j u hu => by
  have := h j u hu
  rw [World.cell?_alloc_lt _ _ _ (World.block_lt_of_cell? w _ this)]; exact this
theorem CellsF.push {s : Nat} {row : Option Nat} (hg : W.grownBy W' row) (h : CellsF W s us) (hr : row ≠ some s) : CellsF W' s us := fun j u hu => by
  have := h j u hu
  rw [World.cell?_of_block (w := W) (a := ⟨s, j, none⟩) (hg.block s (World.block_lt_of_cell? W _ this) (Ne.symm hr))]; exact this
theorem Src.lit {s : Nat} (h : CellsF w s us) (hl : us.length = size) : Src w size (some ⟨s, 0, none⟩) 1 us := Src.one hl h
/-- what is held through such a region: all old blocks -/
theorem keep_drew (w0 : World) : Below w0.heap.size w0 w0.drew := ⟨rfl, rfl, rfl, Nat.le_refl _, fun _ _ => rfl⟩
theorem keep_alloc (h : Below w0.heap.size w0 W) (o : Obj) : Below w0.heap.size w0 (W.alloc o) := h.alloc h.size o
theorem keep_push {row : Option Nat} (h : Below w0.heap.size w0 W) (hg : W.grownBy W' row) (hr : ∀ k, row = some k → w0.heap.size ≤ k) : Below w0.heap.size w0 W' := h.grown hg h.size hr
theorem keep_cell {p : Addr} {u : Value} (h : Below w0.heap.size w0 W) (hc : w0.cell? p = some u) : W.cell? p = some u := by
  rw [h.cell (p := p) (World.block_lt_of_cell? w0 _ hc)]; exact hc
end
theorem Src.keep {w0 W : World} {size m : Nat} {A : Option Addr} {news : List Value} (h : Src w0 size A m news) (hb : Below w0.heap.size w0 W) : Src W size A m news :=
  ⟨h.1, fun hm => by
    obtain ⟨ad, ha, hc⟩ := h.2 hm
    exact ⟨ad, ha, fun j u hu => keep_cell hb (hc j u hu)⟩⟩
/-! ### parts of a slice -/
section
variable {P : Program} {t e : TypeId} {a : Option Addr} {n c k s : Nat}
theorem run_take3 (ht : P.underlying t = some (.slice e)) (hsz : ∀ w, (sizeOf e).run P w = .ok s w) (hk : k ≤ n) (hc : n ≤ c) (W : World) :
    (Instr.slice t (.slice a n c) none (some (.int .i64 k)) (some (.int .i64 k))).run P W = .ok (.slice a k k) W := by
  have e0 : (if k = 0 then a else a.map (·.add (0 * s))) = a := by
    split
    · rfl
    · cases a <;> simp [Addr.add]
  simp only [Nat.zero_mul] at e0
  have hkc : k ≤ c := by omega
  simp [Instr.slice, Instr.sliceBounds, Instr.sliceBound, run_underlying ht, hsz, hkc, asIntOf]
  simpa using e0
theorem run_take2 (ht : P.underlying t = some (.slice e)) (hsz : ∀ w, (sizeOf e).run P w = .ok s w) (hk : k ≤ n) (hc : n ≤ c) (W : World) :
    (Instr.slice t (.slice a n c) none (some (.int .i64 k)) none).run P W = .ok (.slice a k c) W := by
  have e0 : (if c = 0 then a else a.map (·.add (0 * s))) = a := by
    split
    · rfl
    · cases a <;> simp [Addr.add]
  simp only [Nat.zero_mul] at e0
  have hkc : k ≤ c := by omega
  simp [Instr.slice, Instr.sliceBounds, Instr.sliceBound, run_underlying ht, hsz, hkc, asIntOf]
  simpa using e0
/-- the address of v[k:] -/
def fromA (a : Option Addr) (c k s : Nat) : Option Addr := if c = k then a else a.map (·.add (k * s))
theorem run_from2 (ht : P.underlying t = some (.slice e)) (hsz : ∀ w, (sizeOf e).run P w = .ok s w) (hk : k ≤ n) (hc : n ≤ c) (W : World) :
    (Instr.slice t (.slice a n c) (some (.int .i64 k)) none none).run P W = .ok (.slice (fromA a c k s) (n - k) (c - k)) W := by
  have hkc : k ≤ c := by omega
  unfold fromA
  simp [Instr.slice, Instr.sliceBounds, Instr.sliceBound, run_underlying ht, hsz, hk, asIntOf]
end
section
variable {α : Type} {R : Rep α} {S : Nat → Prop} {w : World} {a : Option Addr} {n : Nat} {xs : List α}
/-- the cells of a slice, element for element -/
theorem SlR.css (h : SlR R S w a n xs) : ∃ css : List (List Value), css.length = n ∧ (∀ (j : Nat) (x : α), xs[j]? = some x → ∃ cs, css[j]? = some cs ∧ R.rd S w x cs) ∧ ∀ q, q ≤ n → ∀ m, q + m ≤ n → ∀ c, n ≤ c → Src w R.k (fromA a c q R.k) m ((css.drop q).take m).flatten := by
  obtain ⟨hl, hc⟩ := h
  rcases Nat.eq_zero_or_pos n with h0 | h0
  · subst h0
    have : xs = [] := List.eq_nil_of_length_eq_zero hl
    subst this
    exact ⟨[], rfl, by simp, fun q hq m hm c _ => by
      obtain rfl : m = 0 := by omega
      simpa using Src.nothing (w := w) (size := R.k)⟩
  · obtain ⟨b, o, ha, hlt, hS, hc⟩ := hc h0
    have hall : ∀ i, i < n → ∃ cs : List Value, ∃ x, xs[i]? = some x ∧ R.rd S w x cs ∧ ∀ j u, cs[j]? = some u → w.cell? ⟨b, o + i * R.k + j, none⟩ = some u := fun i hi => by
      obtain ⟨cs, h1, h2⟩ := hc i _ (List.getElem?_eq_getElem (by omega : i < xs.length))
      exact ⟨cs, _, List.getElem?_eq_getElem (by omega), h1, h2⟩
    have hlist : ∀ m, m ≤ n → ∃ css : List (List Value), css.length = m ∧ ∀ j cs, css[j]? = some cs → ∃ x, xs[j]? = some x ∧ R.rd S w x cs ∧ ∀ i u, cs[i]? = some u → w.cell? ⟨b, o + j * R.k + i, none⟩ = some u := by
      intro m
      induction m with
      | zero => exact fun _ => ⟨[], rfl, by simp⟩
      | succ m ih =>
        intro hm
        obtain ⟨css, h1, h2⟩ := ih (by omega)
        obtain ⟨cs, h3⟩ := hall m (by omega)
        refine ⟨css ++ [cs], by simp [h1], fun j ds hj => ?_⟩
        by_cases hjm : j < css.length
        · rw [List.getElem?_append_left hjm] at hj; exact h2 j ds hj
        · have hl2 := (List.getElem?_eq_some_iff.1 hj).1
          rw [List.length_append, List.length_singleton] at hl2
          obtain rfl : j = m := by omega
          rw [← h1, List.getElem?_concat_length] at hj
          cases hj
          exact h3
    obtain ⟨css, h1, h2⟩ := hlist n (Nat.le_refl _)
    have hcl : ∀ cs ∈ css, cs.length = R.k := fun cs hcs => by
      obtain ⟨j, hj, rfl⟩ := List.getElem_of_mem hcs
      obtain ⟨x, _, h3, _⟩ := h2 j _ (List.getElem?_eq_getElem hj)
      exact R.len h3
    refine ⟨css, h1, fun j x hx => ?_, fun q hq m hm c hcap => ?_⟩
    · have hj : j < css.length := by have := (List.getElem?_eq_some_iff.1 hx).1; omega
      obtain ⟨y, h3, h4, _⟩ := h2 j _ (List.getElem?_eq_getElem hj)
      rw [hx] at h3
      cases h3
      exact ⟨_, List.getElem?_eq_getElem hj, h4⟩
    · have hfl : ∀ (l : List (List Value)), (∀ cs ∈ l, cs.length = R.k) → l.flatten.length = l.length * R.k := by
        intro l
        induction l with
        | nil => intro _; simp
        | cons d l ih => intro hl; rw [List.flatten_cons, List.length_append, hl d (by simp), ih (fun cs h => hl cs (by simp [h])), List.length_cons, Nat.succ_mul]; omega
      have hmem : ∀ cs ∈ (css.drop q).take m, cs.length = R.k := fun cs h => hcl cs (List.mem_of_mem_drop (List.mem_of_mem_take h))
      have hlen : ((css.drop q).take m).length = m := by rw [List.length_take, List.length_drop]; omega
      refine ⟨by rw [hfl _ hmem, hlen], fun hm0 => ?_⟩
      have hne : c ≠ q := by omega
      refine ⟨⟨b, o + q * R.k, none⟩, by unfold fromA; rw [if_neg hne, ha]; simp [Addr.add_lit], fun j u hu => ?_⟩
      rw [Addr.add_lit]
      have hkpos : 0 < R.k := by
        rcases Nat.eq_zero_or_pos R.k with hk | hk
        · have := (List.getElem?_eq_some_iff.1 hu).1
          rw [hfl _ hmem, hk] at this; omega
        · exact hk
      have hjm : j < m * R.k := by have := (List.getElem?_eq_some_iff.1 hu).1; rwa [hfl _ hmem, hlen] at this
      have hdm := Nat.div_add_mod j R.k
      have hq2 : j / R.k < m := Nat.div_lt_of_lt_mul (by rw [Nat.mul_comm]; exact hjm)
      have hmod := Nat.mod_lt j hkpos
      have hg : ((css.drop q).take m)[j / R.k]? = css[q + j / R.k]? := by rw [List.getElem?_take_of_lt hq2, List.getElem?_drop]
      have hcs : q + j / R.k < css.length := by omega
      obtain ⟨x, _, hrd, hcell⟩ := h2 (q + j / R.k) _ (List.getElem?_eq_getElem hcs)
      have hl3 := R.len hrd
      have hu2 := flat_at hmem (hg.trans (List.getElem?_eq_getElem hcs)) (List.getElem?_eq_getElem (show j % R.k < _ by rw [hl3]; exact hmod))
      have hj' : j / R.k * R.k + j % R.k = j := by rw [Nat.mul_comm]; exact hdm
      rw [hj'] at hu2
      rw [hu] at hu2
      cases hu2
      have := hcell (j % R.k) _ (List.getElem?_eq_getElem (by rw [hl3]; exact hmod))
      rw [← this]
      congr 2
      rw [Nat.add_mul]
      omega
end
theorem fromA_zero {a : Option Addr} {c s : Nat} : fromA a c 0 s = a := by
  unfold fromA
  split
  · rfl
  · cases a <;> simp [Addr.add]
/-- ints: what is taken, what is left -/
theorem RdI.srcs {w : World} {a : Option Addr} {n c q : Nat} {xs : List Int} (h : RdI w a n xs) (hq : q ≤ n) (hc : n ≤ c) : Src w 1 a q ((xs.take q).map (Value.int .i64)) ∧ Src w 1 (fromA a c q 1) (n - q) ((xs.drop q).map (Value.int .i64)) := by
  have hl := h.len
  refine ⟨⟨by simp; omega, fun h0 => ?_⟩, ⟨by simp; omega, fun h0 => ?_⟩⟩
  · obtain ⟨b, o, rfl, _, hcc⟩ := h.cells (by omega)
    refine ⟨_, rfl, fun j u hu => ?_⟩
    have hj := (List.getElem?_eq_some_iff.1 hu).1
    simp at hj
    rw [Addr.add_lit, hcc j (by omega)]
    rw [List.getElem?_map, List.getElem?_take_of_lt (by omega), List.getElem?_eq_getElem (by omega : j < xs.length)] at hu
    simp at hu
    rw [← hu, nth_eq (by omega)]
  · obtain ⟨b, o, rfl, _, hcc⟩ := h.cells (by omega)
    have hne : c ≠ q := by omega
    refine ⟨⟨b, o + q, none⟩, by unfold fromA; rw [if_neg hne]; simp [Addr.add_lit], fun j u hu => ?_⟩
    have hj := (List.getElem?_eq_some_iff.1 hu).1
    simp at hj
    rw [Addr.add_lit, Nat.add_assoc, hcc (q + j) (by omega)]
    rw [List.getElem?_map, List.getElem?_drop, List.getElem?_eq_getElem (by omega : q + j < xs.length)] at hu
    simp at hu
    rw [← hu, nth_eq (by omega)]
theorem OwnC.rdI {w : World} {base n : Nat} {e : TypeId} {a : Option Addr} {m c : Nat} {xs : List Int} (h : OwnC w base e 1 (.slice a m c) n (xs.map (Value.int .i64))) (hwf : ∀ x ∈ xs, -9223372036854775808 ≤ x ∧ x ≤ 9223372036854775807) : m = n ∧ RdI w a n xs ∧ (∀ y, a = some y → base ≤ y.block) := by
  have hl : xs.length = n := by simpa using h.1
  have hv := h.2
  rcases hv with ⟨hv, rfl⟩ | ⟨g, cap, cur, hv, hg, hh, _⟩
  · cases hv
    exact ⟨rfl, ⟨hl, hwf, by omega⟩, by simp⟩
  · cases hv
    refine ⟨rfl, ⟨hl, hwf, fun _ => ⟨g, 0, rfl, (Array.getElem?_eq_some_iff.1 hh).1, fun j hj => ?_⟩⟩, by rintro y ⟨⟩; exact hg⟩
    have := h.cells (g := g) rfl j (.int .i64 (nth xs j)) (by rw [List.getElem?_map, List.getElem?_eq_getElem (by omega), nth_eq (by omega)]; rfl)
    rw [Nat.zero_add]; exact this
/-! ### elements and their cells, side by side -/
section
variable {α : Type} {R : Rep α} {S : Nat → Prop} {w W : World} {xs ys : List α} {css dss : List (List Value)}
def Pairs (R : Rep α) (S : Nat → Prop) (w : World) (xs : List α) (css : List (List Value)) : Prop := css.length = xs.length ∧ ∀ (j : Nat) (x : α), xs[j]? = some x → ∃ cs, css[j]? = some cs ∧ R.rd S w x cs
theorem Pairs.nil : Pairs R S w [] [] := ⟨rfl, by simp⟩
theorem Pairs.one {x : α} {cs : List Value} (h : R.rd S w x cs) : Pairs R S w [x] [cs] := ⟨rfl, fun j y hy => by
  cases j with
  | zero => simp at hy; subst hy; exact ⟨cs, rfl, h⟩
  | succ j => simp at hy⟩
theorem Pairs.take (h : Pairs R S w xs css) (k : Nat) : Pairs R S w (xs.take k) (css.take k) := ⟨by rw [List.length_take, List.length_take, h.1], fun j x hx => by
  have hj : j < k := by have := (List.getElem?_eq_some_iff.1 hx).1; rw [List.length_take] at this; omega
  rw [List.getElem?_take_of_lt hj] at hx ⊢
  exact h.2 j x hx⟩
theorem Pairs.drop (h : Pairs R S w xs css) (k : Nat) : Pairs R S w (xs.drop k) (css.drop k) := ⟨by rw [List.length_drop, List.length_drop, h.1], fun j x hx => by
  rw [List.getElem?_drop] at hx ⊢
  exact h.2 (k + j) x hx⟩
theorem Pairs.append (h : Pairs R S w xs css) (h' : Pairs R S w ys dss) : Pairs R S w (xs ++ ys) (css ++ dss) := ⟨by rw [List.length_append, List.length_append, h.1, h'.1], fun j x hx => by
  by_cases hj : j < xs.length
  · rw [List.getElem?_append_left hj] at hx
    rw [List.getElem?_append_left (by rw [h.1]; exact hj)]
    exact h.2 j x hx
  · rw [List.getElem?_append_right (by omega)] at hx
    rw [List.getElem?_append_right (by rw [h.1]; omega), h.1]
    exact h'.2 _ x hx⟩
theorem Pairs.at (h : Pairs R S w xs css) {cs : List Value} (hc : cs ∈ css) : ∃ x, R.rd S w x cs := by
  obtain ⟨j, hj, rfl⟩ := List.getElem_of_mem hc
  obtain ⟨ds, h1, h2⟩ := h.2 j _ (List.getElem?_eq_getElem (by rw [← h.1]; exact hj))
  rw [List.getElem?_eq_getElem hj] at h1
  cases h1
  exact ⟨_, h2⟩
theorem Pairs.ones (h : Pairs R S w xs css) : ∀ u ∈ css.flatten, u.oneCell' = true := fun u hu => by
  obtain ⟨cs, hc, hu⟩ := List.mem_flatten.1 hu
  obtain ⟨x, hx⟩ := h.at hc
  exact R.one hx u hu
theorem Pairs.keep (h : Pairs R S w xs css) (hk : ∀ b, b < w.heap.size → S b → W.heap[b]? = w.heap[b]?) (hs : w.heap.size ≤ W.heap.size) : Pairs R S W xs css := ⟨h.1, fun j x hx => by
  obtain ⟨cs, h1, h2⟩ := h.2 j x hx
  exact ⟨cs, h1, R.keep h2 hk hs⟩⟩
theorem Pairs.below (h : Pairs R S w xs css) (hb : Below w.heap.size w W) : Pairs R S W xs css := h.keep (fun b hlt _ => hb.block b hlt) hb.size
theorem Pairs.own {base n : Nat} {e : TypeId} {v : Value} (h : Pairs R S w xs css) (ho : OwnC w base e R.k v n css.flatten) (hn : n = xs.length) : OwnR R S w base e v xs := by
  subst hn; exact ⟨css, ho, h.1, h.2⟩
theorem OwnR.pairs {base : Nat} {e : TypeId} {v : Value} (h : OwnR R S w base e v xs) : ∃ css, OwnC w base e R.k v xs.length css.flatten ∧ Pairs R S w xs css := by
  obtain ⟨css, h1, h2, h3⟩ := h
  exact ⟨css, h1, h2, h3⟩
theorem SlR.pairs {a : Option Addr} {n : Nat} (h : SlR R S w a n xs) : ∃ css, Pairs R S w xs css ∧ (∀ q, q ≤ n → Src w R.k a q (css.take q).flatten) ∧ ∀ q, q ≤ n → ∀ c, n ≤ c → Src w R.k (fromA a c q R.k) (n - q) (css.drop q).flatten := by
  obtain ⟨css, h1, h2, h3⟩ := h.css
  refine ⟨css, ⟨by rw [h1, h.1], h2⟩, fun q hq => ?_, fun q hq c hc => ?_⟩
  · have := h3 0 (Nat.zero_le _) q (by omega) n (Nat.le_refl _)
    rw [fromA_zero, List.drop_zero] at this
    exact this
  · have := h3 q hq (n - q) (by omega) c hc
    rwa [List.take_of_length_le (by rw [List.length_drop, h1]; exact Nat.le_refl _)] at this
end
end Go.Proofs.YtpkajhmgkmkcgaaDoor
