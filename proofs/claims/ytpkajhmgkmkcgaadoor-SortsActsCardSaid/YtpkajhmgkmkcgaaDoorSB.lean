/-
  sorts: what a table in memory holds ('TabIs'), and how it stands behind a store into one of its fields. No condition.
-/
import Derived.Test.YtpkajhmgkmkcgaaDoorSA
namespace Go.Proofs.YtpkajhmgkmkcgaaDoor
open Go.RowKit Go.Sort Go.Lib

structure FunD where
  name : ByteArray
  args : List Int
  res : Int
def repF : Rep FunD := Rep.map (fun f => (f.name, f.args, f.res)) (.prod .str (.prod (.slice .int) .int))
def repM : Rep (Nat × Nat) := Rep.map (fun m => ((m.1 : Int), (m.2 : Int))) (.prod .int .int)
theorem repF_k : repF.k = 3 := rfl
theorem repM_k : repM.k = 2 := rfl
theorem repS_k : Rep.str.k = 1 := rfl
def okI (x : Int) : Prop := -9223372036854775808 ≤ x ∧ x ≤ 9223372036854775807
theorem repF_rd {S : Nat → Prop} {w : World} {f : FunD} {cs : List Value} : repF.rd S w f cs ↔ ∃ a n c, cs = [.string f.name, .slice a n c, .int .i64 f.res] ∧ n ≤ c ∧ c ≤ maxLen ∧ SlR Rep.int S w a n f.args ∧ okI f.res := by
  constructor
  · rintro ⟨c, d, rfl, h1, c', d', rfl, ⟨a, n, cc, h2, h3, h4, h5⟩, h6, h7⟩
    have h1' : c = [.string f.name] := h1
    have h6' : d' = [.int .i64 f.res] := h6
    subst h1' h2 h6'
    exact ⟨a, n, cc, rfl, h3, h4, h5, h7⟩
  · rintro ⟨a, n, c, rfl, h3, h4, h5, h6⟩
    exact ⟨[.string f.name], _, rfl, rfl, [.slice a n c], _, rfl, ⟨a, n, c, rfl, h3, h4, h5⟩, rfl, h6⟩
theorem repM_rd {S : Nat → Prop} {w : World} {m : Nat × Nat} {cs : List Value} : repM.rd S w m cs ↔ cs = [.int .i64 m.1, .int .i64 m.2] ∧ okI m.1 ∧ okI m.2 := by
  constructor
  · rintro ⟨c, d, rfl, ⟨h1, h2⟩, h3, h4⟩
    have h1' : c = [.int .i64 m.1] := h1
    have h3' : d = [.int .i64 m.2] := h3
    subst h1' h3'
    exact ⟨rfl, h2, h4⟩
  · rintro ⟨rfl, h1, h2⟩
    exact ⟨[.int .i64 m.1], [.int .i64 m.2], rfl, ⟨rfl, h1⟩, rfl, h2⟩

/-- a block of ints -/
def IntX (X : Nat → Prop) (w : World) (k : Nat) : Prop := ¬ X k ∧ ∃ cs f, w.heap[k]? = some (.cells cs 3 f)
abbrev IntB := IntX fun _ => False
theorem IntX.lt {X : Nat → Prop} {w : World} {k : Nat} (h : IntX X w k) : k < w.heap.size := by obtain ⟨_, cs, f, h⟩ := h; exact (Array.getElem?_eq_some_iff.1 h).1

structure TabD where
  sorts : List ByteArray
  funs : List FunD
  marks : List (Nat × Nat)
structure TabX (X : Nat → Prop) (B p : Nat) (T : TabD) (w : World) : Prop where
  bp : B ≤ p
  xlt : ∀ k, X k → k < w.heap.size
  blk : ∃ v1 v2 v3, w.heap[p]? = some (.cells #[v1, v2, v3] 67 (0, 0)) ∧ OwnR Rep.str (fun _ => False) w B 9 v1 T.sorts ∧ OwnR repF (IntX X w) w B 32 v2 T.funs ∧ OwnR repM (fun _ => False) w B 77 v3 T.marks
abbrev TabIs := TabX fun _ => False
section
variable {X : Nat → Prop} {B p : Nat} {T : TabD} {w w' W : World}
theorem TabX.plt (h : TabX X B p T w) : p < w.heap.size := by obtain ⟨v1, v2, v3, hb, _⟩ := h.blk; exact (Array.getElem?_eq_some_iff.1 hb).1
theorem own3 {t : TypeId} {f : Nat × Nat} {v1 v2 v3 : Value} (hb : w.heap[p]? = some (.cells #[v1, v2, v3] t f)) {k : Nat} : ownOf w p k ↔ k = p ∨ v1.ownBlock = some k ∨ v2.ownBlock = some k ∨ v3.ownBlock = some k := by
  unfold ownOf
  constructor
  · rintro (h | ⟨cs, t', f', h, v, hv, hk⟩)
    · exact .inl h
    · rw [hb] at h
      cases h
      simp at hv
      rcases hv with rfl | rfl | rfl
      · exact .inr (.inl hk)
      · exact .inr (.inr (.inl hk))
      · exact .inr (.inr (.inr hk))
  · rintro (h | h | h | h)
    · exact .inl h
    · exact .inr ⟨_, _, _, hb, v1, by simp, h⟩
    · exact .inr ⟨_, _, _, hb, v2, by simp, h⟩
    · exact .inr ⟨_, _, _, hb, v3, by simp, h⟩
theorem TabX.ownB (h : TabX X B p T w) {k : Nat} (hk : ownOf w p k) : B ≤ k ∧ k < w.heap.size := by
  obtain ⟨v1, v2, v3, hb, h1, h2, h3⟩ := h.blk
  rcases (own3 hb).1 hk with rfl | hk | hk | hk
  · exact ⟨h.bp, h.plt⟩
  · exact h1.lt k hk
  · exact h2.lt k hk
  · exact h3.lt k hk
theorem ty_ne {k : Nat} {t t' : TypeId} (hne : t ≠ t') (h : ∃ cs f, w.heap[k]? = some (.cells cs t f)) (h' : ∃ cs f, w.heap[k]? = some (.cells cs t' f)) : False := by
  obtain ⟨cs, f, h⟩ := h
  obtain ⟨cs', f', h'⟩ := h'
  rw [h] at h'
  injection h' with h'
  injection h' with _ h'
  exact hne h'
theorem TabX.ownI (h : TabX X B p T w) {k : Nat} (hk : ownOf w p k) : ¬ IntX X w k := fun hi => by
  obtain ⟨v1, v2, v3, hb, h1, h2, h3⟩ := h.blk
  rcases (own3 hb).1 hk with rfl | hk | hk | hk
  · exact ty_ne (by decide) ⟨_, _, hb⟩ hi.2
  · exact ty_ne (by decide) (h1.ty k hk) hi.2
  · exact ty_ne (by decide) (h2.ty k hk) hi.2
  · exact ty_ne (by decide) (h3.ty k hk) hi.2
theorem IntX.same {k : Nat} (h : IntX X w k) (hb : w'.heap[k]? = w.heap[k]?) : IntX X w' k := by obtain ⟨hx, cs, f, h⟩ := h; exact ⟨hx, cs, f, hb.trans h⟩
theorem OwnR.keepI {v : Value} {fs : List FunD} (h : OwnR repF (IntX X w) w B 32 v fs) (hi : ∀ k, IntX X w k → w'.heap[k]? = w.heap[k]?) (hv : ∀ k, v.ownBlock = some k → w'.heap[k]? = w.heap[k]?) (hs : w.heap.size ≤ w'.heap.size) : OwnR repF (IntX X w') w' B 32 v fs :=
  (h.keep (fun b _ hb => hi b hb) hv hs).mono fun b _ hb => hb.same (hi b hb)
theorem TabX.keep (h : TabX X B p T w) (hk : ∀ k, ownOf w p k → w'.heap[k]? = w.heap[k]?) (hi : ∀ k, IntX X w k → w'.heap[k]? = w.heap[k]?) (hs : w.heap.size ≤ w'.heap.size) : TabX X B p T w' := by
  obtain ⟨v1, v2, v3, hb, h1, h2, h3⟩ := h.blk
  refine ⟨h.bp, fun k hx => Nat.lt_of_lt_of_le (h.xlt k hx) hs, v1, v2, v3, (hk p (.inl rfl)).trans hb, h1.keep (fun _ _ h => h.elim) (fun k e => hk k ((own3 hb).2 (.inr (.inl e)))) hs, h2.keepI hi (fun k e => hk k ((own3 hb).2 (.inr (.inr (.inl e))))) hs, h3.keep (fun _ _ h => h.elim) (fun k e => hk k ((own3 hb).2 (.inr (.inr (.inr e))))) hs⟩
theorem TabX.all (h : TabX X B p T w) (hb : Below w.heap.size w w') : TabX X B p T w' := h.keep (fun k hk => hb.block k (h.ownB hk).2) (fun k hk => hb.block k hk.lt) hb.size
theorem TabX.drewN (h : TabX X B p T w) (n : Nat) : TabX X B p T (w.drewN n) := h.all ((Below.refl _ _).drewN n)
theorem TabX.stepBelow (h : TabX X B p T w) (hs : PStep p w w') : Below B w w' := hs.below (Nat.le_trans h.bp (Nat.le_of_lt h.plt)) fun _ hk => (h.ownB hk).1
end

/-! ### a store into a field -/
section
variable {w W : World} {p i : Nat} {cs : Array Value} {t : TypeId} {v v' : Value}
theorem setField (hb : w.heap[p]? = some (.cells cs t (0, 0))) (hi : cs[i]? = some v) (hg : w.grownBy W v.ownBlock) (hp : v.ownBlock ≠ some p) (hloc : v'.ownBlock = v.ownBlock ∨ ∀ k, v'.ownBlock = some k → w.heap.size ≤ k) :
    PStep p w (W.setCell ⟨p, i, none⟩ v') ∧ (W.setCell ⟨p, i, none⟩ v').heap[p]? = some (.cells (cs.setIfInBounds i v') t (0, 0)) ∧ ∀ k, k ≠ p → (W.setCell ⟨p, i, none⟩ v').heap[k]? = W.heap[k]? := by
  have hlt := (Array.getElem?_eq_some_iff.1 hb).1
  have hbW : W.heap[p]? = some (.cells cs t (0, 0)) := (hg.block p hlt (Ne.symm hp)).trans hb
  have h1 : (W.setCell ⟨p, i, none⟩ v').heap[p]? = some (.cells (cs.setIfInBounds i v') t (0, 0)) := by
    unfold World.setCell
    rw [Array.getElem?_modify, if_pos rfl, hbW]
    rfl
  have h2 : ∀ k, k ≠ p → (W.setCell ⟨p, i, none⟩ v').heap[k]? = W.heap[k]? := fun k hk => Below.heap_setCell _ _ _ _ (fun e => hk e)
  have hil : i < cs.size := (Array.getElem?_eq_some_iff.1 hi).1
  refine ⟨⟨hg.os, hg.tape, hg.output, by simpa [World.setCell] using hg.size, fun k hk hn => ?_⟩, h1, h2⟩
  have hkp : k ≠ p := fun e => hn (.inl e)
  have hkv : v.ownBlock ≠ some k := fun e => hn (.inr ⟨_, _, _, hb, v, by rw [Array.mem_iff_getElem?]; exact ⟨i, hi⟩, e⟩)
  refine ⟨(h2 k hkp).trans (hg.block k hk (Ne.symm hkv)), ?_⟩
  rintro (e | ⟨cs', t', f', e, u, hu, hk2⟩)
  · exact hkp e
  · rw [h1] at e
    cases e
    rw [Array.mem_iff_getElem?] at hu
    obtain ⟨j, hj⟩ := hu
    rw [Array.getElem?_setIfInBounds] at hj
    by_cases hij : i = j
    · subst hij
      rw [if_pos rfl, if_pos hil] at hj
      cases hj
      rcases hloc with e | e
      · exact hkv (by rw [← e]; exact hk2)
      · have := e k hk2; omega
    · rw [if_neg hij] at hj
      exact hn (.inr ⟨_, _, _, hb, u, by rw [Array.mem_iff_getElem?]; exact ⟨j, hj⟩, hk2⟩)
end
section
variable {X : Nat → Prop} {B p : Nat} {T : TabD} {w W : World} {v1 v2 v3 v' : Value}
theorem own_ty_ne {α β : Type} {R : Rep α} {Q : Rep β} {S S' : Nat → Prop} {e e' : TypeId} {v v' : Value} {xs : List α} {ys : List β} {B B' : Nat} (h : OwnR R S w B e v xs) (h' : OwnR Q S' w B' e' v' ys) (hne : e ≠ e') {k : Nat} (hk : v.ownBlock = some k) : v'.ownBlock ≠ some k :=
  fun e2 => ty_ne hne (h.ty k hk) (h'.ty k e2)
theorem TabX.setSorts (h : TabX X B p T w) (hb : w.heap[p]? = some (.cells #[v1, v2, v3] 67 (0, 0))) (hg : w.grownBy W v1.ownBlock) (hloc : v'.ownBlock = v1.ownBlock ∨ ∀ k, v'.ownBlock = some k → w.heap.size ≤ k) {l : List ByteArray} (ho : OwnR Rep.str (fun _ => False) W B 9 v' l) :
    TabX X B p { T with sorts := l } (W.setCell ⟨p, 0, none⟩ v') ∧ PStep p w (W.setCell ⟨p, 0, none⟩ v') := by
  obtain ⟨u1, u2, u3, hb', h1, h2, h3⟩ := h.blk
  rw [hb] at hb'
  cases hb'
  have hp1 : v1.ownBlock ≠ some p := fun e => ty_ne (by decide) (h1.ty p e) ⟨_, _, hb⟩
  have hp2 : v2.ownBlock ≠ some p := fun e => ty_ne (by decide) (h2.ty p e) ⟨_, _, hb⟩
  have hp3 : v3.ownBlock ≠ some p := fun e => ty_ne (by decide) (h3.ty p e) ⟨_, _, hb⟩
  obtain ⟨s1, s2, s3⟩ := setField (v' := v') hb (i := 0) rfl hg hp1 hloc
  have hpW : W.heap[p]? = w.heap[p]? := hg.block p h.plt (Ne.symm hp1)
  have hp' : v'.ownBlock ≠ some p := fun e => ty_ne (by decide) (ho.ty p e) ⟨_, _, hpW.trans hb⟩
  have hsz : (W.setCell ⟨p, 0, none⟩ v').heap.size = W.heap.size := by simp [World.setCell]
  refine ⟨⟨h.bp, fun k hx => Nat.lt_of_lt_of_le (h.xlt k hx) (Nat.le_trans hg.size (Nat.le_of_eq hsz.symm)), v', v2, v3, s2, ho.keep (fun _ _ h => h.elim) (fun k hk => s3 k fun e => hp' (by rw [← e]; exact hk)) (Nat.le_of_eq hsz.symm), h2.keepI (fun k hk => ?_) (fun k hk => ?_) (by rw [hsz]; exact hg.size), h3.keep (fun _ _ h => h.elim) (fun k hk => ?_) (by rw [hsz]; exact hg.size)⟩, s1⟩
  · rw [s3 k fun e => by subst e; exact ty_ne (by decide) ⟨_, _, hb⟩ hk.2]
    exact hg.block k hk.lt fun e => ty_ne (by decide) (h1.ty k e.symm) hk.2
  · rw [s3 k fun e => hp2 (by rw [← e]; exact hk)]
    exact hg.block k (h2.lt k hk).2 fun e => own_ty_ne h2 h1 (by decide) hk e.symm
  · rw [s3 k fun e => hp3 (by rw [← e]; exact hk)]
    exact hg.block k (h3.lt k hk).2 fun e => own_ty_ne h3 h1 (by decide) hk e.symm
theorem TabX.setFuns (h : TabX X B p T w) (hb : w.heap[p]? = some (.cells #[v1, v2, v3] 67 (0, 0))) (hg : w.grownBy W v2.ownBlock) (hloc : v'.ownBlock = v2.ownBlock ∨ ∀ k, v'.ownBlock = some k → w.heap.size ≤ k) {l : List FunD} (ho : OwnR repF (IntX X W) W B 32 v' l) :
    TabX X B p { T with funs := l } (W.setCell ⟨p, 1, none⟩ v') ∧ PStep p w (W.setCell ⟨p, 1, none⟩ v') := by
  obtain ⟨u1, u2, u3, hb', h1, h2, h3⟩ := h.blk
  rw [hb] at hb'
  cases hb'
  have hp1 : v1.ownBlock ≠ some p := fun e => ty_ne (by decide) (h1.ty p e) ⟨_, _, hb⟩
  have hp2 : v2.ownBlock ≠ some p := fun e => ty_ne (by decide) (h2.ty p e) ⟨_, _, hb⟩
  have hp3 : v3.ownBlock ≠ some p := fun e => ty_ne (by decide) (h3.ty p e) ⟨_, _, hb⟩
  obtain ⟨s1, s2, s3⟩ := setField (v' := v') hb (i := 1) rfl hg hp2 hloc
  have hpW : W.heap[p]? = w.heap[p]? := hg.block p h.plt (Ne.symm hp2)
  have hp' : v'.ownBlock ≠ some p := fun e => ty_ne (by decide) (ho.ty p e) ⟨_, _, hpW.trans hb⟩
  have hsz : (W.setCell ⟨p, 1, none⟩ v').heap.size = W.heap.size := by simp [World.setCell]
  refine ⟨⟨h.bp, fun k hx => Nat.lt_of_lt_of_le (h.xlt k hx) (Nat.le_trans hg.size (Nat.le_of_eq hsz.symm)), v1, v', v3, s2, h1.keep (fun _ _ h => h.elim) (fun k hk => ?_) (by rw [hsz]; exact hg.size), ho.keepI (fun k hk => s3 k fun e => ?_) (fun k hk => s3 k fun e => hp' (by rw [← e]; exact hk)) (Nat.le_of_eq hsz.symm), h3.keep (fun _ _ h => h.elim) (fun k hk => ?_) (by rw [hsz]; exact hg.size)⟩, s1⟩
  · rw [s3 k fun e => hp1 (by rw [← e]; exact hk)]
    exact hg.block k (h1.lt k hk).2 fun e => own_ty_ne h1 h2 (by decide) hk e.symm
  · subst e; exact ty_ne (by decide) ⟨_, _, hpW.trans hb⟩ hk.2
  · rw [s3 k fun e => hp3 (by rw [← e]; exact hk)]
    exact hg.block k (h3.lt k hk).2 fun e => own_ty_ne h3 h2 (by decide) hk e.symm
theorem TabX.setMarks (h : TabX X B p T w) (hb : w.heap[p]? = some (.cells #[v1, v2, v3] 67 (0, 0))) (hg : w.grownBy W v3.ownBlock) (hloc : v'.ownBlock = v3.ownBlock ∨ ∀ k, v'.ownBlock = some k → w.heap.size ≤ k) {l : List (Nat × Nat)} (ho : OwnR repM (fun _ => False) W B 77 v' l) :
    TabX X B p { T with marks := l } (W.setCell ⟨p, 2, none⟩ v') ∧ PStep p w (W.setCell ⟨p, 2, none⟩ v') := by
  obtain ⟨u1, u2, u3, hb', h1, h2, h3⟩ := h.blk
  rw [hb] at hb'
  cases hb'
  have hp1 : v1.ownBlock ≠ some p := fun e => ty_ne (by decide) (h1.ty p e) ⟨_, _, hb⟩
  have hp2 : v2.ownBlock ≠ some p := fun e => ty_ne (by decide) (h2.ty p e) ⟨_, _, hb⟩
  have hp3 : v3.ownBlock ≠ some p := fun e => ty_ne (by decide) (h3.ty p e) ⟨_, _, hb⟩
  obtain ⟨s1, s2, s3⟩ := setField (v' := v') hb (i := 2) rfl hg hp3 hloc
  have hpW : W.heap[p]? = w.heap[p]? := hg.block p h.plt (Ne.symm hp3)
  have hp' : v'.ownBlock ≠ some p := fun e => ty_ne (by decide) (ho.ty p e) ⟨_, _, hpW.trans hb⟩
  have hsz : (W.setCell ⟨p, 2, none⟩ v').heap.size = W.heap.size := by simp [World.setCell]
  refine ⟨⟨h.bp, fun k hx => Nat.lt_of_lt_of_le (h.xlt k hx) (Nat.le_trans hg.size (Nat.le_of_eq hsz.symm)), v1, v2, v', s2, h1.keep (fun _ _ h => h.elim) (fun k hk => ?_) (by rw [hsz]; exact hg.size), h2.keepI (fun k hk => ?_) (fun k hk => ?_) (by rw [hsz]; exact hg.size), ho.keep (fun _ _ h => h.elim) (fun k hk => s3 k fun e => hp' (by rw [← e]; exact hk)) (Nat.le_of_eq hsz.symm)⟩, s1⟩
  · rw [s3 k fun e => hp1 (by rw [← e]; exact hk)]
    exact hg.block k (h1.lt k hk).2 fun e => own_ty_ne h1 h3 (by decide) hk e.symm
  · rw [s3 k fun e => by subst e; exact ty_ne (by decide) ⟨_, _, hb⟩ hk.2]
    exact hg.block k hk.lt fun e => ty_ne (by decide) (h3.ty k e.symm) hk.2
  · rw [s3 k fun e => hp2 (by rw [← e]; exact hk)]
    exact hg.block k (h2.lt k hk).2 fun e => own_ty_ne h2 h3 (by decide) hk e.symm
end
end Go.Proofs.YtpkajhmgkmkcgaaDoor
