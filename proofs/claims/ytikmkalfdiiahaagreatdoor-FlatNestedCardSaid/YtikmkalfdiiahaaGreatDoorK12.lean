/-
  Parts of this claim's texts, one behind the other: ZG ZH ZI ZJ. No condition.
-/
import Derived.Test.YtikmkalfdiiahaaGreatDoorK11
import Derived.Test.YtikmkalfdiiahaaGreatDoorK2
set_option linter.unusedVariables false
set_option linter.unusedSimpArgs false
/-
  theodolitelaw7: declared, tables. Condition: the library's tables as its text lays them.
-/
namespace Go.Proofs.YtikmkalfdiiahaaGreatDoor
open Go.RowKit Go.Sort Go.Lib

def sy : ByteArray := ⟨#[121]⟩
def sz : ByteArray := ⟨#[122]⟩
def sp : ByteArray := ⟨#[112]⟩
def sq : ByteArray := ⟨#[113]⟩
def sa : ByteArray := ⟨#[97]⟩
def sb : ByteArray := ⟨#[98]⟩
def sh : ByteArray := ⟨#[104]⟩
def declL : List FunD := [⟨sx, [], 1⟩, ⟨sy, [], 1⟩, ⟨sz, [], 1⟩, ⟨sp, [], 0⟩, ⟨sq, [], 0⟩, ⟨sa, [], 2⟩, ⟨sb, [], 2⟩, ⟨sf, [1], 1⟩, ⟨sg, [2, 1], 2⟩, ⟨sh, [2], 0⟩]
def T7 (k : Nat) : TabD := ⟨[sU], declL.take k, []⟩
theorem findF_data (T : TabD) (s : ByteArray) : findF T s = T.funs.find? fun f => f.name.data.toList == s.data.toList := by
  unfold findF
  congr 1
  funext f
  exact eqS_data f.name s
theorem err7 : ∀ k : Fin 10, errFun (T7 k.val) (declL.getD k.val noFun) = 0 := by
  intro k
  unfold errFun mayFunB
  rw [mayB_data, findF_data]
  revert k
  decide +kernel
theorem add7 {k : Nat} (hk : k < 10) (f : FunD) (hf : declL[k]? = some f) : errFun (T7 k) f = 0 ∧ addFun (T7 k) f = T7 (k + 1) := by
  have h := err7 ⟨k, hk⟩
  have e : declL.getD k noFun = f := by rw [List.getD_eq_getElem?_getD, hf]; rfl
  dsimp only at h
  rw [e] at h
  refine ⟨h, ?_⟩
  unfold addFun
  rw [if_pos h]
  unfold T7
  have hl : k < declL.length := (List.getElem?_eq_some_iff.1 hf).1
  rw [List.take_succ_eq_append_getElem hl]
  have e2 := List.getElem?_eq_getElem hl
  rw [hf] at e2
  injection e2 with e2
  rw [← e2]
theorem small7 (k : Nat) : Small (T7 k) := by
  have hl : (T7 k).funs.length ≤ 10 := by show (declL.take k).length ≤ 10; rw [List.length_take]; exact Nat.min_le_right _ _
  refine ⟨by show (1 : Nat) < _; decide, by omega, by show (0 : Nat) < _; decide, fun f hf => ?_⟩
  have : f ∈ declL := List.mem_of_mem_take hf
  simp [declL] at this
  rcases this with rfl | rfl | rfl | rfl | rfl | rfl | rfl | rfl | rfl | rfl <;> decide
theorem bad7 : badSort ⟨[], [], []⟩ sU = false := bad_U
/-- a slice over a block of its own, element for element -/
theorem SlR.ofCss {α : Type} {R : Rep α} {S : Nat → Prop} {w : World} {g : Nat} {t : TypeId} {f : Nat × Nat} {css : List (List Value)} {xs : List α} (hb : w.heap[g]? = some (.cells css.flatten.toArray t f)) (hS : S g) (hl : css.length = xs.length)
    (hr : ∀ (j : Nat) (x : α), xs[j]? = some x → ∃ cs, css[j]? = some cs ∧ R.rd S w x cs) : SlR R S w (some ⟨g, 0, none⟩) xs.length xs := by
  refine ⟨rfl, fun _ => ⟨g, 0, rfl, (Array.getElem?_eq_some_iff.1 hb).1, hS, fun j x hx => ?_⟩⟩
  obtain ⟨cs, h1, h2⟩ := hr j x hx
  refine ⟨cs, h2, fun i u hu => ?_⟩
  have hk : ∀ cs ∈ css, cs.length = R.k := fun cs hc => by
    obtain ⟨j, hj, rfl⟩ := List.getElem_of_mem hc
    obtain ⟨cs', h3, h4⟩ := hr j _ (List.getElem?_eq_getElem (by omega : j < xs.length))
    rw [List.getElem?_eq_getElem hj] at h3
    injection h3 with h3
    rw [h3]; exact R.len h4
  have := flat_at hk h1 hu
  rw [Nat.zero_add, cell_p hb]
  simpa using this
/-- the literal's cells -/
def declC (g : Nat) : List (List Value) :=
  [[.string sx, .slice none 0 0, .int .i64 1], [.string sy, .slice none 0 0, .int .i64 1], [.string sz, .slice none 0 0, .int .i64 1], [.string sp, .slice none 0 0, .int .i64 0], [.string sq, .slice none 0 0, .int .i64 0], [.string sa, .slice none 0 0, .int .i64 2], [.string sb, .slice none 0 0, .int .i64 2],
   [.string sf, .slice (some ⟨g, 0, none⟩) 1 1, .int .i64 1], [.string sg, .slice (some ⟨g + 1, 0, none⟩) 2 2, .int .i64 2], [.string sh, .slice (some ⟨g + 2, 0, none⟩) 1 1, .int .i64 0]]
def DeclPost (w : World) (e : Ending) (w' : World) : Prop :=
  e = .returned (.slice (some ⟨w.heap.size + 3, 0, none⟩) 10 10) ∧ SlR repF (fun k => w.heap.size ≤ k) w' (some ⟨w.heap.size + 3, 0, none⟩) 10 declL ∧ Below w.heap.size w w' ∧ w'.heap.size = w.heap.size + 4
theorem decl_rd {S : Nat → Prop} {w : World} {g : Nat} (h1 : SlR Rep.int S w (some ⟨g, 0, none⟩) 1 [1]) (h2 : SlR Rep.int S w (some ⟨g + 1, 0, none⟩) 2 [2, 1]) (h3 : SlR Rep.int S w (some ⟨g + 2, 0, none⟩) 1 [2]) :
    ∀ (j : Nat) (x : FunD), declL[j]? = some x → ∃ cs, (declC g)[j]? = some cs ∧ repF.rd S w x cs := by
  have o0 : okI 0 := ⟨by decide, by decide⟩
  have o1 : okI 1 := ⟨by decide, by decide⟩
  have o2 : okI 2 := ⟨by decide, by decide⟩
  have nl := fun nm r (h : okI r) => (repF_rd (S := S) (w := w) (f := ⟨nm, [], r⟩) (cs := [.string nm, .slice none 0 0, .int .i64 r])).2 ⟨none, 0, 0, rfl, Nat.le_refl _, Nat.zero_le _, SlR.nil _ _ _ _, h⟩
  intro j x hx
  match j, hx with
  | 0, hx => cases hx; exact ⟨_, rfl, nl _ _ o1⟩
  | 1, hx => cases hx; exact ⟨_, rfl, nl _ _ o1⟩
  | 2, hx => cases hx; exact ⟨_, rfl, nl _ _ o1⟩
  | 3, hx => cases hx; exact ⟨_, rfl, nl _ _ o0⟩
  | 4, hx => cases hx; exact ⟨_, rfl, nl _ _ o0⟩
  | 5, hx => cases hx; exact ⟨_, rfl, nl _ _ o2⟩
  | 6, hx => cases hx; exact ⟨_, rfl, nl _ _ o2⟩
  | 7, hx => cases hx; exact ⟨_, rfl, repF_rd.2 ⟨_, 1, 1, rfl, Nat.le_refl _, by decide, h1, o1⟩⟩
  | 8, hx => cases hx; exact ⟨_, rfl, repF_rd.2 ⟨_, 2, 2, rfl, Nat.le_refl _, by decide, h2, o2⟩⟩
  | 9, hx => cases hx; exact ⟨_, rfl, repF_rd.2 ⟨_, 1, 1, rfl, Nat.le_refl _, by decide, h3, o0⟩⟩
  | j + 10, hx => simp [declL] at hx
set_option maxRecDepth 100000 in
set_option maxHeartbeats 2000000 in
theorem declared_any (w : World) : Calls Tryz.prog 51 #[] w fun e w' => DeclPost w e w' := by
  go_enter Tryz.func51, Tryz.ntmps51
  go_wp2
  go_ret
  have i1 := RdI.lit [1] 3 w (by simp)
  generalize h1 : w.alloc (.cells #[.int .i64 1] 3) = w1 at *
  have i1' : RdI w1 (some ⟨w.heap.size, 0, none⟩) 1 [1] := by rw [← h1]; exact i1
  have s1 : w1.heap.size = w.heap.size + 1 := by rw [← h1]; simp
  have b1 : Below w.heap.size w w1 := by rw [← h1]; exact (Below.refl _ _).alloc (Nat.le_refl _) _
  have i2 := RdI.lit [2, 1] 3 w1 (by simp)
  generalize h2 : w1.alloc (.cells #[.int .i64 2, .int .i64 1] 3) = w2 at *
  have i2' : RdI w2 (some ⟨w.heap.size + 1, 0, none⟩) 2 [2, 1] := by rw [← h2, ← s1]; exact i2
  have s2 : w2.heap.size = w.heap.size + 1 + 1 := by rw [← h2]; simp [s1]
  have b2 : Below w1.heap.size w1 w2 := by rw [← h2]; exact (Below.refl _ _).alloc (Nat.le_refl _) _
  have i3 := RdI.lit [2] 3 w2 (by simp)
  generalize h3 : w2.alloc (.cells #[.int .i64 2] 3) = w3 at *
  have i3' : RdI w3 (some ⟨w.heap.size + 2, 0, none⟩) 1 [2] := by rw [← h3, show w.heap.size + 2 = w2.heap.size by omega]; exact i3
  have s3 : w3.heap.size = w.heap.size + 1 + 1 + 1 := by rw [← h3]; simp [s2]
  have b3 : Below w2.heap.size w2 w3 := by rw [← h3]; exact (Below.refl _ _).alloc (Nat.le_refl _) _
  have b4 : Below w3.heap.size w3 (w3.alloc (.cells (declC w.heap.size).flatten.toArray 75)) := (Below.refl _ _).alloc (Nat.le_refl _) _
  have hg := heap_alloc_new w3 (.cells (declC w.heap.size).flatten.toArray 75)
  rw [s3] at hg
  have b34 := b3.trans (b4.mono b3.size)
  have b24 := b2.trans (b34.mono b2.size)
  have hS : ∀ (k o : Nat) (n : Nat) (x : Addr), 0 < n → some (⟨w.heap.size + k, o, none⟩ : Addr) = some x → w.heap.size ≤ x.block := fun k o n x _ e => by injection e with e; rw [← e]; exact Nat.le_add_right _ _
  refine ⟨rfl, SlR.ofCss (css := declC w.heap.size) hg (by show w.heap.size ≤ _; omega) rfl (decl_rd (SlR.ofI (i1'.below b24 (Nat.le_refl _)) (fun x h e => hS 0 0 1 x h e)) (SlR.ofI (i2'.below b34 (Nat.le_refl _)) (fun x h e => hS 1 0 2 x h e)) (SlR.ofI (i3'.below b4 (Nat.le_refl _)) (fun x h e => hS 2 0 1 x h e))), ?_, ?_⟩
  · exact b1.trans (b24.mono b1.size)
  · show (w3.heap.push _).size = _
    rw [Array.size_push, s3]
/-! ### both tables of sorts, side by side -/
structure Duo (w0 : World) (p q : Nat) (T : TabD) (w : World) : Prop where
  t : TabIs w0.heap.size p T w
  r : RefX (fun _ => False) w0.heap.size q T w
  ap : Apart w p q
  b : Below w0.heap.size w0 w
  e : Env w
section
variable {w0 w w1 w' : World} {p q : Nat} {T T' : TabD}
theorem Apart.symm (h : Apart w p q) (hp : ∀ j, ownOf w p j → j < w.heap.size) : Apart w q p := fun j hj => ⟨hp j hj, fun hq => (h j hq).2 hj⟩
theorem Duo.all (h : Duo w0 p q T w) (hb : Below w.heap.size w w') : Duo w0 p q T w' :=
  ⟨h.t.all hb, h.r.all hb, (h.ap.keep (.of_below h.t.plt hb)).2, h.b.trans (hb.mono h.b.size), h.e.all hb⟩
theorem Duo.step (h : Duo w0 p q T w) (h0 : 0 < w0.heap.size) (s1 : PStep p w w1) : RefX (fun _ => False) w0.heap.size q T w1 ∧ Apart w1 p q ∧ Below w0.heap.size w0 w1 ∧ Env w1 := by
  have hk := h.ap.keep s1
  have hb := h.t.stepBelow s1
  exact ⟨h.r.keep hk.1 (fun j hj => (s1.block j hj.lt fun e => h.t.ownI e hj).1) s1.size, hk.2, h.b.trans hb, h.e.below hb h0⟩
theorem Duo.step2 (h0 : 0 < w0.heap.size) (t1 : TabIs w0.heap.size p T' w1) (r1 : RefX (fun _ => False) w0.heap.size q T w1) (ap : Apart w1 p q) (b : Below w0.heap.size w0 w1) (e : Env w1) (r2 : RefX (fun _ => False) w0.heap.size q T' w') (s2 : PStep q w1 w') : Duo w0 p q T' w' := by
  have ap' := ap.symm fun j hj => (t1.ownB hj).2
  have hk := ap'.keep s2
  have hb := r1.stepBelow s2
  exact ⟨t1.keep hk.1 (fun j hj => (s2.block j hj.lt fun e => r1.ownI e hj).1) s2.size, r2, hk.2.symm fun j hj => (r2.ownB hj).2, b.trans hb, e.below hb h0⟩
/-- blocks apart from both -/
def FreeS (S : Nat → Prop) (p q : Nat) (w : World) : Prop := ∀ k, S k → k < w.heap.size ∧ ¬ ownOf w p k ∧ ¬ ownOf w q k
theorem FreeS.stepP {S : Nat → Prop} (h : FreeS S p q w) (s : PStep p w w') (hq : w'.heap[q]? = w.heap[q]?) : FreeS S p q w' ∧ ∀ k, S k → w'.heap[k]? = w.heap[k]? :=
  ⟨fun k hk => ⟨Nat.lt_of_lt_of_le (h k hk).1 s.size, (s.block k (h k hk).1 (h k hk).2.1).2, fun e => (h k hk).2.2 ((ownOf.same hq).1 e)⟩, fun k hk => (s.block k (h k hk).1 (h k hk).2.1).1⟩
theorem FreeS.stepQ {S : Nat → Prop} (h : FreeS S p q w) (s : PStep q w w') (hp : w'.heap[p]? = w.heap[p]?) : FreeS S p q w' ∧ ∀ k, S k → w'.heap[k]? = w.heap[k]? :=
  ⟨fun k hk => ⟨Nat.lt_of_lt_of_le (h k hk).1 s.size, fun e => (h k hk).2.1 ((ownOf.same hp).1 e), (s.block k (h k hk).1 (h k hk).2.2).2⟩, fun k hk => (s.block k (h k hk).1 (h k hk).2.2).1⟩
end
end Go.Proofs.YtikmkalfdiiahaaGreatDoor

/-
  theodolitelaw7: tables. Condition: the library's tables as its text lays them.
-/
namespace Go.Proofs.YtikmkalfdiiahaaGreatDoor
open Go.RowKit Go.Sort Go.Lib

theorem OwnR.lower {α : Type} {R : Rep α} {S : Nat → Prop} {w : World} {base base' : Nat} {e : TypeId} {v : Value} {xs : List α} (h : OwnR R S w base e v xs) (hb : base' ≤ base) : OwnR R S w base' e v xs := by
  obtain ⟨css, h1, h2⟩ := h
  exact ⟨css, h1.lower hb, h2⟩
theorem TermX.lower {B B' p : Nat} {T : TermD} {w : World} (h : TermX B p T w) (hb : B' ≤ B) : TermX B' p T w := by
  obtain ⟨q, v1, v2, m, h⟩ := h
  exact ⟨q, v1, v2, m, Nat.le_trans hb h.bp, h.blk, h.nodes.lower hb, h.nums.lower hb, h.ids, Nat.le_trans hb h.bm, h.srtX, h.xlt⟩
def TabsPost (w : World) (e : Ending) (w' : World) : Prop := ∃ p r, e = .returned (.tuple #[.pointer (some ⟨p, 0, none⟩), .pointer (some ⟨r, 0, none⟩)]) ∧ TermX w.heap.size p (emptyT (T7 10)) w' ∧ Below w.heap.size w w'
set_option maxRecDepth 100000 in
set_option maxHeartbeats 8000000 in
theorem tables_any (w : World) (hE : Env w) : Calls Tryz.prog 18 #[] w fun e w' => TabsPost w e w' := by
  have hE' := Lib.hid hE
  have pos0 := hE.pos
  have htn := Lib.hid (tnew_any w)
  clear hE
  go_enter Tryz.func18, Tryz.ntmps18
  go_wp2_with fail
  refine htn.out.mono ?_; rintro e w1 ⟨p, rfl, t1, b1⟩
  have I0 := Lib.hid (show Duo w p w1.heap.size ⟨[], [], []⟩ (w1.alloc (.cells #[.slice none 0 0, .slice none 0 0, .slice none 0 0] 68)) from by
    have hB1 : Below w1.heap.size w1 (w1.alloc (.cells #[.slice none 0 0, .slice none 0 0, .slice none 0 0] 68)) := (Below.refl _ _).alloc (Nat.le_refl _) _
    have hbq := heap_alloc_new w1 (.cells #[.slice none 0 0, .slice none 0 0, .slice none 0 0] 68)
    refine ⟨t1.all hB1, ⟨b1.size, fun _ h => h.elim, _, _, _, hbq, OwnR.nil _ _ _ _ _, OwnR.nil _ _ _ _ _, OwnR.nil _ _ _ _ _⟩, fun j hj => ?_, b1.trans (hB1.mono b1.size), hE'.out.all (b1.trans (hB1.mono b1.size))⟩
    have hjq : j = w1.heap.size := by
      rcases (own3 hbq).1 hj with h | h | h | h
      · exact h
      · simp [Value.ownBlock] at h
      · simp [Value.ownBlock] at h
      · simp [Value.ownBlock] at h
    subst hjq
    refine ⟨by simp, fun e => ?_⟩
    have := (t1.ownB ((ownOf.same (hB1.block p t1.plt)).1 e)).2
    omega)
  clear t1 b1 htn
  go_wp2_with fail
  generalize (w1.alloc (.cells #[.slice none 0 0, .slice none 0 0, .slice none 0 0] 68)) = w2 at *
  generalize w1.heap.size = q at *
  have hsp := Lib.hid (sort_any w.heap.size p ⟨[], [], []⟩ sU w2 I0.out.t I0.out.e (by decide))
  refine hsp.out.mono ?_; rintro e w3 h3
  obtain ⟨rfl, t3, s3⟩ := h3.yes bad7
  obtain ⟨r3, ap3, b3, e3⟩ := I0.out.step pos0 s3
  have J3 := Lib.hid (And.intro t3 (And.intro ap3 (And.intro b3 e3)))
  have R3 := Lib.hid r3
  have hrs := Lib.hid (rsort_any w.heap.size q ⟨[], [], []⟩ sU w3 r3 (by decide))
  clear h3 t3 s3 r3 ap3 b3 e3 hsp
  go_wp2_with fail
  refine hrs.out.mono ?_; rintro e w4 h4
  have h4y : e = .returned (.tuple #[.int .i64 2, .int .i64 0]) ∧ RefX (fun _ => False) w.heap.size q (T7 0) w4 ∧ PStep q w3 w4 := by
    unfold RSortPost at h4
    rw [if_neg (by rw [bad7]; decide)] at h4
    exact ⟨h4.1.1, h4.1.2, h4.2⟩
  obtain ⟨rfl, r4, s4⟩ := h4y
  have I4 := Lib.hid (Duo.step2 (T' := T7 0) pos0 J3.out.1 R3.out J3.out.2.1 J3.out.2.2.1 J3.out.2.2.2 r4 s4)
  have hdc := Lib.hid (declared_any w4)
  clear h4 r4 s4 J3 R3 hrs
  go_wp2_with fail
  refine hdc.out.mono ?_; rintro e w5 ⟨rfl, hl5, b5, z5⟩
  have I5 := Lib.hid (I4.out.all b5)
  have F5 := Lib.hid (show FreeS (fun k => w4.heap.size ≤ k ∧ k < w5.heap.size) p q w5 from fun k hk => ⟨hk.2, fun e => by
    have := (I4.out.t.ownB ((ownOf.same (b5.block p I4.out.t.plt)).1 e)).2
    omega, fun e => by
    have := (I4.out.r.ownB ((ownOf.same (b5.block q I4.out.r.plt)).1 e)).2
    omega⟩)
  have L5 := Lib.hid (show SlR repF (fun k => w4.heap.size ≤ k ∧ k < w5.heap.size) w5 (some ⟨w4.heap.size + 3, 0, none⟩) 10 declL from hl5.mono fun b hb hk => ⟨hk, hb⟩)
  clear hl5 b5 z5 hdc I0 I4
  go_wp2
  generalize w4.heap.size + 3 = g at *
  generalize hSS : (fun k => w4.heap.size ≤ k ∧ k < w5.heap.size) = SS at *
  clear hSS
  go_loopw [5] (fun i wr => ∃ k : Nat, k ≤ 10 ∧ i = .int .i64 k ∧ Hid (Duo w p q (T7 k) wr) ∧ Hid (FreeS SS p q wr) ∧ Hid (SlR repF SS wr (some ⟨g, 0, none⟩) 10 declL)) (fun i _ => 10 - (intOf i).toNat)
  case atStart => exact ⟨0, by omega, rfl, I5.out, F5.out, L5.out⟩
  case round =>
    obtain ⟨k, hk, rfl, hI, hF, hL⟩ := hrel
    by_cases hlt : k < 10
    · have hf : declL[k]? = some (declL[k]'(by show k < 10; omega)) := List.getElem?_eq_getElem _
      generalize (declL[k]'(by show k < 10; omega)) = f at *
      obtain ⟨b, o, a', c', hgo, k0, k1, k2, ra, or, nc, _⟩ := hL.out.funAt hf
      cases hgo
      simp only [Nat.zero_add] at k0 k1 k2
      have hfa : f.args.length ≤ 2 := by
        have : f ∈ declL := List.mem_of_getElem? hf
        simp [declL] at this
        rcases this with rfl | rfl | rfl | rfl | rfl | rfl | rfl | rfl | rfl | rfl <;> decide
      obtain ⟨he, hadd⟩ := add7 hlt f hf
      have hki : (k : Int) < 10 := by omega
      have hfn := Lib.hid (fun_any w.heap.size p (T7 k) f a' c' wr hI.out.t (small7 k) hI.out.e ra.toI (by omega))
      have hadd' := Lib.hid hadd
      have he' := Lib.hid he
      have hf' := Lib.hid hf
      clear hf he hadd or
      go_wp2_with fail
      refine hfn.out.mono ?_; rintro e w6 ⟨rfl, t6, s6⟩
      rw [hadd'.out] at t6
      obtain ⟨r6, ap6, b6, e6⟩ := hI.out.step pos0 s6
      have hq6 := (s6.block q (hI.out.ap q (.inl rfl)).1 (hI.out.ap q (.inl rfl)).2).1
      obtain ⟨F6, K6⟩ := hF.out.stepP s6 hq6
      have L6 := hL.out.keep (fun b _ hb => K6 b hb) s6.size
      obtain ⟨b', o', a6, c6, hgo, q0, q1, q2, ra6, _, nc6, _⟩ := L6.funAt hf'.out
      cases hgo
      simp only [Nat.zero_add] at q0 q1 q2
      have J6 := Lib.hid (And.intro t6 (And.intro ap6 (And.intro b6 e6)))
      have R6 := Lib.hid r6
      have F6' := Lib.hid F6
      have L6' := Lib.hid L6
      have hrf := Lib.hid (rfun_any w.heap.size q (T7 k) f a6 c6 w6 r6 (small7 k) ra6.toI (by omega) nc6)
      clear t6 s6 r6 ap6 b6 e6 hq6 F6 K6 L6 hfn k0 k1 k2 ra
      go_wp2_with fail
      refine hrf.out.mono ?_; rintro e w7 ⟨rfl, r7, s7⟩
      rw [hadd'.out] at r7
      have I7 := Lib.hid (Duo.step2 (T' := T7 (k + 1)) pos0 J6.out.1 R6.out J6.out.2.1 J6.out.2.2.1 J6.out.2.2.2 r7 s7)
      have hap := J6.out.2.1.symm fun j hj => (J6.out.1.ownB hj).2
      have hp7 := (s7.block p (hap p (.inl rfl)).1 (hap p (.inl rfl)).2).1
      obtain ⟨F7, K7⟩ := F6'.out.stepQ s7 hp7
      have F7' := Lib.hid F7
      have L7 := Lib.hid (L6'.out.keep (fun b _ hb => K7 b hb) s7.size)
      clear r7 s7 hap hp7 F7 K7
      go_wp2
      go_roundw
      case rel => exact ⟨k + 1, by omega, by go_num, I7.out, F7'.out, L7.out⟩
      case measure => simp [intOf]; omega
    · have hk10 : k = 10 := by omega
      subst hk10
      have hnw := Lib.hid (new_any w.heap.size p (T7 10) wr hI.out.t)
      go_wp2_with fail
      refine hnw.out.mono ?_; rintro e w8 ⟨rfl, hT8, b8⟩
      have T8 := Lib.hid hT8
      have B8 := Lib.hid (hI.out.b.trans (b8.mono hI.out.b.size))
      have hsz := hI.out.b.size
      clear hT8 b8
      go_wp2
      go_ret2
      have hBA : Below w8.heap.size w8 (w8.alloc (.cells #[.pointer (some ⟨q, 0, none⟩), .slice none 0 0, .int .i64 0] 80)) := (Below.refl _ _).alloc (Nat.le_refl _) _
      exact ⟨_, _, rfl, (T8.out.lower hsz).all hBA, B8.out.trans (hBA.mono B8.out.size)⟩
end Go.Proofs.YtikmkalfdiiahaaGreatDoor

/-
  theodolitelaw7: what awake makes, reckoned; how a table's sizes stand behind each step. No condition.
-/
namespace Go.Proofs.YtikmkalfdiiahaaGreatDoor
open Go.RowKit Go.Sort Go.Lib

def addN (T : TermD) (n : NodeD) : TermD := { T with nodes := T.nodes ++ [n], nums := T.nums ++ [numberD T n], ids := fun k => if k = keyB n then some (T.nodes.length : Int) else T.ids k, cnt := T.cnt + 1 }
def nX : NodeD := ⟨12, sx, noRat, [], 1⟩
def nTwo : NodeD := ⟨11, ⟨#[]⟩, rat_2, [], 1⟩
def nMul : NodeD := ⟨15, ⟨#[]⟩, noRat, [1, 0], 1⟩
def nFr : NodeD := ⟨12, freshName 0, noRat, [], 2⟩
def A0 : TermD := emptyT (T7 10)
def A1 : TermD := addN A0 nX
def A2 : TermD := addN A1 nTwo
def A3 : TermD := addN A2 nMul
def A4 : TermD := { addN A3 nFr with fresh := 1 }
section
variable {T : TermD} {op : Int} {nm : ByteArray} {val : RatD} {args : List Int} {s : Int}
theorem make_put (h1 : badHead op args = false) (h2 : badVal op nm val = false) (h3 : args.any (fun i => !hasT T i) = false) (h4 : sortedD T op nm args = (s, true)) : makeD T op nm val args = putD T ⟨op, nm, val, args, s⟩ := by
  unfold makeD
  rw [h1, h2, h3, h4]
  rfl
theorem make_no (h1 : badHead op args = false) (h2 : badVal op nm val = false) (h3 : args.any (fun i => !hasT T i) = false) (h4 : (sortedD T op nm args).2 = false) : makeD T op nm val args = ((0, 3), T) := by
  unfold makeD
  rw [h1, h2, h3, h4]
  rfl
theorem make_arg (h1 : badHead op args = false) (h2 : badVal op nm val = false) (h3 : args.any (fun i => !hasT T i) = true) : makeD T op nm val args = ((0, 1), T) := by
  unfold makeD
  rw [h1, h2, h3]
  rfl
theorem put_addN {n : NodeD} (h : T.ids (keyB n) = none) (hl : T.nodes.length < 16384) : putD T n = (((T.nodes.length : Int), 0), addN T n) := put_new h (by omega)
end
theorem lookF_data (T : TabD) (s : ByteArray) : lookF T s = (T.funs.find? fun f => f.name.data.toList == s.data.toList).getD noFun := by unfold lookF; rw [findF_data]
theorem callD_data (T : TermD) (nm : ByteArray) (args : List Int) : callD T nm args = if (T.S.funs.find? fun f => f.name.data.toList == nm.data.toList).isSome ∧ ((T.S.funs.find? fun f => f.name.data.toList == nm.data.toList).getD noFun).args.length = args.length then
    (if sameSorts T args ((T.S.funs.find? fun f => f.name.data.toList == nm.data.toList).getD noFun).args then (((T.S.funs.find? fun f => f.name.data.toList == nm.data.toList).getD noFun).res, true) else (0, false)) else (0, false) := by
  unfold callD
  rw [findF_data, lookF_data]
theorem sort_x : sortedD A0 12 sx [] = (1, true) := by
  show callD A0 sx [] = _
  rw [callD_data]
  decide +kernel
theorem mk_x : makeD A0 12 sx noRat [] = ((0, 0), A1) := (make_put (by decide +kernel) (by decide +kernel) rfl sort_x).trans (put_addN rfl (by decide))
theorem mk_two : makeD A1 11 ⟨#[]⟩ rat_2 [] = ((1, 0), A2) := (make_put (s := 1) (by decide +kernel) (by decide +kernel) rfl rfl).trans (put_addN (by decide +kernel) (by decide +kernel))
theorem mk_mul : makeD A2 15 ⟨#[]⟩ noRat [1, 0] = ((2, 0), A3) := (make_put (s := 1) (by decide +kernel) (by decide +kernel) (by decide +kernel) (by decide +kernel)).trans (put_addN (by decide +kernel) (by decide +kernel))
theorem mk_mul2 : makeD A3 15 ⟨#[]⟩ noRat [1, 0] = ((2, 0), A3) := (make_put (s := 1) (by decide +kernel) (by decide +kernel) (by decide +kernel) (by decide +kernel)).trans (put_some (by decide +kernel))
theorem mk_xx : makeD A3 15 ⟨#[]⟩ noRat [0, 0] = ((0, 3), A3) := make_no (by decide +kernel) (by decide +kernel) (by decide +kernel) (by decide +kernel)
theorem mk_and : makeD A3 4 ⟨#[]⟩ noRat [0, 0] = ((0, 3), A3) := make_no (by decide +kernel) (by decide +kernel) (by decide +kernel) (by decide +kernel)
theorem mk_99 : makeD A3 13 ⟨#[]⟩ noRat [0, 99] = ((0, 1), A3) := make_arg (by decide +kernel) (by decide +kernel) (by decide +kernel)
theorem fr_2 : freshD A3 2 = ((3, 0), A4) := by
  have h1 : isB A3.S.sorts.length 2 = true := by decide +kernel
  have h2 : putD A3 (freshNode A3 2) = ((3, 0), addN A3 nFr) := put_addN (n := nFr) (by decide +kernel) (by decide +kernel)
  unfold freshD
  rw [h1, h2]
  rfl
theorem fr_9 : freshD A4 9 = ((0, 1), A4) := by
  have h1 : isB A4.S.sorts.length 9 = false := by decide +kernel
  unfold freshD
  rw [h1]
  rfl
theorem vars_mul : varsD A4 2 = [0] := by
  have h1 : hasT A4 2 = true := by decide +kernel
  have h2 : (walkT A4 [2]).2.filter (isConst A4) = [0] := by decide +kernel
  unfold varsD
  rw [h1, h2]
  simp [sortN]
theorem node_mul : nodeAt A3 2 = nMul := rfl
theorem node_mul4 : nodeAt A4 2 = nMul := rfl
theorem sort_mul : sortOf A3 2 = (1, true) := by decide +kernel
/-! ### sizes -/
theorem TermOk.empty (k : Nat) : TermOk (emptyT (T7 k)) :=
  ⟨⟨rfl, Nat.le_refl _, Nat.zero_le _, ⟨Int.le_refl _, by show (0 : Int) ≤ _; decide⟩, small7 k, fun _ _ h => by simp [emptyT] at h⟩, fun _ h => by simp [emptyT] at h, fun _ _ h => by simp [emptyT] at h⟩
theorem TermOk.add {T : TermD} (h : TermOk T) {n : NodeD} (hl : T.nodes.length < 16384) (h1 : n.val.num.length ≤ 1000000) (h2 : n.val.den.length ≤ 1000000) (h3 : n.args.length ≤ 1000000) (hi : InT T n.args) : TermOk (addN T n) := by
  refine ⟨⟨by simp [addN, h.sm.nn], by have := h.sm.cn; simp [addN]; omega, by simp [addN]; omega, h.sm.fr, h.sm.s, fun k i hk => ?_⟩, fun x hx => ?_, fun k x hx => ?_⟩
  · unfold addN at hk
    dsimp only at hk
    have e : ((addN T n).nodes.length : Int) = T.nodes.length + 1 := by simp [addN]
    rw [e]
    split at hk
    · injection hk with hk; omega
    · have := h.sm.ids k i hk; omega
  · rcases List.mem_append.1 hx with hx | hx
    · exact h.sn x hx
    · obtain rfl := List.mem_singleton.1 hx; omega
  · by_cases hk : k < T.nodes.length
    · exact h.ord k x (by rw [show (addN T n).nodes = T.nodes ++ [n] from rfl, List.getElem?_append_left hk] at hx; exact hx)
    · have hl2 := (List.getElem?_eq_some_iff.1 hx).1
      rw [show (addN T n).nodes = T.nodes ++ [n] from rfl, List.length_append, List.length_singleton] at hl2
      obtain rfl : k = T.nodes.length := by omega
      rw [show (addN T n).nodes = T.nodes ++ [n] from rfl, List.getElem?_append_right (Nat.le_refl _), Nat.sub_self] at hx
      cases hx
      exact hi
theorem TermOk.put {T : TermD} (h : TermOk T) {n : NodeD} (h1 : n.val.num.length ≤ 1000000) (h2 : n.val.den.length ≤ 1000000) (h3 : n.args.length ≤ 1000000) (hi : InT T n.args) : TermOk (putD T n).2 := by
  cases hk : T.ids (keyB n) with
  | some i => rw [put_some hk]; exact h
  | none =>
    by_cases hl : 16384 ≤ T.nodes.length
    · rw [put_full hk hl]; exact h
    · rw [put_addN hk (by omega)]; exact h.add (by omega) h1 h2 h3 hi
theorem TermOk.make {T : TermD} (h : TermOk T) {op : Int} {nm : ByteArray} {val : RatD} {args : List Int} (h1 : val.num.length ≤ 1000000) (h2 : val.den.length ≤ 1000000) : TermOk (makeD T op nm val args).2 := by
  unfold makeD
  split
  · exact h
  · rename_i hh
    split
    · exact h
    · split
      · exact h
      · rename_i ha
        split
        · refine h.put h1 h2 ?_ (inT_of (by simpa using ha))
          unfold badHead at hh
          simp at hh
          show args.length ≤ _
          omega
        · exact h
theorem TermOk.fresh {T : TermD} (h : TermOk T) (s : Int) (hf : T.fresh < 1099511627776) : TermOk (freshD T s).2 := by
  unfold freshD
  split
  · have hp := h.put (n := freshNode T s) (Nat.zero_le _) (Nat.zero_le _) (Nat.zero_le _) (fun x hx => by cases hx)
    split
    · exact ⟨⟨hp.sm.nn, hp.sm.cn, hp.sm.le, ⟨by have := h.sm.fr; show 0 ≤ T.fresh + 1; omega, by show T.fresh + 1 ≤ _; omega⟩, hp.sm.s, hp.sm.ids⟩, hp.sn, hp.ord⟩
    · exact hp
  · exact h
end Go.Proofs.YtikmkalfdiiahaaGreatDoor

/-
  theodolitelaw7: awake. Condition: the library's tables as its text lays them.
-/
namespace Go.Proofs.YtikmkalfdiiahaaGreatDoor
open Go.RowKit Go.Sort Go.Lib

/-- a table of a call's own, what was there before as it was -/
structure St (w0 : World) (p : Nat) (T : TermD) (w : World) : Prop where
  t : TermX w0.heap.size p T w
  b : Below w0.heap.size w0 w
section
variable {w0 w w' : World} {p : Nat} {T T' : TermD}
theorem St.all (h : St w0 p T w) (hb : Below w.heap.size w w') : St w0 p T w' := ⟨h.t.all hb, h.b.trans (hb.mono h.b.size)⟩
theorem St.lit (h : St w0 p T w) (o : Obj) : St w0 p T (w.alloc o) := h.all ((Below.refl _ _).alloc (Nat.le_refl _) _)
theorem St.step (h : St w0 p T w) (ht : TermX w0.heap.size p T' w') (hs : TStep p w w') : St w0 p T' w' := ⟨ht, h.b.trans (h.t.stepBelow hs)⟩
theorem St.env (h : St w0 p T w) (hE : EnvT w0) : EnvT w := hE.all h.b
theorem lit_dat (w : World) (xs : List Int) (hx : ∀ x ∈ xs, okI x) : SlR Rep.int (DatB (w.alloc (.cells (xs.map (Value.int .i64)).toArray 3))) (w.alloc (.cells (xs.map (Value.int .i64)).toArray 3)) (some ⟨w.heap.size, 0, none⟩) xs.length xs :=
  SlR.ofI (RdI.lit xs 3 w hx) fun x _ e => by
    injection e with e
    subst e
    exact ⟨_, _, .inl (heap_alloc_new w _)⟩
theorem lit_args (w : World) (op : Int) (xs : List Int) (ho : okI op) (hx : ∀ x ∈ xs, okI x) (hl : xs.length ≤ maxLen) (h11 : op ≠ 11) : MArgs (w.alloc (.cells (xs.map (Value.int .i64)).toArray 3)) ⟨#[]⟩ noRat xs op none none (some ⟨w.heap.size, 0, none⟩) 0 0 xs.length :=
  ⟨SlR.nil _ _ _ _, SlR.nil _ _ _ _, lit_dat w xs hx, ⟨Nat.le_refl _, Nat.zero_le _⟩, ⟨Nat.le_refl _, Nat.zero_le _⟩, ⟨Nat.le_refl _, hl⟩, by decide, by decide, ho, fun e => absurd e h11⟩
/-- a box that is not the table's -/
theorem St.free (h : St w0 p T w) (o : Obj) : ¬ ownT p (w.alloc o) w.heap.size := fun e => by
  obtain ⟨q, v1, v2, m, ha⟩ := h.t
  have hb : Below w.heap.size w (w.alloc o) := (Below.refl _ _).alloc (Nat.le_refl _) _
  have := (ha.ownB ((ownT.same (hb.block p ha.plt)).1 e)).2
  omega
end
theorem SlR.tstep {α : Type} {R : Rep α} {B p : Nat} {T : TermD} {w w' : World} {a : Option Addr} {n : Nat} {xs : List α} (h : SlR R (DatB w) w a n xs) (t : TermX B p T w) (s : TStep p w w') : SlR R (DatB w') w' a n xs :=
  (h.keep (fun _ _ hk => t.dat s hk) s.size).mono fun _ _ hk => hk.same (t.dat s hk)
theorem ok_A0 : TermOk A0 := TermOk.empty 10
theorem ok_A1 : TermOk A1 := by have := ok_A0.make (op := 12) (nm := sx) (val := noRat) (args := []) (by decide) (by decide); rw [mk_x] at this; exact this
theorem ok_A2 : TermOk A2 := by have := ok_A1.make (op := 11) (nm := ⟨#[]⟩) (val := rat_2) (args := []) (by decide) (by decide); rw [mk_two] at this; exact this
theorem ok_A3 : TermOk A3 := by have := ok_A2.make (op := 15) (nm := ⟨#[]⟩) (val := noRat) (args := [1, 0]) (by decide) (by decide); rw [mk_mul] at this; exact this
theorem ok_A4 : TermOk A4 := by have := ok_A3.fresh 2 (by show (0 : Int) < _; decide); rw [fr_2] at this; exact this
set_option maxRecDepth 100000 in
set_option maxHeartbeats 16000000 in
theorem awake7_any (w : World) (hE : EnvT w) : Calls Tryz.prog 17 #[] w fun e w' => e = .returned (.bool true) ∧ Below w.heap.size w w' := by
  have hE' := Lib.hid hE
  have htb := Lib.hid (tables_any w hE.env)
  clear hE
  go_enter Tryz.func17, Tryz.ntmps17
  go_wp2_with fail
  refine htb.out.mono ?_; rintro e w1 ⟨p, r, rfl, t1, b1⟩
  have I1 := Lib.hid (show St w p A0 w1 from ⟨t1, b1⟩)
  have h1 := Lib.hid (app_any w.heap.size p A0 sx w1 t1 ok_A0.sm (I1.out.env hE'.out) (by decide))
  rw [mk_x] at h1
  clear t1 b1 htb
  go_wp2_with fail
  refine h1.out.mono ?_; rintro e w2 ⟨rfl, t2, s2⟩
  have I2 := Lib.hid (I1.out.step t2 s2)
  have h2 := Lib.hid (num_2 w.heap.size p A1 w2 t2 ok_A1.sm (I2.out.env hE'.out))
  rw [mk_two] at h2
  clear t2 s2 I1 h1
  go_wp2_with fail
  refine h2.out.mono ?_; rintro e w3 ⟨rfl, t3, s3⟩
  have I3 := Lib.hid (I2.out.step t3 s3)
  clear t3 s3 I2 h2
  have I3a := Lib.hid (I3.out.lit (.cells #[.int .i64 1, .int .i64 0] 3))
  have h3 := Lib.hid (make_any w.heap.size p A2 15 ⟨#[]⟩ noRat [1, 0] none none (some ⟨w3.heap.size, 0, none⟩) 0 0 2 _ I3a.out.t ok_A2.sm (I3a.out.env hE'.out) (lit_args w3 15 [1, 0] ⟨by decide, by decide⟩ (by intro x hx; simp at hx; rcases hx with rfl | rfl <;> exact ⟨by decide, by decide⟩) (by decide) (by decide)))
  unfold MakePost at h3
  rw [mk_mul] at h3
  go_wp2_with fail
  refine h3.out.mono ?_; rintro e w4 ⟨rfl, t4, s4⟩
  have I4 := Lib.hid (I3a.out.step t4 s4)
  clear t4 s4 I3 I3a h3
  have I4a := Lib.hid (I4.out.lit (.cells #[.int .i64 1, .int .i64 0] 3))
  have h4 := Lib.hid (make_any w.heap.size p A3 15 ⟨#[]⟩ noRat [1, 0] none none (some ⟨w4.heap.size, 0, none⟩) 0 0 2 _ I4a.out.t ok_A3.sm (I4a.out.env hE'.out) (lit_args w4 15 [1, 0] ⟨by decide, by decide⟩ (by intro x hx; simp at hx; rcases hx with rfl | rfl <;> exact ⟨by decide, by decide⟩) (by decide) (by decide)))
  unfold MakePost at h4
  rw [mk_mul2] at h4
  go_wp2_with fail
  refine h4.out.mono ?_; rintro e w5 ⟨rfl, t5, s5⟩
  have I5 := Lib.hid (I4a.out.step t5 s5)
  clear t5 s5 I4 I4a h4
  have I5a := Lib.hid (I5.out.lit (.cells #[.int .i64 0, .int .i64 0] 3))
  have h5 := Lib.hid (make_any w.heap.size p A3 15 ⟨#[]⟩ noRat [0, 0] none none (some ⟨w5.heap.size, 0, none⟩) 0 0 2 _ I5a.out.t ok_A3.sm (I5a.out.env hE'.out) (lit_args w5 15 [0, 0] ⟨by decide, by decide⟩ (by intro x hx; simp at hx; rcases hx with rfl | rfl <;> exact ⟨by decide, by decide⟩) (by decide) (by decide)))
  unfold MakePost at h5
  rw [mk_xx] at h5
  go_wp2_with fail
  refine h5.out.mono ?_; rintro e w6 ⟨rfl, t6, s6⟩
  have I6 := Lib.hid (I5a.out.step t6 s6)
  clear t6 s6 I5 I5a h5
  have I6a := Lib.hid (I6.out.lit (.cells #[.int .i64 0, .int .i64 0] 3))
  have h6 := Lib.hid (make_any w.heap.size p A3 4 ⟨#[]⟩ noRat [0, 0] none none (some ⟨w6.heap.size, 0, none⟩) 0 0 2 _ I6a.out.t ok_A3.sm (I6a.out.env hE'.out) (lit_args w6 4 [0, 0] ⟨by decide, by decide⟩ (by intro x hx; simp at hx; rcases hx with rfl | rfl <;> exact ⟨by decide, by decide⟩) (by decide) (by decide)))
  unfold MakePost at h6
  rw [mk_and] at h6
  go_wp2_with fail
  refine h6.out.mono ?_; rintro e w7 ⟨rfl, t7, s7⟩
  have I7 := Lib.hid (I6a.out.step t7 s7)
  clear t7 s7 I6 I6a h6
  have I7a := Lib.hid (I7.out.lit (.cells #[.int .i64 0, .int .i64 99] 3))
  have h7 := Lib.hid (make_any w.heap.size p A3 13 ⟨#[]⟩ noRat [0, 99] none none (some ⟨w7.heap.size, 0, none⟩) 0 0 2 _ I7a.out.t ok_A3.sm (I7a.out.env hE'.out) (lit_args w7 13 [0, 99] ⟨by decide, by decide⟩ (by intro x hx; simp at hx; rcases hx with rfl | rfl <;> exact ⟨by decide, by decide⟩) (by decide) (by decide)))
  unfold MakePost at h7
  rw [mk_99] at h7
  go_wp2_with fail
  refine h7.out.mono ?_; rintro e w8 ⟨rfl, t8, s8⟩
  have I8 := Lib.hid (I7a.out.step t8 s8)
  clear t8 s8 I7 I7a h7
  have h8 := Lib.hid (node_any w.heap.size p A3 2 w8 I8.out.t (by decide) ok_A3.sn)
  go_wp2_with fail
  refine h8.out.mono ?_; rintro e w9 ⟨a9, c9, b9, d9, g9, e9, rfl, n9, hb9⟩
  have I9 := Lib.hid (I8.out.all hb9)
  rw [show nodeAt A3 ((2 : Nat) : Int) = nMul from rfl] at n9
  have N9 := Lib.hid n9
  clear n9 hb9 h8 I8
  have hBA : Below w9.heap.size w9 (w9.alloc (.cells #[.int .i64 15, .string ⟨#[]⟩, .bool false, .slice a9 0 c9, .slice b9 0 d9, .slice g9 2 e9, .int .i64 1] 37)) := (Below.refl _ _).alloc (Nat.le_refl _) _
  have IA := Lib.hid (I9.out.lit (.cells #[.int .i64 15, .string ⟨#[]⟩, .bool false, .slice a9 0 c9, .slice b9 0 d9, .slice g9 2 e9, .int .i64 1] 37))
  have FA := Lib.hid (I9.out.free (.cells #[.int .i64 15, .string ⟨#[]⟩, .bool false, .slice a9 0 c9, .slice b9 0 d9, .slice g9 2 e9, .int .i64 1] 37))
  have XA := Lib.hid (heap_alloc_new w9 (.cells #[.int .i64 15, .string ⟨#[]⟩, .bool false, .slice a9 0 c9, .slice b9 0 d9, .slice g9 2 e9, .int .i64 1] 37))
  have RA := Lib.hid (show SlR Rep.int (DatB (w9.alloc (.cells #[.int .i64 15, .string ⟨#[]⟩, .bool false, .slice a9 0 c9, .slice b9 0 d9, .slice g9 2 e9, .int .i64 1] 37))) (w9.alloc (.cells #[.int .i64 15, .string ⟨#[]⟩, .bool false, .slice a9 0 c9, .slice b9 0 d9, .slice g9 2 e9, .int .i64 1] 37)) g9 2 [1, 0] from SlR.datB (N9.out.args.mono fun _ _ hk => hk.1) hBA)
  have h9 := Lib.hid (tsort_any w.heap.size p A3 2 _ IA.out.t)
  rw [sort_mul] at h9
  go_wp2_with fail
  refine h9.out.mono ?_; rintro e wA ⟨rfl, hwA⟩
  rw [hwA] at IA FA XA RA
  have hsA : w9.heap.size < wA.heap.size := (Array.getElem?_eq_some_iff.1 XA.out).1
  clear hwA hBA h9 N9
  have h10 := Lib.hid (fresh_any w.heap.size p A3 2 wA IA.out.t ok_A3.sm (IA.out.env hE'.out) ⟨by decide, by decide⟩)
  unfold FreshPost at h10
  rw [fr_2] at h10
  go_wp2_with fail
  refine h10.out.mono ?_; rintro e w10 ⟨rfl, t10, s10⟩
  have I10 := Lib.hid (IA.out.step t10 s10)
  have R10 := Lib.hid (RA.out.tstep IA.out.t s10)
  have q10 := s10.block w9.heap.size hsA FA.out
  have X10 := Lib.hid (q10.1.trans XA.out)
  have F10 := Lib.hid q10.2
  have h11 := Lib.hid (fresh_any w.heap.size p A4 9 w10 t10 ok_A4.sm (I10.out.env hE'.out) ⟨by decide, by decide⟩)
  unfold FreshPost at h11
  rw [fr_9] at h11
  clear t10 s10 q10 h10 IA FA XA RA
  go_wp2_with fail
  refine h11.out.mono ?_; rintro e w11 ⟨rfl, t11, s11⟩
  have I11 := Lib.hid (I10.out.step t11 s11)
  have R11 := Lib.hid (R10.out.tstep I10.out.t s11)
  have x11 := (s11.block w9.heap.size (Array.getElem?_eq_some_iff.1 X10.out).1 F10.out).1.trans X10.out
  have k0 : w11.cell? ⟨w9.heap.size, 0, none⟩ = some (.int .i64 15) := cell_p x11 0
  have k5 : w11.cell? ⟨w9.heap.size, 5, none⟩ = some (.slice g9 2 e9) := cell_p x11 5
  have hW : Below w11.heap.size w11 (w11.alloc (.cells #[.int .i64 1, .int .i64 0] 3)) := (Below.refl _ _).alloc (Nat.le_refl _) _
  have hi1 := Lib.hid (ints_any g9 (some ⟨w11.heap.size, 0, none⟩) 2 2 e9 2 [1, 0] [1, 0] _ (R11.out.toI.below hW (Nat.le_refl _)) (RdI.lit [1, 0] 3 w11 (by simp)) (by decide))
  rw [show sameI [1, 0] [1, 0] = true from by decide] at hi1
  have I12 := Lib.hid (I11.out.all hW)
  clear t11 s11 x11 hW h11 X10 F10 R10 I10
  go_wp2_with fail
  refine hi1.out.mono ?_; rintro e w12 ⟨rfl, q12, hw12⟩
  have I13 := Lib.hid (show St w p A4 w12 from by rw [hw12]; exact I12.out.all ((Below.refl _ _).drewN q12))
  have hva := Lib.hid (vars_any w.heap.size p A4 2 w12 I13.out.t ok_A4 ⟨by decide, by decide⟩)
  rw [vars_mul] at hva
  clear hw12 I12 hi1
  go_wp2_with fail
  refine hva.out.mono ?_; rintro e w13 ⟨a13, c13, rfl, r13, b13⟩
  have I14 := Lib.hid (I13.out.all b13)
  have hW : Below w13.heap.size w13 (w13.alloc (.cells #[.int .i64 0] 3)) := (Below.refl _ _).alloc (Nat.le_refl _) _
  have hi2 := Lib.hid (ints_any a13 (some ⟨w13.heap.size, 0, none⟩) 1 1 c13 1 [0] [0] _ (r13.below hW (Nat.le_refl _)) (RdI.lit [0] 3 w13 (by simp)) (by decide))
  rw [show sameI [0] [0] = true from by decide] at hi2
  have I15 := Lib.hid (I14.out.all hW)
  clear r13 b13 hW hva I13
  go_wp2_with fail
  refine hi2.out.mono ?_; rintro e w14 ⟨rfl, q14, hw14⟩
  have I16 := Lib.hid (show St w p A4 w14 from by rw [hw14]; exact I15.out.all ((Below.refl _ _).drewN q14))
  have hln := Lib.hid (len_any w.heap.size p A4 w14 I16.out.t)
  have hln0 := Lib.hid (len_nil w14)
  rw [show A4.nodes.length = 4 from rfl] at hln
  clear hw14 I15 hi2
  go_wp2_with fail
  refine hln.out.mono ?_; rintro e w15 ⟨rfl, hw15⟩
  subst hw15
  go_wp2_with fail
  refine hln0.out.mono ?_; rintro e w15 ⟨rfl, hw15⟩
  subst hw15
  go_wp2
  go_ret
  exact ⟨rfl, I16.out.b⟩
end Go.Proofs.YtikmkalfdiiahaaGreatDoor
