/-
  Parts of this claim's texts, one behind the other: SA SB SC SD SE SF SG SP RA RB SH SK RC RD RE RF O. No condition.
-/
import Derived.Test.YtikmkalfdiiahaaGreatDoorRows
import Derived.Test.YtikmkalfdiiahaaGreatDoorK1
import Derived.Test.YtikmkalfdiiahaaGreatDoorS
import Derived.Deep.QuietTactic
import Derived.BigQuiet
import Derived.BigRegion
import Derived.ProofKit
import Derived.OpenShut
import Derived.ShutString
import Derived.ChangeOld
import Derived.Deep.Grids
set_option linter.unusedVariables false
set_option linter.unusedSimpArgs false
/-
  sorts: Reserved and may. Condition: the library's table of spaces is as its text lays it.
-/
namespace Go.Proofs.YtikmkalfdiiahaaGreatDoor
open Go.RowKit Go.Sort Go.Lib

def Env (w : World) : Prop := Lib.TabIs Tryz.prog w "strings.asciiSpace" .u8 Lib.asciiSpaceTab
theorem env_glob : Tryz.prog.globalNamed "strings.asciiSpace" = some 0 := by kernel_rfl
theorem Env.same {w w' : World} (h : Env w) (hb : w'.heap[0]? = w.heap[0]?) : Env w' := by
  unfold Env Lib.TabIs World.var? at *
  rw [env_glob] at *
  simp only [Option.bind_some] at *
  rw [hb]; exact h
theorem Env.pos {w : World} (h : Env w) : 0 < w.heap.size := by
  unfold Env Lib.TabIs World.var? at h
  rw [env_glob] at h
  simp only [Option.bind_some] at h
  rcases Nat.eq_zero_or_pos w.heap.size with h0 | h0
  · rw [Array.getElem?_eq_none (by omega)] at h; cases h
  · exact h0
theorem Env.below {B : Nat} {w w' : World} (h : Env w) (hb : Below B w w') (hB : 0 < B) : Env w' := h.same (hb.block 0 hB)
theorem Env.all {w w' : World} (h : Env w) (hb : Below w.heap.size w w') : Env w' := h.below hb h.pos
theorem ret_bool {a b : Bool} (h : a = b) : Ending.returned (.bool a) = .returned (.bool b) := by rw [h]
theorem ret_int {k : IntKind} {a b : Int} (h : a = b) : Ending.returned (.int k a) = .returned (.int k b) := by rw [h]

/-- the words that mean something -/
def resText : List UInt8 := [116, 114, 117, 101, 32, 102, 97, 108, 115, 101, 32, 110, 111, 116, 32, 97, 110, 100, 32, 111, 114, 32, 61, 62, 32, 120, 111, 114, 32, 61, 32, 100, 105, 115, 116, 105, 110, 99, 116, 32, 105, 116, 101, 32, 108, 101, 116, 32, 43, 32, 45, 32, 42, 32, 47, 32, 60, 61, 32, 60, 32, 62, 61, 32, 62, 32, 66, 111, 111, 108, 32, 82, 101, 97, 108, 32, 95, 32, 33, 32, 97, 115, 32, 101, 120, 105, 115, 116, 115, 32, 102, 111, 114, 97, 108, 108, 32, 112, 97, 114]
def resLists : List (List UInt8) := [[116, 114, 117, 101], [102, 97, 108, 115, 101], [110, 111, 116], [97, 110, 100], [111, 114], [61, 62], [120, 111, 114], [61], [100, 105, 115, 116, 105, 110, 99, 116], [105, 116, 101], [108, 101, 116], [43], [45], [42], [47], [60, 61], [60], [62, 61], [62], [66, 111, 111, 108], [82, 101, 97, 108], [95], [33], [97, 115], [101, 120, 105, 115, 116, 115], [102, 111, 114, 97, 108, 108], [112, 97, 114]]
def resWords : List ByteArray := resLists.map fun l => ⟨l.toArray⟩
theorem res_fields : Lib.fields resText = resLists := by decide +kernel
theorem res_ascii : resText.all (fun b => b.toNat < 128) = true := by decide +kernel
theorem fields_res (s : ByteArray) (w : World) (hE : Env w) (hs : s.data.toList = resText) : Calls Tryz.prog 124 #[.string s] w fun e w' => e = .returned (.slice (some ⟨w.heap.size, 0, none⟩) 27 27) ∧ w' = w.alloc (.cells (resWords.map Value.string).toArray 9) := by
  have hsz : s.size < 4294967281 := by
    have h1 : s.size = s.data.toList.length := by simp
    rw [h1, hs]; decide
  refine (Tryz.strings_Fields_laid s w hsz (fun j b hb => ?_) hE).mono fun e w' ⟨h1, h2⟩ => ?_
  · rw [hs] at hb
    have := List.all_eq_true.1 res_ascii b (List.mem_of_getElem? hb)
    simpa using this
  · rw [hs, res_fields] at h1 h2
    refine ⟨h1, h2.trans ?_⟩
    unfold resWords
    rw [List.map_map]
    rfl
def resB (s : ByteArray) : Bool := Lib.containsS resWords s
set_option maxRecDepth 100000 in
set_option maxHeartbeats 400000 in
theorem reserved_any (s : ByteArray) (w : World) (hE : Env w) : Calls Tryz.prog 91 #[.string s] w fun e w' => e = .returned (.bool (resB s)) ∧ Below w.heap.size w w' := by
  have hE' := Lib.hid hE
  have hl : resWords.length = 27 := by decide
  have hl' := Lib.hid hl
  have hd := @Lib.hid (resB s = Lib.containsS (resWords.take 27) s) (by unfold resB; rw [← hl, List.take_length])
  clear hE hl
  go_enter Tryz.func91, Tryz.ntmps91
  go_wp2_with fail
  refine (fields_res _ w hE'.out (by kernel_rfl)).mono ?_; rintro e w' ⟨rfl, rfl⟩
  go_wp2_with fail
  refine (Tryz.slices_Contains_string w.heap.size 0 27 27 resWords s _ (by rw [hl'.out]; omega) (by omega) (fun j hj => ?_)).mono ?_
  · rw [World.cell?_alloc_new]
    simp [List.getD, hj]
  rintro e w' ⟨rfl, rfl⟩
  rw [← hd.out]
  go_wp2
  go_ret
  exact ⟨rfl, (Below.refl _ _).alloc (Nat.le_refl _) _⟩
/-- may a name be declared? -/
def mayB (s : ByteArray) : Bool := !s.toList.isEmpty && (decide (s.size ≤ 200) && !resB s)
set_option maxHeartbeats 400000 in
theorem may_any (s : ByteArray) (w : World) (hE : Env w) : Calls Tryz.prog 58 #[.string s] w fun e w' => e = .returned (.bool (mayB s)) ∧ Below w.heap.size w w' := by
  have hd := @Lib.hid (mayB s = (!s.toList.isEmpty && (decide (s.size ≤ 200) && !resB s))) rfl
  have hr := Lib.hid (reserved_any s w hE)
  clear hE
  cases h0 : s.toList.isEmpty
  case true =>
    have hv := @Lib.hid (false = mayB s) (by rw [hd.out, h0]; rfl)
    have e1 : s.toList = [] := by simpa using h0
    clear h0
    go_enter Tryz.func58, Tryz.ntmps58
    go_wp2
    go_ret
    exact ⟨ret_bool hv.out, Below.refl _ _⟩
  case false =>
    by_cases h2 : s.size ≤ 200
    · have hv := @Lib.hid (mayB s = !resB s) (by rw [hd.out, h0]; simp [h2])
      have e2 : (!s.toList.isEmpty) = true := by rw [h0]; rfl
      have h2i : (s.size : Int) ≤ 200 := by omega
      go_enter Tryz.func58, Tryz.ntmps58
      go_wp2_with fail
      refine hr.out.mono ?_; rintro e w1 ⟨rfl, hb⟩
      have hb' := Lib.hid hb
      clear hb
      go_wp2
      go_ret
      exact ⟨ret_bool hv.out.symm, hb'.out⟩
    · have hv := @Lib.hid (false = mayB s) (by rw [hd.out, h0]; simp [h2])
      have e2 : (!s.toList.isEmpty) = true := by rw [h0]; rfl
      have h2' : decide (s.size ≤ 200) = false := by simpa using h2
      go_enter Tryz.func58, Tryz.ntmps58
      go_wp2
      go_ret
      exact ⟨ret_bool hv.out, Below.refl _ _⟩
end Go.Proofs.YtikmkalfdiiahaaGreatDoor

/-
  sorts: what a table in memory holds ('TabIs'), and how it stands behind a store into one of its fields. No condition.
-/
namespace Go.Proofs.YtikmkalfdiiahaaGreatDoor
open Go.RowKit Go.Sort Go.Lib

structure FunD where
  name : ByteArray
  args : List Int
  res : Int
def repF : Rep FunD := Rep.map (fun f => (f.name, f.args, f.res)) (.prod .str (.prod (.slice .int) .int))
def repM : Rep (Nat × Nat) := Rep.map (fun m => ((m.1 : Int), (m.2 : Int))) (.prod .int .int)
theorem repF_k : repF.k = 3 := rfl
theorem repM_k : repM.k = 2 := rfl
theorem repS_k : Rep.str.k = 1 := rfl
def okI (x : Int) : Prop := -9223372036854775808 ≤ x ∧ x ≤ 9223372036854775807
theorem repF_rd {S : Nat → Prop} {w : World} {f : FunD} {cs : List Value} : repF.rd S w f cs ↔ ∃ a n c, cs = [.string f.name, .slice a n c, .int .i64 f.res] ∧ n ≤ c ∧ c ≤ maxLen ∧ SlR Rep.int S w a n f.args ∧ okI f.res := by
  constructor
  · rintro ⟨c, d, rfl, h1, c', d', rfl, ⟨a, n, cc, h2, h3, h4, h5⟩, h6, h7⟩
    have h1' : c = [.string f.name] := h1
    have h6' : d' = [.int .i64 f.res] := h6
    subst h1' h2 h6'
    exact ⟨a, n, cc, rfl, h3, h4, h5, h7⟩
  · rintro ⟨a, n, c, rfl, h3, h4, h5, h6⟩
    exact ⟨[.string f.name], _, rfl, rfl, [.slice a n c], _, rfl, ⟨a, n, c, rfl, h3, h4, h5⟩, rfl, h6⟩
theorem repM_rd {S : Nat → Prop} {w : World} {m : Nat × Nat} {cs : List Value} : repM.rd S w m cs ↔ cs = [.int .i64 m.1, .int .i64 m.2] ∧ okI m.1 ∧ okI m.2 := by
  constructor
  · rintro ⟨c, d, rfl, ⟨h1, h2⟩, h3, h4⟩
    have h1' : c = [.int .i64 m.1] := h1
    have h3' : d = [.int .i64 m.2] := h3
    subst h1' h3'
    exact ⟨rfl, h2, h4⟩
  · rintro ⟨rfl, h1, h2⟩
    exact ⟨[.int .i64 m.1], [.int .i64 m.2], rfl, ⟨rfl, h1⟩, rfl, h2⟩

/-- a block of ints -/
def IntX (X : Nat → Prop) (w : World) (k : Nat) : Prop := ¬ X k ∧ ∃ cs f, w.heap[k]? = some (.cells cs 3 f)
abbrev IntB := IntX fun _ => False
theorem IntX.lt {X : Nat → Prop} {w : World} {k : Nat} (h : IntX X w k) : k < w.heap.size := by obtain ⟨_, cs, f, h⟩ := h; exact (Array.getElem?_eq_some_iff.1 h).1

structure TabD where
  sorts : List ByteArray
  funs : List FunD
  marks : List (Nat × Nat)
structure TabX (X : Nat → Prop) (B p : Nat) (T : TabD) (w : World) : Prop where
  bp : B ≤ p
  xlt : ∀ k, X k → k < w.heap.size
  blk : ∃ v1 v2 v3, w.heap[p]? = some (.cells #[v1, v2, v3] 107 (0, 0)) ∧ OwnR Rep.str (fun _ => False) w B 9 v1 T.sorts ∧ OwnR repF (IntX X w) w B 75 v2 T.funs ∧ OwnR repM (fun _ => False) w B 257 v3 T.marks
abbrev TabIs := TabX fun _ => False
section
variable {X : Nat → Prop} {B p : Nat} {T : TabD} {w w' W : World}
theorem TabX.plt (h : TabX X B p T w) : p < w.heap.size := by obtain ⟨v1, v2, v3, hb, _⟩ := h.blk; exact (Array.getElem?_eq_some_iff.1 hb).1
theorem own3 {t : TypeId} {f : Nat × Nat} {v1 v2 v3 : Value} (hb : w.heap[p]? = some (.cells #[v1, v2, v3] t f)) {k : Nat} : ownOf w p k ↔ k = p ∨ v1.ownBlock = some k ∨ v2.ownBlock = some k ∨ v3.ownBlock = some k := by
  unfold ownOf
  constructor
  · rintro (h | ⟨cs, t', f', h, v, hv, hk⟩)
    · exact .inl h
    · rw [hb] at h
      cases h
      simp at hv
      rcases hv with rfl | rfl | rfl
      · exact .inr (.inl hk)
      · exact .inr (.inr (.inl hk))
      · exact .inr (.inr (.inr hk))
  · rintro (h | h | h | h)
    · exact .inl h
    · exact .inr ⟨_, _, _, hb, v1, by simp, h⟩
    · exact .inr ⟨_, _, _, hb, v2, by simp, h⟩
    · exact .inr ⟨_, _, _, hb, v3, by simp, h⟩
theorem TabX.ownB (h : TabX X B p T w) {k : Nat} (hk : ownOf w p k) : B ≤ k ∧ k < w.heap.size := by
  obtain ⟨v1, v2, v3, hb, h1, h2, h3⟩ := h.blk
  rcases (own3 hb).1 hk with rfl | hk | hk | hk
  · exact ⟨h.bp, h.plt⟩
  · exact h1.lt k hk
  · exact h2.lt k hk
  · exact h3.lt k hk
theorem ty_ne {k : Nat} {t t' : TypeId} (hne : t ≠ t') (h : ∃ cs f, w.heap[k]? = some (.cells cs t f)) (h' : ∃ cs f, w.heap[k]? = some (.cells cs t' f)) : False := by
  obtain ⟨cs, f, h⟩ := h
  obtain ⟨cs', f', h'⟩ := h'
  rw [h] at h'
  injection h' with h'
  injection h' with _ h'
  exact hne h'
theorem TabX.ownI (h : TabX X B p T w) {k : Nat} (hk : ownOf w p k) : ¬ IntX X w k := fun hi => by
  obtain ⟨v1, v2, v3, hb, h1, h2, h3⟩ := h.blk
  rcases (own3 hb).1 hk with rfl | hk | hk | hk
  · exact ty_ne (by decide) ⟨_, _, hb⟩ hi.2
  · exact ty_ne (by decide) (h1.ty k hk) hi.2
  · exact ty_ne (by decide) (h2.ty k hk) hi.2
  · exact ty_ne (by decide) (h3.ty k hk) hi.2
theorem IntX.same {k : Nat} (h : IntX X w k) (hb : w'.heap[k]? = w.heap[k]?) : IntX X w' k := by obtain ⟨hx, cs, f, h⟩ := h; exact ⟨hx, cs, f, hb.trans h⟩
theorem OwnR.keepI {v : Value} {fs : List FunD} (h : OwnR repF (IntX X w) w B 75 v fs) (hi : ∀ k, IntX X w k → w'.heap[k]? = w.heap[k]?) (hv : ∀ k, v.ownBlock = some k → w'.heap[k]? = w.heap[k]?) (hs : w.heap.size ≤ w'.heap.size) : OwnR repF (IntX X w') w' B 75 v fs :=
  (h.keep (fun b _ hb => hi b hb) hv hs).mono fun b _ hb => hb.same (hi b hb)
theorem TabX.keep (h : TabX X B p T w) (hk : ∀ k, ownOf w p k → w'.heap[k]? = w.heap[k]?) (hi : ∀ k, IntX X w k → w'.heap[k]? = w.heap[k]?) (hs : w.heap.size ≤ w'.heap.size) : TabX X B p T w' := by
  obtain ⟨v1, v2, v3, hb, h1, h2, h3⟩ := h.blk
  refine ⟨h.bp, fun k hx => Nat.lt_of_lt_of_le (h.xlt k hx) hs, v1, v2, v3, (hk p (.inl rfl)).trans hb, h1.keep (fun _ _ h => h.elim) (fun k e => hk k ((own3 hb).2 (.inr (.inl e)))) hs, h2.keepI hi (fun k e => hk k ((own3 hb).2 (.inr (.inr (.inl e))))) hs, h3.keep (fun _ _ h => h.elim) (fun k e => hk k ((own3 hb).2 (.inr (.inr (.inr e))))) hs⟩
theorem TabX.all (h : TabX X B p T w) (hb : Below w.heap.size w w') : TabX X B p T w' := h.keep (fun k hk => hb.block k (h.ownB hk).2) (fun k hk => hb.block k hk.lt) hb.size
theorem TabX.drewN (h : TabX X B p T w) (n : Nat) : TabX X B p T (w.drewN n) := h.all ((Below.refl _ _).drewN n)
theorem TabX.stepBelow (h : TabX X B p T w) (hs : PStep p w w') : Below B w w' := hs.below (Nat.le_trans h.bp (Nat.le_of_lt h.plt)) fun _ hk => (h.ownB hk).1
end

/-! ### a store into a field -/
section
variable {w W : World} {p i : Nat} {cs : Array Value} {t : TypeId} {v v' : Value}
theorem setField (hb : w.heap[p]? = some (.cells cs t (0, 0))) (hi : cs[i]? = some v) (hg : w.grownBy W v.ownBlock) (hp : v.ownBlock ≠ some p) (hloc : v'.ownBlock = v.ownBlock ∨ ∀ k, v'.ownBlock = some k → w.heap.size ≤ k) :
    PStep p w (W.setCell ⟨p, i, none⟩ v') ∧ (W.setCell ⟨p, i, none⟩ v').heap[p]? = some (.cells (cs.setIfInBounds i v') t (0, 0)) ∧ ∀ k, k ≠ p → (W.setCell ⟨p, i, none⟩ v').heap[k]? = W.heap[k]? := by
  have hlt := (Array.getElem?_eq_some_iff.1 hb).1
  have hbW : W.heap[p]? = some (.cells cs t (0, 0)) := (hg.block p hlt (Ne.symm hp)).trans hb
  have h1 : (W.setCell ⟨p, i, none⟩ v').heap[p]? = some (.cells (cs.setIfInBounds i v') t (0, 0)) := by
    unfold World.setCell
    rw [Array.getElem?_modify, if_pos rfl, hbW]
    rfl
  have h2 : ∀ k, k ≠ p → (W.setCell ⟨p, i, none⟩ v').heap[k]? = W.heap[k]? := fun k hk => Below.heap_setCell _ _ _ _ (fun e => hk e)
  have hil : i < cs.size := (Array.getElem?_eq_some_iff.1 hi).1
  refine ⟨⟨hg.os, hg.tape, hg.output, by simpa [World.setCell] using hg.size, fun k hk hn => ?_⟩, h1, h2⟩
  have hkp : k ≠ p := fun e => hn (.inl e)
  have hkv : v.ownBlock ≠ some k := fun e => hn (.inr ⟨_, _, _, hb, v, by rw [Array.mem_iff_getElem?]; exact ⟨i, hi⟩, e⟩)
  refine ⟨(h2 k hkp).trans (hg.block k hk (Ne.symm hkv)), ?_⟩
  rintro (e | ⟨cs', t', f', e, u, hu, hk2⟩)
  · exact hkp e
  · rw [h1] at e
    cases e
    rw [Array.mem_iff_getElem?] at hu
    obtain ⟨j, hj⟩ := hu
    rw [Array.getElem?_setIfInBounds] at hj
    by_cases hij : i = j
    · subst hij
      rw [if_pos rfl, if_pos hil] at hj
      cases hj
      rcases hloc with e | e
      · exact hkv (by rw [← e]; exact hk2)
      · have := e k hk2; omega
    · rw [if_neg hij] at hj
      exact hn (.inr ⟨_, _, _, hb, u, by rw [Array.mem_iff_getElem?]; exact ⟨j, hj⟩, hk2⟩)
end
section
variable {X : Nat → Prop} {B p : Nat} {T : TabD} {w W : World} {v1 v2 v3 v' : Value}
theorem own_ty_ne {α β : Type} {R : Rep α} {Q : Rep β} {S S' : Nat → Prop} {e e' : TypeId} {v v' : Value} {xs : List α} {ys : List β} {B B' : Nat} (h : OwnR R S w B e v xs) (h' : OwnR Q S' w B' e' v' ys) (hne : e ≠ e') {k : Nat} (hk : v.ownBlock = some k) : v'.ownBlock ≠ some k :=
  fun e2 => ty_ne hne (h.ty k hk) (h'.ty k e2)
theorem TabX.setSorts (h : TabX X B p T w) (hb : w.heap[p]? = some (.cells #[v1, v2, v3] 107 (0, 0))) (hg : w.grownBy W v1.ownBlock) (hloc : v'.ownBlock = v1.ownBlock ∨ ∀ k, v'.ownBlock = some k → w.heap.size ≤ k) {l : List ByteArray} (ho : OwnR Rep.str (fun _ => False) W B 9 v' l) :
    TabX X B p { T with sorts := l } (W.setCell ⟨p, 0, none⟩ v') ∧ PStep p w (W.setCell ⟨p, 0, none⟩ v') := by
  obtain ⟨u1, u2, u3, hb', h1, h2, h3⟩ := h.blk
  rw [hb] at hb'
  cases hb'
  have hp1 : v1.ownBlock ≠ some p := fun e => ty_ne (by decide) (h1.ty p e) ⟨_, _, hb⟩
  have hp2 : v2.ownBlock ≠ some p := fun e => ty_ne (by decide) (h2.ty p e) ⟨_, _, hb⟩
  have hp3 : v3.ownBlock ≠ some p := fun e => ty_ne (by decide) (h3.ty p e) ⟨_, _, hb⟩
  obtain ⟨s1, s2, s3⟩ := setField (v' := v') hb (i := 0) rfl hg hp1 hloc
  have hpW : W.heap[p]? = w.heap[p]? := hg.block p h.plt (Ne.symm hp1)
  have hp' : v'.ownBlock ≠ some p := fun e => ty_ne (by decide) (ho.ty p e) ⟨_, _, hpW.trans hb⟩
  have hsz : (W.setCell ⟨p, 0, none⟩ v').heap.size = W.heap.size := by simp [World.setCell]
  refine ⟨⟨h.bp, fun k hx => Nat.lt_of_lt_of_le (h.xlt k hx) (Nat.le_trans hg.size (Nat.le_of_eq hsz.symm)), v', v2, v3, s2, ho.keep (fun _ _ h => h.elim) (fun k hk => s3 k fun e => hp' (by rw [← e]; exact hk)) (Nat.le_of_eq hsz.symm), h2.keepI (fun k hk => ?_) (fun k hk => ?_) (by rw [hsz]; exact hg.size), h3.keep (fun _ _ h => h.elim) (fun k hk => ?_) (by rw [hsz]; exact hg.size)⟩, s1⟩
  · rw [s3 k fun e => by subst e; exact ty_ne (by decide) ⟨_, _, hb⟩ hk.2]
    exact hg.block k hk.lt fun e => ty_ne (by decide) (h1.ty k e.symm) hk.2
  · rw [s3 k fun e => hp2 (by rw [← e]; exact hk)]
    exact hg.block k (h2.lt k hk).2 fun e => own_ty_ne h2 h1 (by decide) hk e.symm
  · rw [s3 k fun e => hp3 (by rw [← e]; exact hk)]
    exact hg.block k (h3.lt k hk).2 fun e => own_ty_ne h3 h1 (by decide) hk e.symm
theorem TabX.setFuns (h : TabX X B p T w) (hb : w.heap[p]? = some (.cells #[v1, v2, v3] 107 (0, 0))) (hg : w.grownBy W v2.ownBlock) (hloc : v'.ownBlock = v2.ownBlock ∨ ∀ k, v'.ownBlock = some k → w.heap.size ≤ k) {l : List FunD} (ho : OwnR repF (IntX X W) W B 75 v' l) :
    TabX X B p { T with funs := l } (W.setCell ⟨p, 1, none⟩ v') ∧ PStep p w (W.setCell ⟨p, 1, none⟩ v') := by
  obtain ⟨u1, u2, u3, hb', h1, h2, h3⟩ := h.blk
  rw [hb] at hb'
  cases hb'
  have hp1 : v1.ownBlock ≠ some p := fun e => ty_ne (by decide) (h1.ty p e) ⟨_, _, hb⟩
  have hp2 : v2.ownBlock ≠ some p := fun e => ty_ne (by decide) (h2.ty p e) ⟨_, _, hb⟩
  have hp3 : v3.ownBlock ≠ some p := fun e => ty_ne (by decide) (h3.ty p e) ⟨_, _, hb⟩
  obtain ⟨s1, s2, s3⟩ := setField (v' := v') hb (i := 1) rfl hg hp2 hloc
  have hpW : W.heap[p]? = w.heap[p]? := hg.block p h.plt (Ne.symm hp2)
  have hp' : v'.ownBlock ≠ some p := fun e => ty_ne (by decide) (ho.ty p e) ⟨_, _, hpW.trans hb⟩
  have hsz : (W.setCell ⟨p, 1, none⟩ v').heap.size = W.heap.size := by simp [World.setCell]
  refine ⟨⟨h.bp, fun k hx => Nat.lt_of_lt_of_le (h.xlt k hx) (Nat.le_trans hg.size (Nat.le_of_eq hsz.symm)), v1, v', v3, s2, h1.keep (fun _ _ h => h.elim) (fun k hk => ?_) (by rw [hsz]; exact hg.size), ho.keepI (fun k hk => s3 k fun e => ?_) (fun k hk => s3 k fun e => hp' (by rw [← e]; exact hk)) (Nat.le_of_eq hsz.symm), h3.keep (fun _ _ h => h.elim) (fun k hk => ?_) (by rw [hsz]; exact hg.size)⟩, s1⟩
  · rw [s3 k fun e => hp1 (by rw [← e]; exact hk)]
    exact hg.block k (h1.lt k hk).2 fun e => own_ty_ne h1 h2 (by decide) hk e.symm
  · subst e; exact ty_ne (by decide) ⟨_, _, hpW.trans hb⟩ hk.2
  · rw [s3 k fun e => hp3 (by rw [← e]; exact hk)]
    exact hg.block k (h3.lt k hk).2 fun e => own_ty_ne h3 h2 (by decide) hk e.symm
theorem TabX.setMarks (h : TabX X B p T w) (hb : w.heap[p]? = some (.cells #[v1, v2, v3] 107 (0, 0))) (hg : w.grownBy W v3.ownBlock) (hloc : v'.ownBlock = v3.ownBlock ∨ ∀ k, v'.ownBlock = some k → w.heap.size ≤ k) {l : List (Nat × Nat)} (ho : OwnR repM (fun _ => False) W B 257 v' l) :
    TabX X B p { T with marks := l } (W.setCell ⟨p, 2, none⟩ v') ∧ PStep p w (W.setCell ⟨p, 2, none⟩ v') := by
  obtain ⟨u1, u2, u3, hb', h1, h2, h3⟩ := h.blk
  rw [hb] at hb'
  cases hb'
  have hp1 : v1.ownBlock ≠ some p := fun e => ty_ne (by decide) (h1.ty p e) ⟨_, _, hb⟩
  have hp2 : v2.ownBlock ≠ some p := fun e => ty_ne (by decide) (h2.ty p e) ⟨_, _, hb⟩
  have hp3 : v3.ownBlock ≠ some p := fun e => ty_ne (by decide) (h3.ty p e) ⟨_, _, hb⟩
  obtain ⟨s1, s2, s3⟩ := setField (v' := v') hb (i := 2) rfl hg hp3 hloc
  have hpW : W.heap[p]? = w.heap[p]? := hg.block p h.plt (Ne.symm hp3)
  have hp' : v'.ownBlock ≠ some p := fun e => ty_ne (by decide) (ho.ty p e) ⟨_, _, hpW.trans hb⟩
  have hsz : (W.setCell ⟨p, 2, none⟩ v').heap.size = W.heap.size := by simp [World.setCell]
  refine ⟨⟨h.bp, fun k hx => Nat.lt_of_lt_of_le (h.xlt k hx) (Nat.le_trans hg.size (Nat.le_of_eq hsz.symm)), v1, v2, v', s2, h1.keep (fun _ _ h => h.elim) (fun k hk => ?_) (by rw [hsz]; exact hg.size), h2.keepI (fun k hk => ?_) (fun k hk => ?_) (by rw [hsz]; exact hg.size), ho.keep (fun _ _ h => h.elim) (fun k hk => s3 k fun e => hp' (by rw [← e]; exact hk)) (Nat.le_of_eq hsz.symm)⟩, s1⟩
  · rw [s3 k fun e => hp1 (by rw [← e]; exact hk)]
    exact hg.block k (h1.lt k hk).2 fun e => own_ty_ne h1 h3 (by decide) hk e.symm
  · rw [s3 k fun e => by subst e; exact ty_ne (by decide) ⟨_, _, hb⟩ hk.2]
    exact hg.block k hk.lt fun e => ty_ne (by decide) (h3.ty k e.symm) hk.2
  · rw [s3 k fun e => hp2 (by rw [← e]; exact hk)]
    exact hg.block k (h2.lt k hk).2 fun e => own_ty_ne h2 h3 (by decide) hk e.symm
end
end Go.Proofs.YtikmkalfdiiahaaGreatDoor

/-
  sorts: New, Levels, Is, Sort, FindSort, Name. Conditions: a table in memory of fewer than 2^40 entries; the library's table of spaces is as its text lays it.
-/
namespace Go.Proofs.YtikmkalfdiiahaaGreatDoor
open Go.RowKit Go.Sort Go.Lib
variable {X : Nat → Prop}

theorem info_int : (Tryz.prog.info? 3).map (fun i => (i.zero, i.size, i.bytes)) = some (some (.int .i64 0), 1, 8) := by kernel_rfl
theorem info_str : (Tryz.prog.info? 9).map (fun i => (i.zero, i.size, i.bytes)) = some (some (.string ByteArray.empty), 1, 16) := by kernel_rfl
theorem info_fun : (Tryz.prog.info? 75).map (fun i => (i.zero, i.size, i.bytes)) = some (some (.agg #[.string ByteArray.empty, .slice none 0 0, .int .i64 0]), 3, 48) := by kernel_rfl
theorem info_mark : (Tryz.prog.info? 257).map (fun i => (i.zero, i.size, i.bytes)) = some (some (.agg #[.int .i64 0, .int .i64 0]), 2, 16) := by kernel_rfl
theorem cell_p {w : World} {p : Nat} {cs : Array Value} {t : TypeId} {f : Nat × Nat} (hb : w.heap[p]? = some (.cells cs t f)) (j : Nat) : w.cell? ⟨p, j, none⟩ = cs[j]? := by simp [World.cell?, hb]
theorem frz_p {w : World} {p : Nat} {cs : Array Value} {t : TypeId} (hb : w.heap[p]? = some (.cells cs t (0, 0))) (j : Nat) : w.frozen? ⟨p, j, none⟩ = false := by simp [World.frozen?, hb]
theorem grown_alloc {w W : World} {o : Obj} {row : Option Nat} (h : (w.alloc o).grownBy W row) : w.grownBy W row :=
  ⟨h.os, h.tape, h.output, Nat.le_trans (by simp) h.size, fun k hk hne => (h.block k (by simp; omega) hne).trans (Below.heap_alloc w o k hk)⟩

/-- slices of strings -/
theorem SlR.strs {S : Nat → Prop} {w : World} {a : Option Addr} {n : Nat} {zs : List ByteArray} (h : SlR Rep.str S w a n zs) (hn : 0 < n) : ∃ b o, a = some ⟨b, o, none⟩ ∧ ∀ j, j < zs.length → w.cell? ⟨b, o + j, none⟩ = some (.string (zs.getD j ByteArray.empty)) := by
  obtain ⟨b, o, ha, _, _, hc⟩ := h.2 hn
  refine ⟨b, o, ha, fun j hj => ?_⟩
  obtain ⟨cs, h1, h2⟩ := hc j _ (List.getElem?_eq_getElem hj)
  have h3 := h2 0 (.string zs[j]) (by rw [show cs = [.string zs[j]] from h1]; rfl)
  rw [repS_k] at h3
  simpa [List.getD, hj] using h3
theorem containsS_any {S : Nat → Prop} (a : Option Addr) (n c : Nat) (zs : List ByteArray) (x : ByteArray) (w : World) (h : SlR Rep.str S w a n zs) (hn : n ≤ 9223372036854775807) :
    Calls Tryz.prog 59 #[.slice a n c, .string x] w fun e w' => e = .returned (.bool (Lib.containsS zs x)) ∧ w = w' := by
  rcases Nat.eq_zero_or_pos n with h0 | h0
  · subst h0
    have hz : zs = [] := List.eq_nil_of_length_eq_zero h.1
    subst hz
    exact (Tryz.slices_Contains_string_empty a c x w).mono fun e w' ⟨h1, h2⟩ => ⟨h1, h2.symm⟩
  · obtain ⟨b, o, rfl, hc⟩ := h.strs h0
    refine (Tryz.slices_Contains_string b o n c zs x w (Nat.le_of_eq h.1.symm) hn hc).mono fun e w' ⟨h1, h2⟩ => ⟨?_, h2.symm⟩
    rw [← h.1, List.take_length] at h1
    exact h1
theorem indexS_any {S : Nat → Prop} (a : Option Addr) (n c : Nat) (zs : List ByteArray) (x : ByteArray) (w : World) (h : SlR Rep.str S w a n zs) (hn : n ≤ 9223372036854775807) :
    Calls Tryz.prog 92 #[.slice a n c, .string x] w fun e w' => e = .returned (.int .i64 (Lib.idxOfS zs x)) ∧ w = w' := by
  rcases Nat.eq_zero_or_pos n with h0 | h0
  · subst h0
    have hz : zs = [] := List.eq_nil_of_length_eq_zero h.1
    subst hz
    exact (Tryz.slices_Index_string_empty a c x w).mono fun e w' ⟨h1, h2⟩ => ⟨h1, h2.symm⟩
  · obtain ⟨b, o, rfl, hc⟩ := h.strs h0
    refine (Tryz.slices_Index_string b o n c zs x w (Nat.le_of_eq h.1.symm) hn hc).mono fun e w' ⟨h1, h2⟩ => ⟨?_, h2.symm⟩
    rw [← h.1, List.take_length] at h1
    exact h1

set_option maxHeartbeats 400000 in
theorem tnew_any (w : World) : Calls Tryz.prog 27 #[] w fun e w' => ∃ p, e = .returned (.pointer (some ⟨p, 0, none⟩)) ∧ TabIs w.heap.size p ⟨[], [], []⟩ w' ∧ Below w.heap.size w w' := by
  go_enter Tryz.func27, Tryz.ntmps27
  go_wp2
  go_ret
  exact ⟨w.heap.size, rfl, ⟨Nat.le_refl _, fun _ h => h.elim, _, _, _, heap_alloc_new w _, OwnR.nil _ _ _ _ _, OwnR.nil _ _ _ _ _, OwnR.nil _ _ _ _ _⟩, (Below.refl _ _).alloc (Nat.le_refl _) _⟩
/-- what a table's three slices look like -/
theorem TabX.look {B p : Nat} {T : TabD} {w : World} (h : TabX X B p T w) : ∃ a1 c1 a2 c2 a3 c3, w.heap[p]? = some (.cells #[.slice a1 T.sorts.length c1, .slice a2 T.funs.length c2, .slice a3 T.marks.length c3] 107 (0, 0)) ∧
    OwnR Rep.str (fun _ => False) w B 9 (.slice a1 T.sorts.length c1) T.sorts ∧ OwnR repF (IntX X w) w B 75 (.slice a2 T.funs.length c2) T.funs ∧ OwnR repM (fun _ => False) w B 257 (.slice a3 T.marks.length c3) T.marks := by
  obtain ⟨v1, v2, v3, hb, h1, h2, h3⟩ := h.blk
  obtain ⟨a1, c1, rfl, _⟩ := h1.slice
  obtain ⟨a2, c2, rfl, _⟩ := h2.slice
  obtain ⟨a3, c3, rfl, _⟩ := h3.slice
  exact ⟨a1, c1, a2, c2, a3, c3, hb, h1, h2, h3⟩

def isB (n : Nat) (s : Int) : Bool := decide (0 ≤ s) && decide (s < 2 + n)
set_option maxHeartbeats 400000 in
theorem is_any (B p : Nat) (T : TabD) (s : Int) (w : World) (h : TabX X B p T w) (hl : T.sorts.length < 1099511627776) : Calls Tryz.prog 52 #[.pointer (some ⟨p, 0, none⟩), .int .i64 s] w fun e w' => e = .returned (.bool (isB T.sorts.length s)) ∧ w = w' := by
  obtain ⟨a1, c1, a2, c2, a3, c3, hb, _⟩ := h.look
  have k0 : w.cell? ⟨p, 0, none⟩ = some (.slice a1 T.sorts.length c1) := cell_p hb 0
  have hd := @Lib.hid (isB T.sorts.length s = (decide (0 ≤ s) && decide (s < 2 + (T.sorts.length : Int)))) rfl
  clear hb h
  generalize T.sorts.length = n at *
  by_cases h1 : 0 ≤ s
  · have hv := @Lib.hid (isB n s = decide (s < 2 + (n : Int))) (by rw [hd.out]; simp [h1])
    go_enter Tryz.func52, Tryz.ntmps52
    go_wp2
    go_ret
    exact ⟨ret_bool hv.out.symm, rfl⟩
  · have hv := @Lib.hid (false = isB n s) (by rw [hd.out]; simp [h1])
    have h1' : decide (0 ≤ s) = false := by simpa using h1
    go_enter Tryz.func52, Tryz.ntmps52
    go_wp2
    go_ret
    exact ⟨ret_bool hv.out, rfl⟩

def badSort (T : TabD) (s : ByteArray) : Bool := !mayB s || Lib.containsS T.sorts s
def SortPost (X : Nat → Prop) (B p : Nat) (T : TabD) (s : ByteArray) (w : World) (e : Ending) (w' : World) : Prop :=
  (if badSort T s then e = .returned (.tuple #[.int .i64 0, .int .i64 1]) ∧ TabX X B p T w' else e = .returned (.tuple #[.int .i64 ((T.sorts.length : Int) + 2), .int .i64 0]) ∧ TabX X B p { T with sorts := T.sorts ++ [s] } w') ∧ PStep p w w'
set_option maxRecDepth 100000 in
set_option maxHeartbeats 1000000 in
theorem sort_any (B p : Nat) (T : TabD) (s : ByteArray) (w : World) (h : TabX X B p T w) (hE : Env w) (hl : T.sorts.length < 1099511627776) : Calls Tryz.prog 28 #[.pointer (some ⟨p, 0, none⟩), .string s] w fun e w' => SortPost X B p T s w e w' := by
  have h' := Lib.hid h
  have hm := Lib.hid (may_any s w hE)
  have hd := @Lib.hid (badSort T s = (!mayB s || Lib.containsS T.sorts s)) rfl
  clear h hE
  cases hmay : mayB s
  case false =>
    have hv := @Lib.hid (badSort T s = true) (by rw [hd.out, hmay]; rfl)
    rw [hmay] at hm
    clear hmay
    go_enter Tryz.func28, Tryz.ntmps28
    go_wp2_with fail
    refine hm.out.mono ?_; rintro e w1 ⟨rfl, hb⟩
    have hb' := Lib.hid hb
    clear hb
    go_wp2
    go_ret2
    unfold SortPost
    rw [if_pos hv.out]
    exact ⟨⟨rfl, h'.out.all hb'.out⟩, .of_below h'.out.plt hb'.out⟩
  rw [hmay] at hm
  obtain ⟨i0, hi, hz0, hz1, hz2⟩ := info_parts info_str
  go_enter Tryz.func28, Tryz.ntmps28
  go_wp2_with fail
  refine hm.out.mono ?_; rintro e w1 ⟨rfl, hb⟩
  have hb' := Lib.hid hb
  have H1 := Lib.hid (h'.out.all hb)
  obtain ⟨a1, c1, a2, c2, a3, c3, hblk, o1, _⟩ := H1.out.look
  have k0 : w1.cell? ⟨p, 0, none⟩ = some (.slice a1 T.sorts.length c1) := cell_p hblk 0
  have f0 : w1.frozen? ⟨p, 0, none⟩ = false := frz_p hblk 0
  have hrd := o1.read (S' := fun _ => True) (fun _ _ _ => trivial) (fun _ _ => trivial)
  have hct := Lib.hid (containsS_any a1 T.sorts.length c1 T.sorts s w1 hrd (by omega))
  have hblk' := Lib.hid hblk
  obtain ⟨css, oc, ol, oe⟩ := o1
  have oc' := Lib.hid oc
  have ol' := Lib.hid ol
  have oe' := Lib.hid oe
  have hp1 := Lib.hid (show Value.ownBlock (.slice a1 T.sorts.length c1) ≠ some p from fun e => ty_ne (by decide) (oc.ty p e) ⟨_, _, hblk⟩)
  have hplt := H1.out.plt
  have hBs := Nat.le_trans H1.out.bp (Nat.le_of_lt hplt)
  clear hb hblk hrd oc ol oe
  cases hcs : Lib.containsS T.sorts s
  case true =>
    have hv := @Lib.hid (badSort T s = true) (by rw [hd.out, hmay, hcs]; rfl)
    rw [hcs] at hct
    clear hmay hcs
    go_wp2_with fail
    refine hct.out.mono ?_; rintro e w' ⟨rfl, rfl⟩
    go_wp2
    go_ret2
    unfold SortPost
    rw [if_pos hv.out]
    exact ⟨⟨rfl, H1.out⟩, .of_below h'.out.plt hb'.out⟩
  case false =>
    have hv := @Lib.hid (badSort T s = false) (by rw [hd.out, hmay, hcs]; rfl)
    rw [hcs] at hct
    clear hmay hcs
    have hnl : T.sorts.length < 1099511627776 := hl
    go_wp2_with fail
    refine hct.out.mono ?_; rintro e w' ⟨rfl, rfl⟩
    go_wp2_with (at_builtin; refine wpList_append_C rfl (.tmp 25) (.tmp 27) rfl Tryz.underlying47 hi hz0 hz1 hz2 rfl (by decide) rfl rfl (oc'.out.alloc _) (Src.one (b := w1.heap.size) (news := [.string s]) rfl ?c1) ?c2 ?c3 ?c4 ?c5 ?_)
    case c1 => intro j u hu; rw [World.cell?_alloc_new]; simpa using hu
    case c2 => intro u hu; simp at hu; subst hu; rfl
    case c3 => unfold maxLen; omega
    case c4 => omega
    case c5 => simp; omega
    intro v' w2 ho2 hg2 hl2
    have hg2' := Lib.hid (grown_alloc hg2)
    have hl2' := Lib.hid (show v'.ownBlock = Value.ownBlock (.slice a1 T.sorts.length c1) ∨ ∀ k, v'.ownBlock = some k → w1.heap.size ≤ k from hl2.imp id (fun hh k hk => Nat.le_of_succ_le (hh k hk)))
    have ho2' := Lib.hid (OwnR.push (R := Rep.str) (S := fun _ => False) (x := s) ol'.out oe'.out (show Rep.str.rd (fun _ => False) w1 s [.string s] from rfl) ho2 (fun _ _ h => h.elim) (grown_alloc hg2).size)
    obtain ⟨a', c', rfl, _⟩ := ho2.slice
    have k2 : w2.cell? ⟨p, 0, none⟩ = some (.slice a1 T.sorts.length c1) := by
      rw [World.cell?_of_block (w := w1) (a := ⟨p, 0, none⟩) (hg2'.out.block p hplt (Ne.symm hp1.out))]; exact k0
    have f2 : w2.frozen? ⟨p, 0, none⟩ = false := by
      rw [World.frozen?_of_block (w := w1) (a := ⟨p, 0, none⟩) (hg2'.out.block p hplt (Ne.symm hp1.out))]; exact f0
    clear ho2 hg2 hl2
    go_wp2
    go_ret2
    unfold SortPost
    rw [if_neg (by rw [hv.out]; decide)]
    obtain ⟨t1, s1⟩ := H1.out.setSorts hblk'.out hg2'.out hl2'.out ho2'.out
    refine ⟨⟨?_, t1⟩, (PStep.of_below h'.out.plt hb'.out).trans s1⟩
    have : (2 : Int) + ((T.sorts.length : Int) + 1) - 1 = (T.sorts.length : Int) + 2 := by omega
    simp
    omega
end Go.Proofs.YtikmkalfdiiahaaGreatDoor

/-
  sorts: own, Find (with its closure and slices.IndexFunc), MayFun. Conditions: a table in memory of fewer than 2^40 functions, each of fewer than 2^40 sorts.
-/
namespace Go.Proofs.YtikmkalfdiiahaaGreatDoor
open Go.RowKit Go.Sort Go.Lib
variable {X : Nat → Prop}

theorem heap2a (w : World) (a b : Obj) : ((w.alloc a).alloc b).heap[w.heap.size]? = some a := (Below.heap_alloc _ _ _ (by simp)).trans (heap_alloc_new w a)
theorem heap2b (w : World) (a b : Obj) : ((w.alloc a).alloc b).heap[w.heap.size + 1]? = some b := by
  have := heap_alloc_new (w.alloc a) b
  rwa [World.size_alloc] at this
def WfI (xs : List Int) : Prop := ∀ x ∈ xs, -9223372036854775808 ≤ x ∧ x ≤ 9223372036854775807
theorem clone_any (a : Option Addr) (n c : Nat) (xs : List Int) (w : World) (hx : RdI w a n xs) (hn : n < 17592186044416) :
    Calls Tryz.prog 78 #[.slice a n c] w fun e w' => ∃ a' c', e = .returned (.slice a' n c') ∧ w'.ownsRow w.heap.size 3 1 (.slice a' n c') n (xs.map (Value.int .i64)) ∧ Below w.heap.size w w' := by
  by_cases h0 : 0 < n
  · obtain ⟨b, o, rfl, _, hc⟩ := hx.cells h0
    refine (Tryz.slices_Clone_int b o n c xs w (by rw [hx.len]; exact Nat.le_refl _) (by omega) (fun j hj => hc j (by rw [← hx.len]; exact hj))).mono ?_
    rintro e w' ⟨v', he, ho, _, hb⟩
    rw [show xs.take n = xs by rw [← hx.len, List.take_length]] at ho
    obtain ⟨a', c', rfl, _⟩ := (OwnC.of ho).slice
    exact ⟨a', c', he, ho, hb⟩
  · obtain rfl : n = 0 := by omega
    have : xs = [] := List.eq_nil_of_length_eq_zero hx.len
    subst this
    cases a with
    | none =>
      refine (Tryz.slices_Clone_int_nil 0 c w).mono ?_
      rintro e w' ⟨he, rfl⟩
      exact ⟨none, 0, he, World.ownsRow_nil _ _ _ _, Below.refl _ _⟩
    | some a =>
      refine (Tryz.slices_Clone_int_zero a c w).mono ?_
      rintro e w' ⟨v', he, ho, _, hb⟩
      obtain ⟨a', c', rfl, _⟩ := (OwnC.of ho).slice
      exact ⟨a', c', he, ho, hb⟩
theorem own_intB {w : World} {base n : Nat} {a : Option Addr} {m c : Nat} {xs : List Int} (h : w.ownsRow base 3 1 (.slice a m c) n (xs.map (Value.int .i64))) (hwf : WfI xs) (hX : ∀ k, X k → k < base) : m = n ∧ SlR Rep.int (IntX X w) w a n xs ∧ m ≤ c ∧ c ≤ maxLen := by
  obtain ⟨h1, h2, _⟩ := RdI.own h hwf
  obtain ⟨a', c', hv, h4, h5⟩ := (OwnC.of h).slice
  cases hv
  refine ⟨h1, SlR.ofI h2 fun x hn hx => ?_, h4, h5⟩
  subst hx
  exact ⟨fun hxx => by have := hX _ hxx; have := ((OwnC.of h).lt _ rfl).1; omega, (OwnC.of h).ty _ rfl⟩
theorem intB_set {w : World} {p : Addr} {v : Value} {k : Nat} : IntX X (w.setCell p v) k ↔ IntX X w k := by
  refine and_congr_right fun _ => ?_
  unfold World.setCell
  rw [Array.getElem?_modify]
  by_cases h : p.block = k
  · subst h
    rw [if_pos rfl]
    cases hh : w.heap[p.block]? with
    | none => simp
    | some o =>
      cases o with
      | cells cs e f =>
        simp only [Option.map_some]
        split <;> simp_all
      | _ => simp only [Option.map_some]
  · rw [if_neg h]
theorem SlR.intSet {w : World} {p : Addr} {v : Value} {a : Option Addr} {n : Nat} {xs : List Int} (h : SlR Rep.int (IntX X w) w a n xs) (hp : ¬ IntX X w p.block) : SlR Rep.int (IntX X (w.setCell p v)) (w.setCell p v) a n xs :=
  (h.keep (fun b _ hb => Below.heap_setCell w p v b (fun e => hp (by rw [← e]; exact hb))) (by simp [World.setCell])).mono fun b _ hb => intB_set.2 hb
/-- a function's value, cell for cell -/
abbrev funV (nm : ByteArray) (a : Option Addr) (n c : Nat) (r : Int) : Value := .agg #[.string nm, .slice a n c, .int .i64 r]
def OwnPost (X : Nat → Prop) (nm : ByteArray) (xs : List Int) (r : Int) (w : World) (e : Ending) (w' : World) : Prop :=
  ∃ a c, e = .returned (funV nm a xs.length c r) ∧ SlR Rep.int (IntX X w') w' a xs.length xs ∧ xs.length ≤ c ∧ c ≤ maxLen ∧ Below w.heap.size w w'
set_option maxHeartbeats 400000 in
theorem ownF_any (nm : ByteArray) (a : Option Addr) (n c : Nat) (r : Int) (xs : List Int) (w : World) (hx : RdI w a n xs) (hn : n < 17592186044416) (hX : ∀ k, X k → k < w.heap.size) :
    Calls Tryz.prog 63 #[funV nm a n c r] w fun e w' => OwnPost X nm xs r w e w' := by
  have hx' := Lib.hid hx
  have lx := Lib.hid hx.len
  have wx := Lib.hid (show WfI xs from hx.wf)
  clear hx
  go_enter Tryz.func63, Tryz.ntmps63
  go_wp2_with fail
  have hb0 : Below w.heap.size w ((w.alloc (.cells #[.string nm, .slice a n c, .int .i64 r] 75)).alloc (.cells #[.string ByteArray.empty, .slice none 0 0, .int .i64 0] 75)) := ((Below.refl _ _).alloc (Nat.le_refl _) _).alloc (by simp) _
  have hb0' := Lib.hid hb0
  refine (clone_any a n c xs _ (hx'.out.below hb0 (Nat.le_refl _)) hn).mono ?_
  rintro e w1 ⟨a', c', rfl, ho, hb1⟩
  obtain ⟨_, hs, hc1, hc2⟩ := own_intB (X := X) ho wx.out (fun k hk => by have := hX k hk; simp; omega)
  have hs' := Lib.hid hs
  have hb1' := Lib.hid hb1
  have hc1' := Lib.hid hc1
  have hc2' := Lib.hid hc2
  have hz := hb1.size
  simp only [World.size_alloc] at hz
  have H1 := (hb1.block w.heap.size (by simp; omega)).trans (heap2a w _ _)
  have H2 := (hb1.block (w.heap.size + 1) (by simp)).trans (heap2b w _ _)
  have k10 : w1.cell? ⟨w.heap.size, 0, none⟩ = some (.string nm) := cell_p H1 0
  have k11 : w1.cell? ⟨w.heap.size, 1, none⟩ = some (.slice a n c) := cell_p H1 1
  have k12 : w1.cell? ⟨w.heap.size, 2, none⟩ = some (.int .i64 r) := cell_p H1 2
  have k20 : w1.cell? ⟨w.heap.size + 1, 0, none⟩ = some (.string ByteArray.empty) := cell_p H2 0
  have k21 : w1.cell? ⟨w.heap.size + 1, 1, none⟩ = some (.slice none 0 0) := cell_p H2 1
  have k22 : w1.cell? ⟨w.heap.size + 1, 2, none⟩ = some (.int .i64 0) := cell_p H2 2
  have f11 := frz_p H1 1
  have f20 := frz_p H2 0
  have f21 := frz_p H2 1
  have f22 := frz_p H2 2
  have hN1 := Lib.hid (show ¬ IntX X w1 w.heap.size from fun h => ty_ne (by decide) h.2 ⟨_, _, H1⟩)
  have hN2 := Lib.hid (show ¬ IntX X w1 (w.heap.size + 1) from fun h => ty_ne (by decide) h.2 ⟨_, _, H2⟩)
  clear ho hb1 hs hc1 hc2 hb0 H1 H2
  go_wp2
  refine bodyPost_ret (v := funV nm a' n c' r) (by simp [results, Tryz.results63, go_sem, *]) rfl ?_
  refine ⟨a', c', by rw [lx.out], ?_, by rw [lx.out]; exact hc1'.out, hc2'.out, ?_⟩
  · rw [lx.out]
    exact (((hs'.out.intSet hN1.out).intSet (fun h => hN2.out (intB_set.1 h))).intSet (fun h => hN2.out (intB_set.1 (intB_set.1 h)))).intSet (fun h => hN2.out (intB_set.1 (intB_set.1 (intB_set.1 h))))
  · have b1 : Below w.heap.size w w1 := hb0'.out.trans (hb1'.out.mono (by simp; omega))
    exact (((b1.setCell (Nat.le_refl _) _).setCell (by simp) _).setCell (by simp) _).setCell (by simp) _

def eqS (a b : ByteArray) : Bool := a.toList == b.toList
set_option maxHeartbeats 400000 in
/-- the closure of Find: is it this name? -/
theorem isName_any (nm s : ByteArray) (a : Option Addr) (n c x : Nat) (r : Int) (w : World) (hx : w.cell? ⟨x, 0, none⟩ = some (.string s)) :
    Calls Tryz.prog 126 #[funV nm a n c r, .pointer (some ⟨x, 0, none⟩)] w fun e w' => e = .returned (.bool (eqS nm s)) ∧ Below w.heap.size w w' := by
  have hd := @Lib.hid (eqS nm s = (nm.toList == s.toList)) rfl
  have hlt := World.block_lt_of_cell? w _ hx
  go_enter Tryz.func126, Tryz.ntmps126
  go_wp2
  go_ret
  exact ⟨ret_bool hd.out.symm, (Below.refl _ _).alloc (Nat.le_refl _) _⟩
def idxP {α : Type} (p : α → Bool) : List α → Nat → Int
  | [], _ => -1
  | x :: xs, i => if p x then i else idxP p xs (i + 1)
theorem idxP_skip {α : Type} {p : α → Bool} : ∀ {xs : List α} {k i : Nat}, (∀ j x, j < k → xs[j]? = some x → p x = false) → k ≤ xs.length → idxP p xs i = idxP p (xs.drop k) (i + k)
  | xs, 0, i, _, _ => by simp
  | [], k + 1, i, _, hk => by simp at hk
  | x :: xs, k + 1, i, h, hk => by
    have h0 := h 0 x (by omega) rfl
    rw [List.drop_succ_cons, ← Nat.add_assoc, Nat.add_right_comm, ← idxP_skip (xs := xs) (k := k) (i := i + 1) (fun j y hj hy => h (j + 1) y (by omega) (by simpa using hy)) (by simpa using hk)]
    show (if p x = true then (i : Int) else idxP p xs (i + 1)) = _
    rw [h0]; rfl
theorem idxP_hit {α : Type} {p : α → Bool} {xs : List α} {k : Nat} {x : α} (h : ∀ j x, j < k → xs[j]? = some x → p x = false) (hk : xs[k]? = some x) (hx : p x = true) : idxP p xs 0 = k := by
  have hl := (List.getElem?_eq_some_iff.1 hk).1
  rw [idxP_skip h (by omega), Nat.zero_add, List.drop_eq_getElem_cons hl]
  have : xs[k] = x := (List.getElem?_eq_some_iff.1 hk).2
  unfold idxP
  rw [this, if_pos hx]
theorem idxP_miss {α : Type} {p : α → Bool} {xs : List α} (h : ∀ j x, j < xs.length → xs[j]? = some x → p x = false) : idxP p xs 0 = -1 := by
  rw [idxP_skip h (Nat.le_refl _), List.drop_length]; rfl
theorem idxP_find {α : Type} {p : α → Bool} : ∀ (xs : List α) (i : Nat), match xs.find? p with
    | none => idxP p xs i = -1
    | some x => ∃ k : Nat, idxP p xs i = ((i + k : Nat) : Int) ∧ xs[k]? = some x
  | [], i => rfl
  | x :: xs, i => by
    rw [List.find?_cons]
    cases hx : p x with
    | true => exact ⟨0, by unfold idxP; rw [if_pos hx]; rfl, rfl⟩
    | false =>
      have := idxP_find (p := p) xs (i + 1)
      have e : idxP p (x :: xs) i = idxP p xs (i + 1) := by show (if p x = true then _ else _) = _; rw [hx]; rfl
      cases hf : xs.find? p with
      | none => rw [hf] at this; dsimp only at this ⊢; rw [e]; exact this
      | some y =>
        rw [hf] at this
        obtain ⟨k, h1, h2⟩ := this
        exact ⟨k + 1, by rw [e, h1]; congr 1; omega, by simpa using h2⟩
/-- the cells of a function in a slice of them -/
theorem SlR.funAt {S : Nat → Prop} {w : World} {a : Option Addr} {n : Nat} {fs : List FunD} (h : SlR repF S w a n fs) {k : Nat} {f : FunD} (hf : fs[k]? = some f) :
    ∃ b o a' c', a = some ⟨b, o, none⟩ ∧ w.cell? ⟨b, o + k * 3, none⟩ = some (.string f.name) ∧ w.cell? ⟨b, o + k * 3 + 1, none⟩ = some (.slice a' f.args.length c') ∧ w.cell? ⟨b, o + k * 3 + 2, none⟩ = some (.int .i64 f.res) ∧ SlR Rep.int S w a' f.args.length f.args ∧ okI f.res ∧ f.args.length ≤ c' ∧ c' ≤ maxLen := by
  obtain ⟨b, o, cs, ha, _, hr, hc⟩ := h.at hf
  obtain ⟨a', n', c', rfl, h1, h2, h3, h4⟩ := repF_rd.1 hr
  obtain rfl : n' = f.args.length := h3.1.symm
  rw [repF_k] at hc
  exact ⟨b, o, a', c', ha, hc 0 _ rfl, hc 1 _ rfl, hc 2 _ rfl, h3, h4, h1, h2⟩
set_option maxHeartbeats 1000000 in
theorem indexFunc_any {S : Nat → Prop} (a : Option Addr) (n c x : Nat) (fs : List FunD) (s : ByteArray) (w : World) (h : SlR repF S w a n fs) (hn : n < 1099511627776) (hx : w.cell? ⟨x, 0, none⟩ = some (.string s)) :
    Calls Tryz.prog 125 #[.slice a n c, .func (.func 126) #[] #[.pointer (some ⟨x, 0, none⟩)]] w fun e w' =>
      e = .returned (.int .i64 (idxP (fun f : FunD => eqS f.name s) fs 0)) ∧ Below w.heap.size w w' := by
  have h' := Lib.hid h
  have lx := Lib.hid h.1
  have hx' := Lib.hid hx
  have hlt := World.block_lt_of_cell? w _ hx
  clear h hx
  go_enter Tryz.func125, Tryz.ntmps125
  go_wp2
  go_loopw [4, 5, 8] (fun _ _ i wr => ∃ k : Nat, k ≤ n ∧ i = .int .i64 k ∧ Hid (∀ j f, j < k → fs[j]? = some f → eqS f.name s = false) ∧ Hid (Below w.heap.size w wr)) (fun _ _ i _ => n - (intOf i).toNat)
  case atStart => exact ⟨0, Nat.zero_le _, rfl, fun j f hj => absurd hj (Nat.not_lt_zero _), Below.refl _ _⟩
  case round =>
    obtain ⟨k, hk, rfl, hne, hB⟩ := hrel
    by_cases hlt2 : k < n
    · have hkx : k < fs.length := by rw [lx.out]; exact hlt2
      have hf := List.getElem?_eq_getElem hkx
      obtain ⟨b, o, a', c', rfl, k0, k1, k2, _⟩ := (h'.out.below hB.out (Nat.le_refl _)).funAt hf
      have hxr : wr.cell? ⟨x, 0, none⟩ = some (.string s) := by rw [hB.out.cell (p := ⟨x, 0, none⟩) hlt]; exact hx'.out
      have hcl := Lib.hid (isName_any fs[k].name s a' fs[k].args.length c' x fs[k].res wr hxr)
      have hf' := Lib.hid hf
      clear hf hxr
      cases he : eqS fs[k].name s
      case true =>
        have hv := Lib.hid (idxP_hit (p := fun f : FunD => eqS f.name s) (fun j f hj hf => hne.out j f hj hf) hf'.out he)
        rw [he] at hcl
        generalize fs[k] = f at *
        clear he
        go_wp2_with fail
        refine hcl.out.mono ?_; rintro e w1 ⟨rfl, hb⟩
        have hb' := Lib.hid (hB.out.trans (hb.mono hB.out.size))
        clear hb
        go_wp2
        go_ret
        exact ⟨ret_int hv.out.symm, hb'.out⟩
      case false =>
        have hs := @Lib.hid (∀ j f, j < k + 1 → fs[j]? = some f → eqS f.name s = false) (fun j f hj hf => by
          by_cases hjk : j < k
          · exact hne.out j f hjk hf
          · obtain rfl : j = k := by omega
            rw [hf'.out] at hf
            cases hf
            exact he)
        rw [he] at hcl
        generalize fs[k] = f at *
        clear he
        go_wp2_with fail
        refine hcl.out.mono ?_; rintro e w1 ⟨rfl, hb⟩
        have hb' := Lib.hid (hB.out.trans (hb.mono hB.out.size))
        clear hb
        go_wp2
        go_roundw
        case rel => exact ⟨k + 1, by omega, by go_num, hs.out, hb'.out⟩
        case measure => simp [intOf]; omega
    · have hv := Lib.hid (idxP_miss (p := fun f : FunD => eqS f.name s) (xs := fs) (fun j f hj hf => hne.out j f (by have := lx.out; omega) hf))
      go_wp2
      go_ret
      exact ⟨ret_int hv.out.symm, hB.out⟩
end Go.Proofs.YtikmkalfdiiahaaGreatDoor

/-
  sorts: Find, MayFun, FindSort, Name. Conditions: a table in memory of fewer than 2^40 entries, each function of fewer than 2^40 sorts.
-/
namespace Go.Proofs.YtikmkalfdiiahaaGreatDoor
open Go.RowKit Go.Sort Go.Lib
variable {X : Nat → Prop}

def findF (T : TabD) (s : ByteArray) : Option FunD := T.funs.find? fun f => eqS f.name s
def noFun : FunD := ⟨ByteArray.empty, [], 0⟩
def lookF (T : TabD) (s : ByteArray) : FunD := (findF T s).getD noFun
/-- sizes of a table -/
structure Small (T : TabD) : Prop where
  s : T.sorts.length < 1099511627776
  f : T.funs.length < 1099511627776
  m : T.marks.length < 1099511627776
  a : ∀ f ∈ T.funs, f.args.length < 1099511627776
/-- a function's value, told behind a call -/
def TellF (X : Nat → Prop) (f : FunD) (ok : Bool) (w : World) (e : Ending) (w' : World) : Prop :=
  ∃ a c, e = .returned (.tuple #[funV f.name a f.args.length c f.res, .bool ok]) ∧ SlR Rep.int (IntX X w') w' a f.args.length f.args ∧ f.args.length ≤ c ∧ c ≤ maxLen ∧ Below w.heap.size w w'
set_option maxRecDepth 100000 in
set_option maxHeartbeats 2000000 in
theorem find_any (B p : Nat) (T : TabD) (s : ByteArray) (w : World) (h : TabX X B p T w) (hs : Small T) :
    Calls Tryz.prog 94 #[.pointer (some ⟨p, 0, none⟩), .string s] w fun e w' => TellF X (lookF T s) (findF T s).isSome w e w' := by
  have h' := Lib.hid h
  have hs' := Lib.hid hs
  have hplt := h.plt
  have hfl := hs.f
  have hd := @Lib.hid (findF T s = T.funs.find? fun f => eqS f.name s) rfl
  have hB0 : Below w.heap.size w ((w.alloc (.cells #[.string s] 9)).alloc (.cells #[.string ByteArray.empty, .slice none 0 0, .int .i64 0] 75)) := ((Below.refl _ _).alloc (Nat.le_refl _) _).alloc (by simp) _
  have hB0' := Lib.hid hB0
  have h2 := h.all hB0
  have hb1 := (Below.heap_alloc _ (.cells #[.string ByteArray.empty, .slice none 0 0, .int .i64 0] 75) _ (by simp)).trans (heap_alloc_new w (.cells #[.string s] 9))
  have hx : ((w.alloc (.cells #[.string s] 9)).alloc (.cells #[.string ByteArray.empty, .slice none 0 0, .int .i64 0] 75)).cell? ⟨w.heap.size, 0, none⟩ = some (.string s) := cell_p hb1 0
  obtain ⟨a1, c1, a2, c2, a3, c3, hblk, _, o2, _⟩ := h2.look
  have k1 := cell_p hblk 1
  simp only [List.getElem?_toArray, List.getElem?_cons_succ, List.getElem?_cons_zero] at k1
  have hrd := o2.read (S' := fun _ => True) (fun _ _ _ => trivial) (fun _ _ => trivial)
  have hrd' := Lib.hid hrd
  have hi := Lib.hid (indexFunc_any a2 T.funs.length c2 w.heap.size T.funs s _ hrd hfl hx)
  have hkw : w.cell? ⟨p, 1, none⟩ = some (.slice a2 T.funs.length c2) := by rw [← hB0.cell (p := ⟨p, 1, none⟩) hplt]; exact k1
  clear h h2 hB0 hb1 hx hblk o2 hrd k1
  have hidx := idxP_find (p := fun f : FunD => eqS f.name s) T.funs 0
  rw [← hd.out] at hidx
  cases hf : findF T s with
  | none =>
    rw [hf] at hidx
    dsimp only at hidx
    rw [hidx] at hi
    have hl := @Lib.hid (lookF T s = noFun) (by unfold lookF; rw [hf]; rfl)
    clear hidx hf hd
    go_enter Tryz.func94, Tryz.ntmps94
    go_wp2_with fail
    refine hi.out.mono ?_; rintro e w1 ⟨rfl, hb⟩
    have hz := hb.size
    simp only [World.size_alloc] at hz
    have H2 := (hb.block (w.heap.size + 1) (by simp)).trans (heap2b w _ _)
    have k20 : w1.cell? ⟨w.heap.size + 1, 0, none⟩ = some (.string ByteArray.empty) := cell_p H2 0
    have k21 : w1.cell? ⟨w.heap.size + 1, 1, none⟩ = some (.slice none 0 0) := cell_p H2 1
    have k22 : w1.cell? ⟨w.heap.size + 1, 2, none⟩ = some (.int .i64 0) := cell_p H2 2
    have f20 := frz_p H2 0
    have f21 := frz_p H2 1
    have f22 := frz_p H2 2
    have hb' := Lib.hid (hB0'.out.trans (hb.mono (by simp; omega)))
    clear hb H2 hi
    go_wp2
    refine bodyPost_ret (v := .tuple #[funV ⟨#[]⟩ none 0 0 0, .bool false]) (by simp [results, Tryz.results94, go_sem, *]) rfl ?_
    refine ⟨none, 0, by rw [hl.out]; rfl, by rw [hl.out]; exact SlR.nil _ _ _ _, by rw [hl.out]; exact Nat.le_refl _, Nat.zero_le _, ?_⟩
    exact ((hb'.out.setCell (by simp) _).setCell (by simp) _).setCell (by simp) _
  | some f =>
    rw [hf] at hidx
    dsimp only at hidx
    obtain ⟨k, hk1, hk2⟩ := hidx
    rw [Nat.zero_add] at hk1
    rw [hk1] at hi
    have hkl := (List.getElem?_eq_some_iff.1 hk2).1
    have hl := @Lib.hid (lookF T s = f) (by unfold lookF; rw [hf]; rfl)
    have hfa := hs'.out.a f (List.mem_of_getElem? hk2)
    have hk2' := Lib.hid hk2
    clear hk1 hf hd hk2
    go_enter Tryz.func94, Tryz.ntmps94
    go_wp2_with fail
    refine hi.out.mono ?_; rintro e w1 ⟨rfl, hb⟩
    have hz := hb.size
    simp only [World.size_alloc] at hz
    have H2 := (hb.block (w.heap.size + 1) (by simp)).trans (heap2b w _ _)
    have H2' := Lib.hid H2
    have hb0 := hB0'.out.trans (hb.mono (by simp; omega))
    have hb' := Lib.hid hb0
    have kp : w1.cell? ⟨p, 1, none⟩ = some (.slice a2 T.funs.length c2) := by rw [hb0.cell (p := ⟨p, 1, none⟩) hplt]; exact hkw
    obtain ⟨b, o, a', c', rfl, q0, q1, q2, q3, _⟩ := (hrd'.out.below hb (Nat.le_refl _)).funAt hk2'.out
    have hown := Lib.hid (ownF_any f.name a' f.args.length c' f.res f.args w1 q3.toI (by omega) (fun k hk => Nat.lt_of_lt_of_le (h'.out.xlt k hk) hb0.size))
    clear hb hi hb0 q3 H2 hkw
    go_wp2_with fail
    refine hown.out.mono ?_
    rintro e w2 ⟨a4, c4, rfl, hs4, hc4, hc5, hb4⟩
    have H3 := (hb4.block (w.heap.size + 1) (by omega)).trans H2'.out
    have k20 : w2.cell? ⟨w.heap.size + 1, 0, none⟩ = some (.string ByteArray.empty) := cell_p H3 0
    have k21 : w2.cell? ⟨w.heap.size + 1, 1, none⟩ = some (.slice none 0 0) := cell_p H3 1
    have k22 : w2.cell? ⟨w.heap.size + 1, 2, none⟩ = some (.int .i64 0) := cell_p H3 2
    have f20 := frz_p H3 0
    have f21 := frz_p H3 1
    have f22 := frz_p H3 2
    have hN := Lib.hid (show ¬ IntX X w2 (w.heap.size + 1) from fun h => ty_ne (by decide) h.2 ⟨_, _, H3⟩)
    have hs4' := Lib.hid hs4
    have hc4' := Lib.hid hc4
    have hc5' := Lib.hid hc5
    have hb4' := Lib.hid (hb'.out.trans (hb4.mono hb'.out.size))
    clear hb4 H3 hs4 hc4 hc5 kp q0 q1 q2 hown
    go_wp2
    refine bodyPost_ret (v := .tuple #[funV f.name a4 f.args.length c4 f.res, .bool true]) (by simp [results, Tryz.results94, go_sem, *]) rfl ?_
    refine ⟨a4, c4, by rw [hl.out]; rfl, by rw [hl.out]; exact ((hs4'.out.intSet hN.out).intSet (fun h => hN.out (intB_set.1 h))).intSet (fun h => hN.out (intB_set.1 (intB_set.1 h))), by rw [hl.out]; exact hc4'.out, hc5'.out, ?_⟩
    exact ((hb4'.out.setCell (by simp) _).setCell (by simp) _).setCell (by simp) _

def mayFunB (T : TabD) (s : ByteArray) : Bool := mayB s && !(findF T s).isSome
set_option maxRecDepth 100000 in
set_option maxHeartbeats 1000000 in
theorem mayFun_any (B p : Nat) (T : TabD) (s : ByteArray) (w : World) (h : TabX X B p T w) (hs : Small T) (hE : Env w) :
    Calls Tryz.prog 62 #[.pointer (some ⟨p, 0, none⟩), .string s] w fun e w' => e = .returned (.bool (mayFunB T s)) ∧ Below w.heap.size w w' := by
  have hc := Lib.hid (find_any B p T s w h hs)
  have hd := @Lib.hid (mayFunB T s = (mayB s && !(findF T s).isSome)) rfl
  have hE' := Lib.hid hE
  generalize lookF T s = f at *
  generalize (findF T s).isSome = ok at *
  clear h hs hE
  go_enter Tryz.func62, Tryz.ntmps62
  go_wp2_with fail
  refine hc.out.mono ?_
  rintro e w1 ⟨a, c, rfl, _, _, _, hb⟩
  have hb' := Lib.hid hb
  have hB1 := hb.trans (((Below.refl w1.heap.size w1).alloc (Nat.le_refl _) (.cells #[.string f.name, .slice a f.args.length c, .int .i64 f.res] 75)).mono hb.size)
  have hE1 := Lib.hid (hE'.out.all hB1)
  have hB1' := Lib.hid hB1
  clear hb hB1
  have hm := Lib.hid (may_any s _ hE1.out)
  cases hmy : mayB s
  case false =>
    have hv := @Lib.hid (false = mayFunB T s) (by rw [hd.out, hmy]; rfl)
    rw [hmy] at hm
    clear hmy
    go_wp2_with fail
    refine hm.out.mono ?_; rintro e w2 ⟨rfl, hb2⟩
    have hb2' := Lib.hid (hB1'.out.trans (hb2.mono hB1'.out.size))
    clear hb2
    go_wp2
    go_ret
    exact ⟨ret_bool hv.out, hb2'.out⟩
  case true =>
    have hv := @Lib.hid ((!ok) = mayFunB T s) (by rw [hd.out, hmy]; rfl)
    rw [hmy] at hm
    clear hmy
    go_wp2_with fail
    refine hm.out.mono ?_; rintro e w2 ⟨rfl, hb2⟩
    have hb2' := Lib.hid (hB1'.out.trans (hb2.mono hB1'.out.size))
    clear hb2
    go_wp2
    go_ret
    exact ⟨ret_bool hv.out, hb2'.out⟩

def findSort (T : TabD) (s : ByteArray) : Int × Bool :=
  if s.toList == [66, 111, 111, 108] then (0, true) else if s.toList == [82, 101, 97, 108] then (1, true) else if Lib.idxOfS T.sorts s < 0 then (0, false) else (2 + Lib.idxOfS T.sorts s, true)
theorem idxFromS_bd (x : ByteArray) : ∀ (zs : List ByteArray) (i : Nat), -1 ≤ Lib.idxFromS zs x i ∧ Lib.idxFromS zs x i < i + zs.length + 1
  | [], i => by unfold Lib.idxFromS; simp; omega
  | z :: zs, i => by
    unfold Lib.idxFromS
    split
    · simp; omega
    · have := idxFromS_bd x zs (i + 1)
      simp at *; omega
def nameOf (T : TabD) (s : Int) : ByteArray × Bool :=
  if !isB T.sorts.length s then (⟨#[]⟩, false) else if s == 0 then (⟨#[66, 111, 111, 108]⟩, true) else if s == 1 then (⟨#[82, 101, 97, 108]⟩, true) else (T.sorts.getD (s.toNat - 2) ByteArray.empty, true)
end Go.Proofs.YtikmkalfdiiahaaGreatDoor

/-
  sorts: Push, Fun, Pop. Conditions: a table in memory of fewer than 2^40 entries, each function of fewer than 2^40 sorts; the library's table of spaces is as its text lays it.
-/
namespace Go.Proofs.YtikmkalfdiiahaaGreatDoor
open Go.RowKit Go.Sort Go.Lib
variable {X : Nat → Prop}

theorem pair_new (x y : Value) (w : World) (e : TypeId) : ∀ j u, [x, y][j]? = some u → (w.alloc (.cells #[x, y] e)).cell? ⟨w.heap.size, j, none⟩ = some u := by
  intro j u hu
  rw [World.cell?_alloc_new]
  simpa using hu
theorem pair_one {x y : Int} : ∀ u ∈ [Value.int .i64 x, .int .i64 y], u.oneCell' = true := by intro u hu; simp at hu; rcases hu with rfl | rfl <;> rfl
theorem loc_alloc {v v' : Value} {w : World} {o : Obj} (h : v'.ownBlock = v.ownBlock ∨ ∀ k, v'.ownBlock = some k → (w.alloc o).heap.size ≤ k) : v'.ownBlock = v.ownBlock ∨ ∀ k, v'.ownBlock = some k → w.heap.size ≤ k :=
  h.imp id fun hh k hk => by have := hh k hk; rw [World.size_alloc] at this; omega
theorem okI_len {n : Nat} (h : n < 1099511627776) : okI n := by unfold okI; omega
theorem cell_grown {w W : World} {row : Option Nat} {p j : Nat} (h : w.grownBy W row) (hp : p < w.heap.size) (hr : row ≠ some p) : W.cell? ⟨p, j, none⟩ = w.cell? ⟨p, j, none⟩ := World.cell?_of_block (a := ⟨p, j, none⟩) (h.block p hp (Ne.symm hr))
theorem frozen_grown {w W : World} {row : Option Nat} {p j : Nat} (h : w.grownBy W row) (hp : p < w.heap.size) (hr : row ≠ some p) : W.frozen? ⟨p, j, none⟩ = w.frozen? ⟨p, j, none⟩ := World.frozen?_of_block (a := ⟨p, j, none⟩) (h.block p hp (Ne.symm hr))
theorem OwnC.drew {w : World} {base : Nat} {e : TypeId} {size n : Nat} {v : Value} {xs : List Value} (h : OwnC w base e size v n xs) : OwnC w.drew base e size v n xs := h
theorem grown_drew {w W : World} {row : Option Nat} (h : w.drew.grownBy W row) : w.grownBy W row := ⟨h.os, h.tape, h.output, h.size, h.block⟩
theorem loc_drew {v v' : Value} {w : World} (h : v'.ownBlock = v.ownBlock ∨ ∀ k, v'.ownBlock = some k → w.drew.heap.size ≤ k) : v'.ownBlock = v.ownBlock ∨ ∀ k, v'.ownBlock = some k → w.heap.size ≤ k := h
def PushPost (X : Nat → Prop) (B p : Nat) (T : TabD) (w : World) (e : Ending) (w' : World) : Prop :=
  e = .returned (.tuple #[]) ∧ TabX X B p { T with marks := T.marks ++ [(T.sorts.length, T.funs.length)] } w' ∧ PStep p w w'
end Go.Proofs.YtikmkalfdiiahaaGreatDoor

/-
  sorts: Fun. Conditions: a table in memory of fewer than 2^40 entries, each function of fewer than 2^40 sorts; the library's table of spaces is as its text lays it.
-/
namespace Go.Proofs.YtikmkalfdiiahaaGreatDoor
open Go.RowKit Go.Sort Go.Lib
variable {X : Nat → Prop}

def argBad (n : Nat) (s : Int) : Bool := s == 0 || !isB n s
def errFun (T : TabD) (f : FunD) : Int :=
  if !mayFunB T f.name then 1 else if decide (64 < f.args.length) then 1 else if !isB T.sorts.length f.res then 1 else if f.args.any (argBad T.sorts.length) then 1 else if decide (1000 ≤ T.funs.length) then 4 else 0
def addFun (T : TabD) (f : FunD) : TabD := if errFun T f = 0 then { T with funs := T.funs ++ [f] } else T
def FunPost (X : Nat → Prop) (B p : Nat) (T : TabD) (f : FunD) (w : World) (e : Ending) (w' : World) : Prop :=
  e = .returned (.int .i64 (errFun T f)) ∧ TabX X B p (addFun T f) w' ∧ PStep p w w'
theorem FunPost.no {B p : Nat} {T : TabD} {f : FunD} {w w' : World} {z : Int} (h : TabX X B p T w) (hb : Below w.heap.size w w') (hz : errFun T f = z) (h0 : z ≠ 0) : FunPost X B p T f w (.returned (.int .i64 z)) w' := by
  refine ⟨by rw [hz], ?_, .of_below h.plt hb⟩
  unfold addFun
  rw [hz, if_neg h0]
  exact h.all hb
theorem OwnR.allI {B : Nat} {w w' : World} {v : Value} {fs : List FunD} (h : OwnR repF (IntX X w) w B 75 v fs) (hb : Below w.heap.size w w') : OwnR repF (IntX X w') w' B 75 v fs :=
  h.keepI (fun k hk => hb.block k hk.lt) (fun k hk => hb.block k (h.lt k hk).2) hb.size
theorem below_drewl {B : Nat} {w w' : World} (h : Below B w.drew w') : Below B w w' := ⟨h.os, h.tape, h.output, h.size, h.block⟩
theorem triple_new (x y z : Value) (w : World) (e : TypeId) : ∀ j u, [x, y, z][j]? = some u → (w.alloc (.cells #[x, y, z] e)).cell? ⟨w.heap.size, j, none⟩ = some u := by
  intro j u hu
  rw [World.cell?_alloc_new]
  simpa using hu
theorem triple_one {s : ByteArray} {a : Option Addr} {n c : Nat} {y : Int} : ∀ u ∈ [Value.string s, .slice a n c, .int .i64 y], u.oneCell' = true := by intro u hu; simp at hu; rcases hu with rfl | rfl | rfl <;> rfl
theorem any_take_no {xs : List Int} {p : Int → Bool} (h : ∀ j, j < xs.length → p (nth xs j) = false) : xs.any p = false := by
  rw [List.any_eq_false]
  intro x hx
  obtain ⟨j, hj, rfl⟩ := List.getElem_of_mem hx
  have := h j hj
  rw [nth_eq hj] at this
  simp [this]
theorem any_at {xs : List Int} {p : Int → Bool} {j : Nat} (hj : j < xs.length) (h : p (nth xs j) = true) : xs.any p = true := List.any_eq_true.2 ⟨_, nth_mem hj, h⟩
set_option maxRecDepth 100000 in
set_option maxHeartbeats 4000000 in
theorem fun_any (B p : Nat) (T : TabD) (f : FunD) (a : Option Addr) (c : Nat) (w : World) (h : TabX X B p T w) (hs : Small T) (hE : Env w) (hx : RdI w a f.args.length f.args) (hn : f.args.length < 1099511627776) :
    Calls Tryz.prog 31 #[.pointer (some ⟨p, 0, none⟩), funV f.name a f.args.length c f.res] w fun e w' => FunPost X B p T f w e w' := by
  have h' := Lib.hid h
  have hs' := Lib.hid hs
  have hx' := Lib.hid hx
  have hd := @Lib.hid (errFun T f = if !mayFunB T f.name then 1 else if decide (64 < f.args.length) then 1 else if !isB T.sorts.length f.res then 1 else if f.args.any (argBad T.sorts.length) then 1 else if decide (1000 ≤ T.funs.length) then 4 else 0) rfl
  have hB0 : Below w.heap.size w (w.alloc (.cells #[.string f.name, .slice a f.args.length c, .int .i64 f.res] 75)) := (Below.refl _ _).alloc (Nat.le_refl _) _
  have hB0' := Lib.hid hB0
  have hm := Lib.hid (mayFun_any B p T f.name _ (h.all hB0) hs (hE.all hB0))
  have hplt := h.plt
  have hsl := hs.s
  have hfl := hs.f
  clear h hs hx hE hB0
  obtain ⟨nm, args, r⟩ := f
  dsimp only at *
  cases hmy : mayFunB T nm
  case false =>
    have hv := @Lib.hid (errFun T ⟨nm, args, r⟩ = 1) (by rw [hd.out, hmy]; rfl)
    rw [hmy] at hm
    clear hmy
    go_enter Tryz.func31, Tryz.ntmps31
    go_wp2_with fail
    refine hm.out.mono ?_; rintro e w1 ⟨rfl, hb⟩
    have hb' := Lib.hid (hB0'.out.trans (hb.mono (by simp)))
    clear hb
    go_wp2
    go_ret
    exact FunPost.no h'.out hb'.out hv.out (by decide)
  case true =>
  rw [hmy] at hm
  by_cases h64 : 64 < args.length
  · have hv := @Lib.hid (errFun T ⟨nm, args, r⟩ = 1) (by rw [hd.out, hmy]; simp [h64])
    have h64i : (64 : Int) < args.length := by omega
    clear hmy
    go_enter Tryz.func31, Tryz.ntmps31
    go_wp2_with fail
    refine hm.out.mono ?_; rintro e w1 ⟨rfl, hb⟩
    have hz := hb.size
    simp only [World.size_alloc] at hz
    have H1 := (hb.block w.heap.size (by simp)).trans (heap_alloc_new w _)
    have k0 := cell_p H1 0
    have k1 : w1.cell? ⟨w.heap.size, 1, none⟩ = some (.slice a args.length c) := cell_p H1 1
    have hb' := Lib.hid (hB0'.out.trans (hb.mono (by simp)))
    clear hb H1 k0
    go_wp2
    go_ret
    exact FunPost.no h'.out hb'.out hv.out (by decide)
  cases hir : isB T.sorts.length r
  case false =>
    have hv := @Lib.hid (errFun T ⟨nm, args, r⟩ = 1) (by rw [hd.out, hmy, hir]; simp)
    clear hmy
    go_enter Tryz.func31, Tryz.ntmps31
    go_wp2_with fail
    refine hm.out.mono ?_; rintro e w1 ⟨rfl, hb⟩
    have hz := hb.size
    simp only [World.size_alloc] at hz
    have H1 := (hb.block w.heap.size (by simp)).trans (heap_alloc_new w _)
    have k1 : w1.cell? ⟨w.heap.size, 1, none⟩ = some (.slice a args.length c) := cell_p H1 1
    have k2 : w1.cell? ⟨w.heap.size, 2, none⟩ = some (.int .i64 r) := cell_p H1 2
    have hb' := Lib.hid (hB0'.out.trans (hb.mono (by simp)))
    have his := Lib.hid (is_any B p T r w1 (h'.out.all hb'.out) hsl)
    rw [hir] at his
    clear hb H1 hir
    go_wp2_with fail
    refine his.out.mono ?_; rintro e w' ⟨rfl, rfl⟩
    go_wp2
    go_ret
    exact FunPost.no h'.out hb'.out hv.out (by decide)
  case true =>
  have hd2 := @Lib.hid (errFun T ⟨nm, args, r⟩ = if args.any (argBad T.sorts.length) then 1 else if decide (1000 ≤ T.funs.length) then 4 else 0) (by rw [hd.out, hmy, hir]; simp [h64])
  have hrb : okI r := by unfold isB at hir; simp at hir; unfold okI; omega
  have hrb' := Lib.hid hrb
  clear hmy hd hrb
  obtain ⟨i0, hi, hz0, hz1, hz2⟩ := info_parts info_fun
  go_enter Tryz.func31, Tryz.ntmps31
  go_wp2_with fail
  refine hm.out.mono ?_; rintro e w1 ⟨rfl, hb⟩
  have hz := hb.size
  simp only [World.size_alloc] at hz
  have H1 := (hb.block w.heap.size (by simp)).trans (heap_alloc_new w _)
  have k0 : w1.cell? ⟨w.heap.size, 0, none⟩ = some (.string nm) := cell_p H1 0
  have k1 : w1.cell? ⟨w.heap.size, 1, none⟩ = some (.slice a args.length c) := cell_p H1 1
  have k2 : w1.cell? ⟨w.heap.size, 2, none⟩ = some (.int .i64 r) := cell_p H1 2
  have hb' := Lib.hid (hB0'.out.trans (hb.mono (by simp)))
  have t1 := h'.out.all hb'.out
  have T1 := Lib.hid t1
  have his := Lib.hid (is_any B p T r w1 t1 hsl)
  rw [hir] at his
  have hia := Lib.hid (fun s => is_any B p T s w1 T1.out hsl)
  obtain ⟨a1, c1, a2, c2, a3, c3, hblk, o1, o2, o3⟩ := t1.look
  have q1 : w1.cell? ⟨p, 1, none⟩ = some (.slice a2 T.funs.length c2) := cell_p hblk 1
  have g1 : w1.frozen? ⟨p, 1, none⟩ = false := frz_p hblk 1
  have hblk' := Lib.hid hblk
  have O2 := Lib.hid o2
  have X1 := Lib.hid (hx'.out.below hb'.out (Nat.le_refl _))
  have hp2 := Lib.hid (show Value.ownBlock (.slice a2 T.funs.length c2) ≠ some p from fun e => ty_ne (by decide) (o2.ty p e) ⟨_, _, hblk⟩)
  clear hb H1 hir t1 hblk o1 o2 o3 hm hB0'
  go_wp2_with fail
  refine his.out.mono ?_; rintro e w' ⟨rfl, rfl⟩
  go_wp2
  go_loopw [4, 6, 28] (fun _ _ i wr => ∃ k : Nat, k ≤ args.length ∧ i = .int .i64 k ∧ wr = w1 ∧ Hid (∀ j, j < k → argBad T.sorts.length (nth args j) = false)) (fun _ _ i _ => args.length - (intOf i).toNat)
  case atStart => exact ⟨0, Nat.zero_le _, rfl, rfl, fun j hj => absurd hj (Nat.not_lt_zero _)⟩
  case round =>
    obtain ⟨k, hk, rfl, rfl, hok⟩ := hrel
    by_cases hlt : k < args.length
    · obtain ⟨b, o, rfl, h1⟩ := X1.out.at k hlt
      have hyes := Lib.hid (fun hb => any_at (p := argBad T.sorts.length) hlt hb)
      have hnext := Lib.hid (fun hb : argBad T.sorts.length (nth args k) = false => show ∀ j, j < k + 1 → argBad T.sorts.length (nth args j) = false from fun j hj => by
        by_cases e : j = k
        · subst e; exact hb
        · exact hok.out j (by omega))
      have hab := @Lib.hid (argBad T.sorts.length (nth args k) = (nth args k == 0 || !isB T.sorts.length (nth args k))) rfl
      generalize nth args k = x at *
      by_cases hx0 : x = 0
      · have hv := @Lib.hid (errFun T ⟨nm, args, r⟩ = 1) (by rw [hd2.out, hyes.out (by rw [hab.out, hx0]; rfl)]; rfl)
        subst hx0
        go_wp2
        go_ret
        exact FunPost.no h'.out hb'.out hv.out (by decide)
      have hx0' : (x == 0) = false := by simpa using hx0
      have hia1 := Lib.hid (hia.out x)
      cases hix : isB T.sorts.length x
      case false =>
        have hv := @Lib.hid (errFun T ⟨nm, args, r⟩ = 1) (by rw [hd2.out, hyes.out (by rw [hab.out, hix]; simp)]; rfl)
        rw [hix] at hia1
        clear hix
        go_wp2_with fail
        refine hia1.out.mono ?_; rintro e w' ⟨rfl, rfl⟩
        go_wp2
        go_ret
        exact FunPost.no h'.out hb'.out hv.out (by decide)
      case true =>
        have hv := Lib.hid (hnext.out (by rw [hab.out, hix, hx0']; rfl))
        rw [hix] at hia1
        clear hix
        go_wp2_with fail
        refine hia1.out.mono ?_; rintro e w' ⟨rfl, rfl⟩
        go_wp2
        go_roundw
        case rel => exact ⟨k + 1, by omega, by go_num, by trivial, hv.out⟩
        case measure => simp [intOf]; omega
    · obtain rfl : k = args.length := by omega
      have hno := Lib.hid (any_take_no (fun j hj => hok.out j hj))
      by_cases h1000 : 1000 ≤ T.funs.length
      · have hv := @Lib.hid (errFun T ⟨nm, args, r⟩ = 4) (by rw [hd2.out, hno.out]; simp [h1000])
        have h1000i : (1000 : Int) ≤ T.funs.length := by omega
        go_wp2
        go_ret
        exact FunPost.no h'.out hb'.out hv.out (by decide)
      · have hv := @Lib.hid (errFun T ⟨nm, args, r⟩ = 0) (by rw [hd2.out, hno.out]; simp [h1000])
        have h1000i : (T.funs.length : Int) < 1000 := by omega
        have hown := Lib.hid (ownF_any nm a args.length c r args wr.drew X1.out.drew (by omega) T1.out.xlt)
        have hpw := T1.out.plt
        have hBw := Nat.le_trans T1.out.bp (Nat.le_of_lt hpw)
        clear hok hno hd2 his hia
        go_wp2
        go_region_law ((first
          | (refine step_append_C (by rfl) (.tmp 51) (.tmp 54) (by rfl) Tryz.underlying65 hi hz0 hz1 hz2 rfl (by decide) (by rfl) (by rfl) (OC.out.alloc _) (Src.one (b := w2.heap.size) (news := [.string nm, .slice a4 args.length c4, .int .i64 r]) rfl (triple_new _ _ _ w2 _)) triple_one (by unfold maxLen; omega) (by omega) (by simp; omega) ?_
             intro v' w3 ho3 hg3 hl3
             obtain ⟨a', c', rfl, _, _⟩ := ho3.slice
             have G3 := Lib.hid (grown_alloc hg3)
             have L3 := Lib.hid (loc_alloc hl3)
             have O3 := Lib.hid (OwnR.push (R := repF) (S := IntX X w2) (x := ⟨nm, args, r⟩) OL.out OE.out (repF_rd.2 ⟨a4, _, c4, rfl, C4.out, C5.out, S4.out, hrb'.out⟩) ho3 (fun b hlt hb => (grown_alloc hg3).block b hlt (fun e => ty_ne (by decide) (OC.out.ty b e.symm) hb.2)) (grown_alloc hg3).size)
             have q3 := (cell_grown (j := 1) G3.out (Nat.lt_of_lt_of_le hpw hsz2) hp2.out).trans q2
             have g3 := (frozen_grown (j := 1) G3.out (Nat.lt_of_lt_of_le hpw hsz2) hp2.out).trans g2
             clear ho3 hg3 hl3)
          | (go_simp
             go_at_call 63
             refine hown.out.mono ?_
             rintro e w2 ⟨a4, c4, rfl, hs4, hc4, hc5, hb4⟩
             have hb5 := below_drewl hb4
             have B5 := Lib.hid hb5
             have T2 := Lib.hid (T1.out.all hb5)
             have S4 := Lib.hid hs4
             have C4 := Lib.hid hc4
             have C5 := Lib.hid hc5
             obtain ⟨css, oc, ol, oe⟩ := O2.out.allI hb5
             have OC := Lib.hid oc
             have OL := Lib.hid ol
             have OE := Lib.hid oe
             have hsz2 : wr.heap.size ≤ w2.heap.size := hb5.size
             have hpw2 : p < w2.heap.size := Nat.lt_of_lt_of_le hpw hsz2
             have hblk2 := Lib.hid ((hb5.block p hpw).trans hblk'.out)
             have q2 : w2.cell? ⟨p, 1, none⟩ = some (.slice a2 T.funs.length c2) := cell_p hblk2.out 1
             have g2 : w2.frozen? ⟨p, 1, none⟩ = false := frz_p hblk2.out 1
             clear hs4 hc4 hc5 hb4 hb5 oc ol oe
             dsimp only)))
        all_goals
          go_wp2
          go_ret
          have hI : ∀ b, b < w3.heap.size → IntX X w2 b → IntX X w3 b := fun b _ hb => hb.same (G3.out.block b hb.lt (fun e => ty_ne (by decide) (OC.out.ty b e.symm) hb.2))
          obtain ⟨t2, s2⟩ := T2.out.setFuns hblk2.out G3.out L3.out (O3.out.mono hI)
          refine ⟨by rw [hv.out] <;> rfl, ?_, ((PStep.of_below h'.out.plt hb'.out).trans (PStep.of_below T1.out.plt B5.out)).trans s2⟩
          unfold addFun
          rw [hv.out, if_pos rfl]
          exact t2
end Go.Proofs.YtikmkalfdiiahaaGreatDoor

/-
  The contracts of theodolitealike.Ints and Round, for this seat. No condition but that lengths are below 2^62.
-/
namespace Go.Proofs.YtikmkalfdiiahaaGreatDoor
open Go.RowKit Go.Sort Go.Lib

/-- Ints: two slices read the same -/
def sameI (xs ys : List Int) : Bool := decide (xs = ys)
theorem sameI_len {xs ys : List Int} (h : xs.length ≠ ys.length) : false = sameI xs ys := by
  unfold sameI; symm; rw [decide_eq_false_iff_not]; rintro rfl; exact h rfl

set_option maxHeartbeats 400000 in
theorem ints_any (a b : Option Addr) (n m c d : Nat) (xs ys : List Int) (w : World) (hx : RdI w a n xs) (hy : RdI w b m ys) (hn : n < 4611686018427387904) :
    Calls Tryz.prog 13 #[.slice a n c, .slice b m d] w fun e w' => e = .returned (.bool (sameI xs ys)) ∧ ∃ q, w' = w.drewN q := by
  have lx := Lib.hid hx.len
  have ly := Lib.hid hy.len
  have hx' := Lib.hid hx
  have hy' := Lib.hid hy
  clear hx hy
  by_cases h : n = m
  · subst h
    go_enter Tryz.func13, Tryz.ntmps13
    go_wp2
    go_loopw [5] (fun i wr => ∃ k : Nat, k ≤ n ∧ i = .int .i64 k ∧ Hid (∀ j, j < k → nth xs j = nth ys j) ∧ ∃ q, wr = w.drewN q) (fun i _ => n - (intOf i).toNat)
    case atStart => exact ⟨0, Nat.zero_le _, rfl, by intro j hj; omega, 0, rfl⟩
    case round =>
      obtain ⟨k, hk, rfl, heq, q, rfl⟩ := hrel
      by_cases hlt : k < n
      · obtain ⟨b1, o1, rfl, h1⟩ := hx'.out.at k hlt
        obtain ⟨b2, o2, rfl, h2⟩ := hy'.out.at k hlt
        by_cases he : nth xs k = nth ys k
        · have hb : (nth xs k != nth ys k) = false := by rw [he]; simp
          have he' := Lib.hid he
          clear he
          go_wp2
          go_quiet (fail)
          go_wp2
          go_roundw
          case rel =>
            refine ⟨k + 1, by omega, by go_num, ?_, _, rfl⟩
            intro j hj
            by_cases hj' : j < k
            · exact heq.out j hj'
            · obtain rfl : j = k := by omega
              exact he'.out
          case measure => simp [intOf]; omega
        · have hb : (nth xs k != nth ys k) = true := by simpa using he
          go_wp2
          go_quiet (fail)
          go_wp2
          go_ret
          refine ⟨ret_bool ?_, q + nq, by rw [World.drewN_drewN]⟩
          symm; unfold sameI; rw [decide_eq_false_iff_not]; rintro rfl; exact he rfl
      · go_wp2
        go_ret
        refine ⟨ret_bool ?_, _, rfl⟩
        symm; unfold sameI; rw [decide_eq_true_iff]
        exact ext_nth (by rw [lx.out, ly.out]) (fun j hj => heq.out j (by have := lx.out; omega))
  · have h2 : ((n : Int) == (m : Int)) = false := by simp; omega
    have h3 : ((n : Int) != (m : Int)) = true := by simp; omega
    go_enter Tryz.func13, Tryz.ntmps13
    go_wp2
    go_ret
    exact ⟨ret_bool (sameI_len (by rw [lx.out, ly.out]; exact h)), 0, rfl⟩
/-- the int remainder of Go, made positive -/
def roundI (k n : Int) : Int := k.tmod n % n
theorem roundI_bd (k n : Int) (h : 0 < n) : 0 ≤ roundI k n ∧ roundI k n < n :=
  ⟨Int.emod_nonneg _ (by omega), Int.emod_lt_of_pos _ h⟩

set_option maxHeartbeats 400000 in
theorem round_any (k n : Int) (w : World) (h0 : 0 < n) (h1 : n < 4611686018427387904) :
    Calls Tryz.prog 19 #[.int .i64 k, .int .i64 n] w fun e w' => e = .returned (.int .i64 (roundI k n)) ∧ w = w' := by
  have h3 : (n == 0) = false := by simp; omega
  have h2 := Int.tmod_lt_of_pos k h0
  have h4 : -n < k.tmod n := by
    have := Int.lt_tmod_of_pos k h0
    omega
  have e := @Lib.hid (roundI k n = k.tmod n % n) rfl
  generalize hq : k.tmod n = q at *
  go_enter Tryz.func19, Tryz.ntmps19
  go_wp2
  go_ret
  exact ⟨ret_int (by rw [e.out, Int.add_emod_right]), rfl⟩

end Go.Proofs.YtikmkalfdiiahaaGreatDoor

/-
  theodoliteref6.Sorts: what the reference's table in memory holds ('RefX'), and how it stands behind a store into one of its fields. No condition.
-/
namespace Go.Proofs.YtikmkalfdiiahaaGreatDoor
open Go.RowKit Go.Sort Go.Lib
variable {X : Nat → Prop} {B p : Nat} {T : TabD} {w w' W : World} {v1 v2 v3 v' : Value}
structure RefX (X : Nat → Prop) (B p : Nat) (T : TabD) (w : World) : Prop where
  bp : B ≤ p
  xlt : ∀ k, X k → k < w.heap.size
  blk : ∃ v1 v2 v3, w.heap[p]? = some (.cells #[v1, v2, v3] 68 (0, 0)) ∧ OwnR Rep.str (fun _ => False) w B 9 v1 T.sorts ∧ OwnR repF (IntX X w) w B 75 v2 T.funs ∧ OwnR repM (fun _ => False) w B 256 v3 T.marks
theorem RefX.plt (h : RefX X B p T w) : p < w.heap.size := by obtain ⟨v1, v2, v3, hb, _⟩ := h.blk; exact (Array.getElem?_eq_some_iff.1 hb).1
theorem RefX.ownB (h : RefX X B p T w) {k : Nat} (hk : ownOf w p k) : B ≤ k ∧ k < w.heap.size := by
  obtain ⟨v1, v2, v3, hb, h1, h2, h3⟩ := h.blk
  rcases (own3 hb).1 hk with rfl | hk | hk | hk
  · exact ⟨h.bp, h.plt⟩
  · exact h1.lt k hk
  · exact h2.lt k hk
  · exact h3.lt k hk
theorem RefX.ownI (h : RefX X B p T w) {k : Nat} (hk : ownOf w p k) : ¬ IntX X w k := fun hi => by
  obtain ⟨v1, v2, v3, hb, h1, h2, h3⟩ := h.blk
  rcases (own3 hb).1 hk with rfl | hk | hk | hk
  · exact ty_ne (by decide) ⟨_, _, hb⟩ hi.2
  · exact ty_ne (by decide) (h1.ty k hk) hi.2
  · exact ty_ne (by decide) (h2.ty k hk) hi.2
  · exact ty_ne (by decide) (h3.ty k hk) hi.2
theorem RefX.keep (h : RefX X B p T w) (hk : ∀ k, ownOf w p k → w'.heap[k]? = w.heap[k]?) (hi : ∀ k, IntX X w k → w'.heap[k]? = w.heap[k]?) (hs : w.heap.size ≤ w'.heap.size) : RefX X B p T w' := by
  obtain ⟨v1, v2, v3, hb, h1, h2, h3⟩ := h.blk
  refine ⟨h.bp, fun k hx => Nat.lt_of_lt_of_le (h.xlt k hx) hs, v1, v2, v3, (hk p (.inl rfl)).trans hb, h1.keep (fun _ _ h => h.elim) (fun k e => hk k ((own3 hb).2 (.inr (.inl e)))) hs, h2.keepI hi (fun k e => hk k ((own3 hb).2 (.inr (.inr (.inl e))))) hs, h3.keep (fun _ _ h => h.elim) (fun k e => hk k ((own3 hb).2 (.inr (.inr (.inr e))))) hs⟩
theorem RefX.all (h : RefX X B p T w) (hb : Below w.heap.size w w') : RefX X B p T w' := h.keep (fun k hk => hb.block k (h.ownB hk).2) (fun k hk => hb.block k hk.lt) hb.size
theorem RefX.drewN (h : RefX X B p T w) (n : Nat) : RefX X B p T (w.drewN n) := h.all ((Below.refl _ _).drewN n)
theorem RefX.stepBelow (h : RefX X B p T w) (hs : PStep p w w') : Below B w w' := hs.below (Nat.le_trans h.bp (Nat.le_of_lt h.plt)) fun _ hk => (h.ownB hk).1
theorem RefX.setSorts (h : RefX X B p T w) (hb : w.heap[p]? = some (.cells #[v1, v2, v3] 68 (0, 0))) (hg : w.grownBy W v1.ownBlock) (hloc : v'.ownBlock = v1.ownBlock ∨ ∀ k, v'.ownBlock = some k → w.heap.size ≤ k) {l : List ByteArray} (ho : OwnR Rep.str (fun _ => False) W B 9 v' l) :
    RefX X B p { T with sorts := l } (W.setCell ⟨p, 0, none⟩ v') ∧ PStep p w (W.setCell ⟨p, 0, none⟩ v') := by
  obtain ⟨u1, u2, u3, hb', h1, h2, h3⟩ := h.blk
  rw [hb] at hb'
  cases hb'
  have hp1 : v1.ownBlock ≠ some p := fun e => ty_ne (by decide) (h1.ty p e) ⟨_, _, hb⟩
  have hp2 : v2.ownBlock ≠ some p := fun e => ty_ne (by decide) (h2.ty p e) ⟨_, _, hb⟩
  have hp3 : v3.ownBlock ≠ some p := fun e => ty_ne (by decide) (h3.ty p e) ⟨_, _, hb⟩
  obtain ⟨s1, s2, s3⟩ := setField (v' := v') hb (i := 0) rfl hg hp1 hloc
  have hpW : W.heap[p]? = w.heap[p]? := hg.block p h.plt (Ne.symm hp1)
  have hp' : v'.ownBlock ≠ some p := fun e => ty_ne (by decide) (ho.ty p e) ⟨_, _, hpW.trans hb⟩
  have hsz : (W.setCell ⟨p, 0, none⟩ v').heap.size = W.heap.size := by simp [World.setCell]
  refine ⟨⟨h.bp, fun k hx => Nat.lt_of_lt_of_le (h.xlt k hx) (Nat.le_trans hg.size (Nat.le_of_eq hsz.symm)), v', v2, v3, s2, ho.keep (fun _ _ h => h.elim) (fun k hk => s3 k fun e => hp' (by rw [← e]; exact hk)) (Nat.le_of_eq hsz.symm), h2.keepI (fun k hk => ?_) (fun k hk => ?_) (by rw [hsz]; exact hg.size), h3.keep (fun _ _ h => h.elim) (fun k hk => ?_) (by rw [hsz]; exact hg.size)⟩, s1⟩
  · rw [s3 k fun e => by subst e; exact ty_ne (by decide) ⟨_, _, hb⟩ hk.2]
    exact hg.block k hk.lt fun e => ty_ne (by decide) (h1.ty k e.symm) hk.2
  · rw [s3 k fun e => hp2 (by rw [← e]; exact hk)]
    exact hg.block k (h2.lt k hk).2 fun e => own_ty_ne h2 h1 (by decide) hk e.symm
  · rw [s3 k fun e => hp3 (by rw [← e]; exact hk)]
    exact hg.block k (h3.lt k hk).2 fun e => own_ty_ne h3 h1 (by decide) hk e.symm
theorem RefX.setFuns (h : RefX X B p T w) (hb : w.heap[p]? = some (.cells #[v1, v2, v3] 68 (0, 0))) (hg : w.grownBy W v2.ownBlock) (hloc : v'.ownBlock = v2.ownBlock ∨ ∀ k, v'.ownBlock = some k → w.heap.size ≤ k) {l : List FunD} (ho : OwnR repF (IntX X W) W B 75 v' l) :
    RefX X B p { T with funs := l } (W.setCell ⟨p, 1, none⟩ v') ∧ PStep p w (W.setCell ⟨p, 1, none⟩ v') := by
  obtain ⟨u1, u2, u3, hb', h1, h2, h3⟩ := h.blk
  rw [hb] at hb'
  cases hb'
  have hp1 : v1.ownBlock ≠ some p := fun e => ty_ne (by decide) (h1.ty p e) ⟨_, _, hb⟩
  have hp2 : v2.ownBlock ≠ some p := fun e => ty_ne (by decide) (h2.ty p e) ⟨_, _, hb⟩
  have hp3 : v3.ownBlock ≠ some p := fun e => ty_ne (by decide) (h3.ty p e) ⟨_, _, hb⟩
  obtain ⟨s1, s2, s3⟩ := setField (v' := v') hb (i := 1) rfl hg hp2 hloc
  have hpW : W.heap[p]? = w.heap[p]? := hg.block p h.plt (Ne.symm hp2)
  have hp' : v'.ownBlock ≠ some p := fun e => ty_ne (by decide) (ho.ty p e) ⟨_, _, hpW.trans hb⟩
  have hsz : (W.setCell ⟨p, 1, none⟩ v').heap.size = W.heap.size := by simp [World.setCell]
  refine ⟨⟨h.bp, fun k hx => Nat.lt_of_lt_of_le (h.xlt k hx) (Nat.le_trans hg.size (Nat.le_of_eq hsz.symm)), v1, v', v3, s2, h1.keep (fun _ _ h => h.elim) (fun k hk => ?_) (by rw [hsz]; exact hg.size), ho.keepI (fun k hk => s3 k fun e => ?_) (fun k hk => s3 k fun e => hp' (by rw [← e]; exact hk)) (Nat.le_of_eq hsz.symm), h3.keep (fun _ _ h => h.elim) (fun k hk => ?_) (by rw [hsz]; exact hg.size)⟩, s1⟩
  · rw [s3 k fun e => hp1 (by rw [← e]; exact hk)]
    exact hg.block k (h1.lt k hk).2 fun e => own_ty_ne h1 h2 (by decide) hk e.symm
  · subst e; exact ty_ne (by decide) ⟨_, _, hpW.trans hb⟩ hk.2
  · rw [s3 k fun e => hp3 (by rw [← e]; exact hk)]
    exact hg.block k (h3.lt k hk).2 fun e => own_ty_ne h3 h2 (by decide) hk e.symm
theorem RefX.setMarks (h : RefX X B p T w) (hb : w.heap[p]? = some (.cells #[v1, v2, v3] 68 (0, 0))) (hg : w.grownBy W v3.ownBlock) (hloc : v'.ownBlock = v3.ownBlock ∨ ∀ k, v'.ownBlock = some k → w.heap.size ≤ k) {l : List (Nat × Nat)} (ho : OwnR repM (fun _ => False) W B 256 v' l) :
    RefX X B p { T with marks := l } (W.setCell ⟨p, 2, none⟩ v') ∧ PStep p w (W.setCell ⟨p, 2, none⟩ v') := by
  obtain ⟨u1, u2, u3, hb', h1, h2, h3⟩ := h.blk
  rw [hb] at hb'
  cases hb'
  have hp1 : v1.ownBlock ≠ some p := fun e => ty_ne (by decide) (h1.ty p e) ⟨_, _, hb⟩
  have hp2 : v2.ownBlock ≠ some p := fun e => ty_ne (by decide) (h2.ty p e) ⟨_, _, hb⟩
  have hp3 : v3.ownBlock ≠ some p := fun e => ty_ne (by decide) (h3.ty p e) ⟨_, _, hb⟩
  obtain ⟨s1, s2, s3⟩ := setField (v' := v') hb (i := 2) rfl hg hp3 hloc
  have hpW : W.heap[p]? = w.heap[p]? := hg.block p h.plt (Ne.symm hp3)
  have hp' : v'.ownBlock ≠ some p := fun e => ty_ne (by decide) (ho.ty p e) ⟨_, _, hpW.trans hb⟩
  have hsz : (W.setCell ⟨p, 2, none⟩ v').heap.size = W.heap.size := by simp [World.setCell]
  refine ⟨⟨h.bp, fun k hx => Nat.lt_of_lt_of_le (h.xlt k hx) (Nat.le_trans hg.size (Nat.le_of_eq hsz.symm)), v1, v2, v', s2, h1.keep (fun _ _ h => h.elim) (fun k hk => ?_) (by rw [hsz]; exact hg.size), h2.keepI (fun k hk => ?_) (fun k hk => ?_) (by rw [hsz]; exact hg.size), ho.keep (fun _ _ h => h.elim) (fun k hk => s3 k fun e => hp' (by rw [← e]; exact hk)) (Nat.le_of_eq hsz.symm)⟩, s1⟩
  · rw [s3 k fun e => hp1 (by rw [← e]; exact hk)]
    exact hg.block k (h1.lt k hk).2 fun e => own_ty_ne h1 h3 (by decide) hk e.symm
  · rw [s3 k fun e => by subst e; exact ty_ne (by decide) ⟨_, _, hb⟩ hk.2]
    exact hg.block k hk.lt fun e => ty_ne (by decide) (h3.ty k e.symm) hk.2
  · rw [s3 k fun e => hp2 (by rw [← e]; exact hk)]
    exact hg.block k (h2.lt k hk).2 fun e => own_ty_ne h2 h3 (by decide) hk e.symm
theorem RefX.look {B p : Nat} {T : TabD} {w : World} (h : RefX X B p T w) : ∃ a1 c1 a2 c2 a3 c3, w.heap[p]? = some (.cells #[.slice a1 T.sorts.length c1, .slice a2 T.funs.length c2, .slice a3 T.marks.length c3] 68 (0, 0)) ∧
    OwnR Rep.str (fun _ => False) w B 9 (.slice a1 T.sorts.length c1) T.sorts ∧ OwnR repF (IntX X w) w B 75 (.slice a2 T.funs.length c2) T.funs ∧ OwnR repM (fun _ => False) w B 256 (.slice a3 T.marks.length c3) T.marks := by
  obtain ⟨v1, v2, v3, hb, h1, h2, h3⟩ := h.blk
  obtain ⟨a1, c1, rfl, _⟩ := h1.slice
  obtain ⟨a2, c2, rfl, _⟩ := h2.slice
  obtain ⟨a3, c3, rfl, _⟩ := h3.slice
  exact ⟨a1, c1, a2, c2, a3, c3, hb, h1, h2, h3⟩

end Go.Proofs.YtikmkalfdiiahaaGreatDoor

/-
  theodoliteref6.Sorts: Reserved, name, Levels, Is, FindSort, Find; the law's same. Conditions: a table in memory of fewer than 2^40 entries.
-/
namespace Go.Proofs.YtikmkalfdiiahaaGreatDoor
open Go.RowKit Go.Sort Go.Lib
variable {X : Nat → Prop}

theorem toList_inj {a b : ByteArray} (h : a.toList = b.toList) : a = b := by
  rw [Lib.toList_data, Lib.toList_data] at h
  cases a; cases b
  simp at h
  rw [ByteArray.mk.injEq]
  exact h
theorem eqb_iff {a b : ByteArray} : (a.toList == b.toList) = true ↔ a = b := ⟨fun h => toList_inj (by simpa using h), fun h => by subst h; simp⟩
theorem eqb_no {a b : ByteArray} (h : (a.toList == b.toList) = false) : a ≠ b := fun e => by subst e; simp at h
theorem resB_iff (s : ByteArray) : resB s = true ↔ s ∈ resWords := Lib.containsS_iff resWords s
set_option maxRecDepth 100000 in
set_option maxHeartbeats 4000000 in
theorem rreserved_any (s : ByteArray) (w : World) : Calls Tryz.prog 93 #[.string s] w fun e w' => e = .returned (.bool (resB s)) ∧ Below w.heap.size w w' := by
  have hri := Lib.hid (resB_iff s)
  have hl : resWords.length = 27 := by decide
  have hl' := Lib.hid hl
  have hc := Lib.hid (show ∀ k, k < 27 → (w.alloc (.cells (resWords.map Value.string).toArray 9)).cell? ⟨w.heap.size, k, none⟩ = some (.string (resWords.getD k ByteArray.empty)) from fun k hk => by
    rw [World.cell?_alloc_new]
    simp [List.getD, hl, hk])
  clear hl
  go_enter Tryz.func93, Tryz.ntmps93
  go_wp2
  go_loopw [2, 4] (fun _ i wr => ∃ k : Nat, k ≤ 27 ∧ i = .int .i64 k ∧ wr = w.alloc (.cells (resWords.map Value.string).toArray 9) ∧ Hid (∀ j, j < k → resWords.getD j ByteArray.empty ≠ s)) (fun _ i _ => 27 - (intOf i).toNat)
  case atStart => exact ⟨0, Nat.zero_le _, rfl, by rfl, by intro j hj; omega⟩
  case round =>
    obtain ⟨k, hk, rfl, rfl, hne⟩ := hrel
    have hB : Below w.heap.size w (w.alloc (.cells (resWords.map Value.string).toArray 9)) := (Below.refl _ _).alloc (Nat.le_refl _) _
    have hB' := Lib.hid hB
    clear hB
    by_cases hlt : k < 27
    · have h1 := hc.out k hlt
      have hmem := Lib.hid (show resWords.getD k ByteArray.empty ∈ resWords by
        have : k < resWords.length := by rw [hl'.out]; exact hlt
        simp [List.getD, this])
      have hnx := Lib.hid (fun (h : resWords.getD k ByteArray.empty ≠ s) => show ∀ j, j < k + 1 → resWords.getD j ByteArray.empty ≠ s from fun j hj => by
        by_cases e : j = k
        · subst e; exact h
        · exact hne.out j (by omega))
      generalize resWords.getD k ByteArray.empty = z at *
      generalize w.alloc (.cells (resWords.map Value.string).toArray 9) = w1 at *
      cases he : (z.toList == s.toList)
      · have hv := Lib.hid (hnx.out (eqb_no he))
        go_wp2
        go_roundw
        case rel => exact ⟨k + 1, by omega, by go_num, by trivial, hv.out⟩
        case measure => simp [intOf]; omega
      · have hv := @Lib.hid (true = resB s) (by symm; rw [hri.out, ← eqb_iff.1 he]; exact hmem.out)
        go_wp2
        go_ret
        exact ⟨ret_bool hv.out, hB'.out⟩
    · have hv := @Lib.hid (false = resB s) (by
        symm
        cases hr : resB s
        · rfl
        · have hm := hri.out.1 hr
          obtain ⟨j, hj, e⟩ := List.getElem_of_mem hm
          have hj2 : j < 27 := by rw [← hl'.out]; exact hj
          exact absurd (show resWords.getD j ByteArray.empty = s by simp [List.getD, hj, e]) (hne.out j (by omega)))
      go_wp2
      go_ret
      exact ⟨ret_bool hv.out, hB'.out⟩
set_option maxHeartbeats 400000 in
theorem rname_any (s : ByteArray) (w : World) : Calls Tryz.prog 61 #[.string s] w fun e w' => e = .returned (.bool (mayB s)) ∧ Below w.heap.size w w' := by
  have hd := @Lib.hid (mayB s = (!s.toList.isEmpty && (decide (s.size ≤ 200) && !resB s))) rfl
  have hem := @Lib.hid (s.toList.isEmpty = decide (s.size = 0)) (by
    rw [Lib.toList_data]
    have : s.size = s.data.toList.length := by simp
    rw [this]
    cases s.data.toList <;> simp)
  have hr := Lib.hid (rreserved_any s w)
  by_cases h0 : 1 ≤ s.size
  · have h0i : (1 : Int) ≤ s.size := by omega
    by_cases h2 : s.size ≤ 200
    · have h2i : (s.size : Int) ≤ 200 := by omega
      have hv := @Lib.hid (mayB s = !resB s) (by rw [hd.out, hem.out]; simp [h2, show ¬ s.size = 0 by omega])
      go_enter Tryz.func61, Tryz.ntmps61
      go_wp2_with fail
      refine hr.out.mono ?_; rintro e w1 ⟨rfl, hb⟩
      have hb' := Lib.hid hb
      clear hb
      go_wp2
      go_ret
      exact ⟨ret_bool hv.out.symm, hb'.out⟩
    · have h2i : ¬ (s.size : Int) ≤ 200 := by omega
      have hv := @Lib.hid (false = mayB s) (by rw [hd.out]; simp [h2])
      go_enter Tryz.func61, Tryz.ntmps61
      go_wp2
      go_ret
      exact ⟨ret_bool hv.out, Below.refl _ _⟩
  · have h0i : ¬ (1 : Int) ≤ s.size := by omega
    have hv := @Lib.hid (false = mayB s) (by rw [hd.out, hem.out]; simp [show s.size = 0 by omega])
    go_enter Tryz.func61, Tryz.ntmps61
    go_wp2
    go_ret
    exact ⟨ret_bool hv.out, Below.refl _ _⟩
set_option maxHeartbeats 400000 in
theorem ris_any (B p : Nat) (T : TabD) (s : Int) (w : World) (h : RefX X B p T w) (hl : T.sorts.length < 1099511627776) : Calls Tryz.prog 65 #[.pointer (some ⟨p, 0, none⟩), .int .i64 s] w fun e w' => e = .returned (.bool (isB T.sorts.length s)) ∧ w = w' := by
  obtain ⟨a1, c1, a2, c2, a3, c3, hb, _⟩ := h.look
  have k0 : w.cell? ⟨p, 0, none⟩ = some (.slice a1 T.sorts.length c1) := cell_p hb 0
  have hd := @Lib.hid (isB T.sorts.length s = (decide (0 ≤ s) && decide (s < 2 + (T.sorts.length : Int)))) rfl
  clear hb h
  generalize T.sorts.length = n at *
  by_cases h1 : 0 ≤ s
  · have hv := @Lib.hid (decide (s < (n : Int) + 2) = isB n s) (by rw [hd.out, Int.add_comm]; simp [h1])
    go_enter Tryz.func65, Tryz.ntmps65
    go_wp2
    go_ret
    exact ⟨ret_bool hv.out, rfl⟩
  · have hv := @Lib.hid (false = isB n s) (by rw [hd.out]; simp [h1])
    go_enter Tryz.func65, Tryz.ntmps65
    go_wp2
    go_ret
    exact ⟨ret_bool hv.out, rfl⟩
/-! ### FindSort -/
theorem idxS_skip {x : ByteArray} : ∀ {zs : List ByteArray} {k i : Nat}, (∀ j, j < k → zs.getD j ByteArray.empty ≠ x) → k ≤ zs.length → Lib.idxFromS zs x i = Lib.idxFromS (zs.drop k) x (i + k)
  | zs, 0, i, _, _ => by simp
  | [], k + 1, i, _, hk => by simp at hk
  | z :: zs, k + 1, i, h, hk => by
    have h0 : z ≠ x := h 0 (by omega)
    rw [List.drop_succ_cons, ← Nat.add_assoc, Nat.add_right_comm, ← idxS_skip (zs := zs) (k := k) (i := i + 1) (fun j hj => by simpa using h (j + 1) (by omega)) (by simpa using hk)]
    rw [Lib.idxFromS]
    simp [h0]
theorem idxS_hit {zs : List ByteArray} {x : ByteArray} {k : Nat} (h : ∀ j, j < k → zs.getD j ByteArray.empty ≠ x) (hk : k < zs.length) (hx : zs.getD k ByteArray.empty = x) : Lib.idxOfS zs x = k := by
  show Lib.idxFromS zs x 0 = k
  rw [idxS_skip h (Nat.le_of_lt hk), Nat.zero_add, List.drop_eq_getElem_cons hk]
  have e : zs[k] = x := by simpa [List.getD, hk] using hx
  rw [Lib.idxFromS]
  simp [e]
theorem idxS_miss {zs : List ByteArray} {x : ByteArray} (h : ∀ j, j < zs.length → zs.getD j ByteArray.empty ≠ x) : Lib.idxOfS zs x = -1 := by
  show Lib.idxFromS zs x 0 = -1
  rw [idxS_skip h (Nat.le_refl _), List.drop_length]; rfl
set_option maxHeartbeats 1000000 in
theorem rfindSort_any (B p : Nat) (T : TabD) (s : ByteArray) (w : World) (h : RefX X B p T w) (hl : T.sorts.length < 1099511627776) :
    Calls Tryz.prog 60 #[.pointer (some ⟨p, 0, none⟩), .string s] w fun e w' => e = .returned (.tuple #[.int .i64 (findSort T s).1, .bool (findSort T s).2]) ∧ w = w' := by
  obtain ⟨a1, c1, a2, c2, a3, c3, hb, o1, _⟩ := h.look
  have k0 : w.cell? ⟨p, 0, none⟩ = some (.slice a1 T.sorts.length c1) := cell_p hb 0
  have hrd := Lib.hid (o1.read (S' := fun _ => True) (fun _ _ _ => trivial) (fun _ _ => trivial))
  have hd := @Lib.hid (findSort T s = if s.toList == [66, 111, 111, 108] then (0, true) else if s.toList == [82, 101, 97, 108] then (1, true) else if Lib.idxOfS T.sorts s < 0 then (0, false) else (2 + Lib.idxOfS T.sorts s, true)) rfl
  clear hb h o1
  cases e1 : (s.toList == [66, 111, 111, 108])
  case true =>
    have hv := @Lib.hid (findSort T s = (0, true)) (by rw [hd.out, e1]; rfl)
    go_enter Tryz.func60, Tryz.ntmps60
    go_wp2
    go_ret2
    exact ⟨by rw [hv.out] <;> rfl, rfl⟩
  case false =>
  cases e2 : (s.toList == [82, 101, 97, 108])
  case true =>
    have hv := @Lib.hid (findSort T s = (1, true)) (by rw [hd.out, e1, e2]; rfl)
    go_enter Tryz.func60, Tryz.ntmps60
    go_wp2
    go_ret2
    exact ⟨by rw [hv.out] <;> rfl, rfl⟩
  case false =>
  have hd2 := @Lib.hid (findSort T s = if Lib.idxOfS T.sorts s < 0 then (0, false) else (2 + Lib.idxOfS T.sorts s, true)) (by rw [hd.out, e1, e2]; rfl)
  clear hd
  generalize T.sorts = zs at *
  go_enter Tryz.func60, Tryz.ntmps60
  go_wp2
  go_loopw [4, 5, 6] (fun _ _ i wr => ∃ k : Nat, k ≤ zs.length ∧ i = .int .i64 k ∧ wr = w ∧ Hid (∀ j, j < k → zs.getD j ByteArray.empty ≠ s)) (fun _ _ i _ => zs.length - (intOf i).toNat)
  case atStart => exact ⟨0, Nat.zero_le _, rfl, rfl, by intro j hj; omega⟩
  case round =>
    obtain ⟨k, hk, rfl, rfl, hne⟩ := hrel
    by_cases hlt : k < zs.length
    · obtain ⟨b, o, rfl, hc⟩ := hrd.out.strs (by omega)
      have h1 := hc k hlt
      have hnx := Lib.hid (fun (h : zs.getD k ByteArray.empty ≠ s) => show ∀ j, j < k + 1 → zs.getD j ByteArray.empty ≠ s from fun j hj => by
        by_cases e : j = k
        · subst e; exact h
        · exact hne.out j (by omega))
      have hhit := Lib.hid (fun h => idxS_hit (x := s) (fun j hj => hne.out j hj) hlt h)
      clear hc
      generalize zs.getD k ByteArray.empty = z at *
      cases he : (z.toList == s.toList)
      · have hv := Lib.hid (hnx.out (eqb_no he))
        go_wp2
        go_roundw
        case rel => exact ⟨k + 1, by omega, by go_num, by trivial, hv.out⟩
        case measure => simp [intOf]; omega
      · have hv := @Lib.hid (findSort T s = ((k : Int) + 2, true)) (by rw [hd2.out, hhit.out (eqb_iff.1 he), if_neg (by omega), Int.add_comm])
        go_wp2
        go_ret2
        exact ⟨by rw [hv.out] <;> rfl, rfl⟩
    · have hv := @Lib.hid (findSort T s = (0, false)) (by rw [hd2.out, idxS_miss (fun j hj => hne.out j (by omega))]; rfl)
      go_wp2
      go_ret2
      exact ⟨by rw [hv.out] <;> rfl, rfl⟩
end Go.Proofs.YtikmkalfdiiahaaGreatDoor

/-
  sorts: Pop. Conditions: a table in memory of fewer than 2^40 entries, whose marks rise and lie within.
-/
namespace Go.Proofs.YtikmkalfdiiahaaGreatDoor
open Go.RowKit Go.Sort Go.Lib
variable {X : Nat → Prop}

/-- 'v[:k:k]', 'v[:k]' -/
theorem run_cut3 {P : Program} {t e : TypeId} {a : Option Addr} {n c k s : Nat} (ht : P.underlying t = some (.slice e)) (hsz : ∀ w, (sizeOf e).run P w = .ok s w) (hk : k ≤ n) (hc : n ≤ c) (W : World) :
    (Instr.slice t (.slice a n c) none (some (.int .i64 k)) (some (.int .i64 k))).run P W = .ok (.slice a k k) W := by
  have e0 : (if k = 0 then a else a.map (·.add (0 * s))) = a := by
    split
    · rfl
    · cases a <;> simp [Addr.add]
  simp only [Nat.zero_mul] at e0
  have hkc : k ≤ c := by omega
  simp [Instr.slice, Instr.sliceBounds, Instr.sliceBound, run_underlying ht, hsz, hkc, asIntOf]
  simpa using e0
theorem run_cut2 {P : Program} {t e : TypeId} {a : Option Addr} {n c k s : Nat} (ht : P.underlying t = some (.slice e)) (hsz : ∀ w, (sizeOf e).run P w = .ok s w) (hk : k ≤ n) (hc : n ≤ c) (W : World) :
    (Instr.slice t (.slice a n c) none (some (.int .i64 k)) none).run P W = .ok (.slice a k c) W := by
  have e0 : (if c = 0 then a else a.map (·.add (0 * s))) = a := by
    split
    · rfl
    · cases a <;> simp [Addr.add]
  simp only [Nat.zero_mul] at e0
  have hkc : k ≤ c := by omega
  simp [Instr.slice, Instr.sliceBounds, Instr.sliceBound, run_underlying ht, hsz, hkc, asIntOf]
  simpa using e0
theorem size_str (w : World) : (sizeOf 9).run Tryz.prog w = .ok 1 w := by kernel_rfl
theorem size_fun (w : World) : (sizeOf 75).run Tryz.prog w = .ok 3 w := by kernel_rfl
theorem size_mark (w : World) : (sizeOf 257).run Tryz.prog w = .ok 2 w := by kernel_rfl

structure WfT (T : TabD) : Prop where
  mono : T.marks.Pairwise fun a b => a.1 ≤ b.1 ∧ a.2 ≤ b.2
  top : ∀ m ∈ T.marks, m.1 ≤ T.sorts.length ∧ m.2 ≤ T.funs.length
def errPop (T : TabD) (n : Int) : Int := if n < 0 then 1 else if (T.marks.length : Int) < n then 5 else 0
def markAt (T : TabD) (k : Nat) : Nat × Nat := T.marks.getD k (0, 0)
def popT (T : TabD) (n : Int) : TabD :=
  if 0 < n ∧ n ≤ (T.marks.length : Int) then ⟨T.sorts.take (markAt T (T.marks.length - n.toNat)).1, T.funs.take (markAt T (T.marks.length - n.toNat)).2, T.marks.take (T.marks.length - n.toNat)⟩ else T
def PopPost (X : Nat → Prop) (B p : Nat) (T : TabD) (n : Int) (w : World) (e : Ending) (w' : World) : Prop :=
  e = .returned (.int .i64 (errPop T n)) ∧ TabX X B p (popT T n) w' ∧ PStep p w w'
theorem SlR.markAt {S : Nat → Prop} {w : World} {a : Option Addr} {n : Nat} {ms : List (Nat × Nat)} (h : SlR repM S w a n ms) {k : Nat} (hk : k < n) :
    ∃ b o, a = some ⟨b, o, none⟩ ∧ w.cell? ⟨b, o + k * 2, none⟩ = some (.int .i64 (ms.getD k (0, 0)).1) ∧ w.cell? ⟨b, o + k * 2 + 1, none⟩ = some (.int .i64 (ms.getD k (0, 0)).2) := by
  have hkl : k < ms.length := by rw [h.1]; exact hk
  obtain ⟨b, o, cs, ha, _, hr, hc⟩ := h.at (List.getElem?_eq_getElem hkl)
  obtain ⟨rfl, _⟩ := repM_rd.1 hr
  rw [repM_k] at hc
  have e : ms.getD k (0, 0) = ms[k] := by simp [List.getD, hkl]
  rw [e]
  exact ⟨b, o, ha, hc 0 _ rfl, hc 1 _ rfl⟩
theorem grown_refl' (w : World) (row : Option Nat) : w.grownBy w row := ⟨rfl, rfl, rfl, Nat.le_refl _, fun _ _ _ => rfl⟩
theorem cutOwn {a : Option Addr} {n k c c' : Nat} : Value.ownBlock (.slice a k c') = Value.ownBlock (.slice a n c) := by cases a <;> rfl
theorem set_block {w : World} {p i : Nat} {cs : Array Value} {t : TypeId} {f : Nat × Nat} {v : Value} (hb : w.heap[p]? = some (.cells cs t f)) : (w.setCell ⟨p, i, none⟩ v).heap[p]? = some (.cells (cs.setIfInBounds i v) t f) := by
  unfold World.setCell
  rw [Array.getElem?_modify, if_pos rfl, hb]
  rfl
section
variable {P : Program} {ops : Array Oper} {Q : Exit → Act → World → Prop} {md : Region.Mode} {S : World → Prop} {fuel : Nat} {listed : Array Bool} {a : Act} {w : World}
/-- a step that is taken first, the operation read off the list -/
theorem takeL {i : Nat} {oi : Oper} {v : Value} (hi : ops.toList[i]? = some oi) (hr : (Region.ready md ops listed).contains i = true) (hs : Region.noSelect ops = true) (hf : Region.free md ops listed i = true)
    (hQ : ∀ c a w, Q (.panic c) (a.put oi.dst v) w → Q (.panic c) a w) (hy : YieldsIf P ops S oi v a) (hS : S w)
    (h : wpAnyH P md ops Q S fuel (listed.setIfInBounds i true) (a.put oi.dst v) w) : wpAnyH P md ops Q S (fuel + 1) listed a w :=
  wpAnyH_take (by simpa using hi) hs hf hr hQ hy hS h
theorem consL {i : Nat} {o : Oper} {rs : List Nat} (ho : ops.toList[i]? = some o)
    (h : ∀ K' : Act → World → Prop, Shut (∀ a w, S w → (S w → wpAnyH P md ops Q S fuel (listed.setIfInBounds i true) a w) → K' a w) → if Region.wanted o (yielded ops a.tmps) = true then Oper.wp P o a w K' Q else K' (a.put o.dst undef) w)
    (hs : AllReadyH P md ops Q S fuel listed a w rs) : AllReadyH P md ops Q S fuel listed a w (i :: rs) := AllReadyH.cons (by simpa using ho) h hs
end
theorem popDone {B p : Nat} {T : TabD} {w : World} {a1 a2 a3 : Option Addr} {c1 c2 c3 x1 x2 k : Nat} (h : TabX X B p T w)
    (hb : w.heap[p]? = some (.cells #[.slice a1 T.sorts.length c1, .slice a2 T.funs.length c2, .slice a3 T.marks.length c3] 107 (0, 0)))
    (o1 : OwnR Rep.str (fun _ => False) w B 9 (.slice a1 T.sorts.length c1) T.sorts) (_o2 : OwnR repF (IntX X w) w B 75 (.slice a2 T.funs.length c2) T.funs) (_o3 : OwnR repM (fun _ => False) w B 257 (.slice a3 T.marks.length c3) T.marks)
    (h1 : x1 ≤ T.sorts.length) (hc1 : T.sorts.length ≤ c1) (h2 : x2 ≤ T.funs.length) (hc2 : T.funs.length ≤ c2) (h3 : k ≤ T.marks.length) (hc3 : T.marks.length ≤ c3) :
    TabX X B p ⟨T.sorts.take x1, T.funs.take x2, T.marks.take k⟩ (((w.setCell ⟨p, 0, none⟩ (.slice a1 x1 x1)).setCell ⟨p, 1, none⟩ (.slice a2 x2 x2)).setCell ⟨p, 2, none⟩ (.slice a3 k c3)).drew ∧
    PStep p w (((w.setCell ⟨p, 0, none⟩ (.slice a1 x1 x1)).setCell ⟨p, 1, none⟩ (.slice a2 x2 x2)).setCell ⟨p, 2, none⟩ (.slice a3 k c3)).drew := by
  obtain ⟨tA, sA⟩ := h.setSorts hb (grown_refl' _ _) (.inl (cutOwn (k := x1) (c' := x1))) (o1.cut h1 (Nat.le_refl _) (Nat.le_trans h1 hc1))
  have hA := set_block (i := 0) (v := .slice a1 x1 x1) hb
  obtain ⟨u1, u2, u3, e, _, p2, p3⟩ := tA.blk
  rw [hA] at e
  cases e
  obtain ⟨tB, sB⟩ := tA.setFuns hA (grown_refl' _ _) (.inl (cutOwn (k := x2) (c' := x2))) (p2.cut h2 (Nat.le_refl _) (Nat.le_trans h2 hc2))
  have hB := set_block (i := 1) (v := .slice a2 x2 x2) hA
  obtain ⟨u1, u2, u3, e, _, _, p3⟩ := tB.blk
  rw [hB] at e
  cases e
  obtain ⟨tC, sC⟩ := tB.setMarks hB (grown_refl' _ _) (.inl (cutOwn (k := k) (c' := c3))) (p3.cut h3 (Nat.le_trans h3 hc3) (Nat.le_refl _))
  exact ⟨tC.drewN 1, ((sA.trans sB).trans sC).drew⟩
end Go.Proofs.YtikmkalfdiiahaaGreatDoor

/-
  theodolitelaw6.awake: what it asks, reckoned. No condition.
-/
namespace Go.Proofs.YtikmkalfdiiahaaGreatDoor
open Go.RowKit Go.Sort Go.Lib

def sU : ByteArray := ⟨#[85]⟩
def sBool : ByteArray := ⟨#[66, 111, 111, 108]⟩
def sf : ByteArray := ⟨#[102]⟩
def sg : ByteArray := ⟨#[103]⟩
def sx : ByteArray := ⟨#[120]⟩
def site : ByteArray := ⟨#[105, 116, 101]⟩
def fF : FunD := ⟨sf, [2, 1], 0⟩
def fG : FunD := ⟨sg, [0], 0⟩
def fX : FunD := ⟨sx, [], 2⟩
def aT0 : TabD := ⟨[], [], []⟩
def aT1 : TabD := ⟨[sU], [], []⟩
def aT2 : TabD := ⟨[sU], [fF], []⟩
def aT3 : TabD := ⟨[sU], [fF], [(1, 1)]⟩
def aT4 : TabD := ⟨[sU], [fF, fX], [(1, 1)]⟩
theorem toL (s : ByteArray) : s.toList = s.data.toList := Lib.toList_data s
theorem eqS_data (a b : ByteArray) : eqS a b = (a.data.toList == b.data.toList) := by unfold eqS; rw [toL, toL]
theorem mayB_data (s : ByteArray) : mayB s = (!s.data.toList.isEmpty && (decide (s.size ≤ 200) && !resB s)) := by unfold mayB; rw [toL]
theorem ite_res : resB site = true := by decide +kernel
theorem f_res : resB sf = false := by decide +kernel
theorem may_U : mayB sU = true := by rw [mayB_data]; decide +kernel
theorem may_Bool : mayB sBool = false := by rw [mayB_data]; decide +kernel
theorem may_f : mayB sf = true := by rw [mayB_data]; decide +kernel
theorem may_g : mayB sg = true := by rw [mayB_data]; decide +kernel
theorem may_x : mayB sx = true := by rw [mayB_data]; decide +kernel
theorem bad_U : badSort aT0 sU = false := by unfold badSort; rw [may_U]; decide +kernel
theorem bad_Bool : badSort aT1 sBool = true := by unfold badSort; rw [may_Bool]; rfl
theorem eq_fg : eqS sf sg = false := by rw [eqS_data]; decide +kernel
theorem eq_fx : eqS sf sx = false := by rw [eqS_data]; decide +kernel
theorem eq_ff : eqS sf sf = true := by rw [eqS_data]; decide +kernel
theorem find_f1 : findF aT1 sf = none := rfl
theorem find_g2 : findF aT2 sg = none := by unfold findF aT2; simp [fF, eq_fg]
theorem find_x3 : findF aT3 sx = none := by unfold findF aT3; simp [fF, eq_fx]
theorem find_x2 : findF aT2 sx = none := by unfold findF aT2; simp [fF, eq_fx]
theorem find_f2 : findF aT2 sf = some fF := by unfold findF aT2; simp [fF, eq_ff]
theorem fun_f : errFun aT1 fF = 0 ∧ addFun aT1 fF = aT2 := by
  have h : errFun aT1 fF = 0 := by
    unfold errFun mayFunB
    rw [show fF.name = sf from rfl, may_f, find_f1]
    decide +kernel
  exact ⟨h, by unfold addFun; rw [h]; rfl⟩
theorem fun_g : errFun aT2 fG = 1 ∧ addFun aT2 fG = aT2 := by
  have h : errFun aT2 fG = 1 := by
    unfold errFun mayFunB
    rw [show fG.name = sg from rfl, may_g, find_g2]
    decide +kernel
  exact ⟨h, by unfold addFun; rw [h]; rfl⟩
theorem fun_x : errFun aT3 fX = 0 ∧ addFun aT3 fX = aT4 := by
  have h : errFun aT3 fX = 0 := by
    unfold errFun mayFunB
    rw [show fX.name = sx from rfl, may_x, find_x3]
    decide +kernel
  exact ⟨h, by unfold addFun; rw [h]; rfl⟩
theorem pop_2 : errPop aT4 2 = 5 ∧ popT aT4 2 = aT4 := ⟨by decide, rfl⟩
theorem pop_1 : errPop aT4 1 = 0 ∧ popT aT4 1 = aT2 := ⟨by decide, rfl⟩
theorem name_2 : nameOf aT2 2 = (sU, true) := by decide +kernel
theorem small_0 : Small aT0 := ⟨by decide, by decide, by decide, by decide⟩
theorem small_1 : Small aT1 := ⟨by decide, by decide, by decide, by decide⟩
theorem small_2 : Small aT2 := ⟨by decide, by decide, by decide, fun f hf => by simp [aT2] at hf; subst hf; decide⟩
theorem small_3 : Small aT3 := ⟨by decide, by decide, by decide, fun f hf => by simp [aT3] at hf; subst hf; decide⟩
theorem small_4 : Small aT4 := ⟨by decide, by decide, by decide, fun f hf => by simp [aT4] at hf; rcases hf with rfl | rfl <;> decide⟩
theorem SortPost.no {X : Nat → Prop} {B p : Nat} {T : TabD} {s : ByteArray} {w w' : World} {e : Ending} (h : SortPost X B p T s w e w') (hb : badSort T s = true) : e = .returned (.tuple #[.int .i64 0, .int .i64 1]) ∧ TabX X B p T w' ∧ PStep p w w' := by
  unfold SortPost at h; rw [if_pos hb] at h; exact ⟨h.1.1, h.1.2, h.2⟩
theorem SortPost.yes {X : Nat → Prop} {B p : Nat} {T : TabD} {s : ByteArray} {w w' : World} {e : Ending} (h : SortPost X B p T s w e w') (hb : badSort T s = false) : e = .returned (.tuple #[.int .i64 ((T.sorts.length : Int) + 2), .int .i64 0]) ∧ TabX X B p { T with sorts := T.sorts ++ [s] } w' ∧ PStep p w w' := by
  unfold SortPost at h; rw [if_neg (by rw [hb]; decide)] at h; exact ⟨h.1.1, h.1.2, h.2⟩
end Go.Proofs.YtikmkalfdiiahaaGreatDoor

/-
  theodoliteref6.Sorts: Find, Sort, Name. Conditions: a table in memory of fewer than 2^40 entries, each function of fewer than 2^40 sorts.
-/
namespace Go.Proofs.YtikmkalfdiiahaaGreatDoor
open Go.RowKit Go.Sort Go.Lib
variable {X : Nat → Prop}

theorem OwnR.funAt {S : Nat → Prop} {w : World} {base : Nat} {e : TypeId} {a : Option Addr} {n c : Nat} {fs : List FunD} (h : OwnR repF S w base e (.slice a n c) fs) {k : Nat} {f : FunD} (hf : fs[k]? = some f) :
    ∃ g a' c', a = some ⟨g, 0, none⟩ ∧ w.cell? ⟨g, k * 3, none⟩ = some (.string f.name) ∧ w.cell? ⟨g, k * 3 + 1, none⟩ = some (.slice a' f.args.length c') ∧ w.cell? ⟨g, k * 3 + 2, none⟩ = some (.int .i64 f.res) ∧ SlR Rep.int S w a' f.args.length f.args ∧ okI f.res ∧ f.args.length ≤ c' ∧ c' ≤ maxLen := by
  obtain ⟨css, h1, h2⟩ := h.pairs
  have hkl := (List.getElem?_eq_some_iff.1 hf).1
  obtain ⟨g, cap, hv, _⟩ := h1.form (by omega)
  cases hv
  obtain ⟨cs, hc, hr⟩ := h2.2 k f hf
  obtain ⟨a', n', c', rfl, q1, q2, q3, q4⟩ := repF_rd.1 hr
  obtain rfl : n' = f.args.length := q3.1.symm
  have hat := fun (i : Nat) (u : Value) (hu : [Value.string f.name, .slice a' f.args.length c', .int .i64 f.res][i]? = some u) => h1.cells (g := g) rfl _ u (flat_at (k := 3) (OwnR.lens h2.1 h2.2) hc hu)
  exact ⟨g, a', c', rfl, hat 0 _ rfl, hat 1 _ rfl, hat 2 _ rfl, q3, q4, q1, q2⟩
theorem find_hit {T : TabD} {s : ByteArray} {k : Nat} {f : FunD} (h : ∀ j f, j < k → T.funs[j]? = some f → (f.name.toList == s.toList) = false) (hk : T.funs[k]? = some f) (hx : (f.name.toList == s.toList) = true) : findF T s = some f ∧ lookF T s = f := by
  have e : findF T s = some f := by
    have := idxP_find (p := fun f : FunD => eqS f.name s) T.funs 0
    unfold findF
    have hh := idxP_hit (p := fun f : FunD => eqS f.name s) (xs := T.funs) (fun j f hj hf => h j f hj hf) hk hx
    cases hf : T.funs.find? (fun f => eqS f.name s) with
    | none => rw [hf] at this; dsimp only at this; rw [this] at hh; omega
    | some y =>
      rw [hf] at this
      obtain ⟨k2, h1, h2⟩ := this
      rw [hh] at h1
      obtain rfl : k = k2 := by omega
      rw [hk] at h2
      exact h2.symm
  exact ⟨e, by unfold lookF; rw [e]; rfl⟩
theorem find_miss {T : TabD} {s : ByteArray} (h : ∀ j f, j < T.funs.length → T.funs[j]? = some f → (f.name.toList == s.toList) = false) : findF T s = none ∧ lookF T s = noFun := by
  have e : findF T s = none := by
    unfold findF
    rw [List.find?_eq_none]
    intro f hf
    obtain ⟨j, hj, rfl⟩ := List.getElem_of_mem hf
    have := h j _ hj (List.getElem?_eq_getElem hj)
    show ¬ eqS _ _ = true
    unfold eqS
    rw [this]; decide
  exact ⟨e, by unfold lookF; rw [e]; rfl⟩
set_option maxRecDepth 100000 in
set_option maxHeartbeats 2000000 in
theorem rfind_any (B p : Nat) (T : TabD) (s : ByteArray) (w : World) (h : RefX X B p T w) (hs : Small T) :
    Calls Tryz.prog 64 #[.pointer (some ⟨p, 0, none⟩), .string s] w fun e w' => TellF X (lookF T s) (findF T s).isSome w e w' := by
  have hB0 : Below w.heap.size w (w.alloc (.cells #[.string ⟨#[]⟩, .slice none 0 0, .int .i64 0] 75)) := (Below.refl _ _).alloc (Nat.le_refl _) _
  have h2 := h.all hB0
  have hfl := hs.f
  have hplt := h.plt
  obtain ⟨a1, c1, a2, c2, a3, c3, hblk, _, o2, _⟩ := h2.look
  have k1 := cell_p hblk 1
  simp only [List.getElem?_toArray, List.getElem?_cons_succ, List.getElem?_cons_zero] at k1
  have O2 := Lib.hid o2
  have hB0' := Lib.hid hB0
  have H2 := heap_alloc_new w (.cells #[.string ⟨#[]⟩, .slice none 0 0, .int .i64 0] 75)
  have k20 := cell_p H2 0
  have k21 := cell_p H2 1
  have k22 := cell_p H2 2
  simp only [List.getElem?_toArray, List.getElem?_cons_succ, List.getElem?_cons_zero] at k20 k21 k22
  have f20 := frz_p H2 0
  have f21 := frz_p H2 1
  have f22 := frz_p H2 2
  have hN := Lib.hid (show ¬ IntX X (w.alloc (.cells #[.string ⟨#[]⟩, .slice none 0 0, .int .i64 0] 75)) w.heap.size from fun h => ty_ne (by decide) h.2 ⟨_, _, H2⟩)
  have hpn : p ≠ w.heap.size := by omega
  clear h h2 hB0 hblk o2 H2 hs
  go_enter Tryz.func64, Tryz.ntmps64
  go_wp2
  generalize (w.alloc (.cells #[.string ⟨#[]⟩, .slice none 0 0, .int .i64 0] 75)) = w1 at *
  go_loopw [5, 6] (fun _ i wr => ∃ k : Nat, k ≤ T.funs.length ∧ i = .int .i64 k ∧ wr = w1 ∧ Hid (∀ j f, j < k → T.funs[j]? = some f → (f.name.toList == s.toList) = false)) (fun _ i _ => T.funs.length - (intOf i).toNat)
  case atStart => exact ⟨0, Nat.zero_le _, rfl, rfl, by intro j f hj; omega⟩
  case round =>
    obtain ⟨k, hk, rfl, rfl, hne⟩ := hrel
    by_cases hlt : k < T.funs.length
    · have hf := List.getElem?_eq_getElem hlt
      obtain ⟨g, a', c', rfl, q0, q1, q2, q3, q4, q5, q6⟩ := O2.out.funAt hf
      have Q3 := Lib.hid q3
      have Q5 := Lib.hid (And.intro q5 q6)
      have hf' := Lib.hid hf
      clear hf q3 q4 q5 q6
      cases he : (T.funs[k].name.toList == s.toList)
      · have hsn := @Lib.hid (∀ j f, j < k + 1 → T.funs[j]? = some f → (f.name.toList == s.toList) = false) (fun j f hj hf => by
          by_cases hjk : j < k
          · exact hne.out j f hjk hf
          · obtain rfl : j = k := by omega
            rw [hf'.out] at hf
            cases hf
            exact he)
        generalize T.funs[k] = f at *
        go_wp2
        go_roundw
        case rel => exact ⟨k + 1, by omega, by go_num, by trivial, hsn.out⟩
        case measure => simp [intOf]; omega
      · have hv := Lib.hid (find_hit (fun j f hj hf => hne.out j f hj hf) hf'.out he)
        generalize T.funs[k] = f at *
        go_wp2
        refine bodyPost_ret (v := .tuple #[funV f.name a' f.args.length c' f.res, .bool true]) (by simp [results, Tryz.results64, go_sem, *]) rfl ?_
        refine ⟨a', c', by rw [hv.out.1, hv.out.2] <;> rfl, by rw [hv.out.2]; exact ((Q3.out.intSet hN.out).intSet (fun h => hN.out (intB_set.1 h))).intSet (fun h => hN.out (intB_set.1 (intB_set.1 h))), by rw [hv.out.2]; exact Q5.out.1, Q5.out.2, ?_⟩
        exact ((hB0'.out.setCell (Nat.le_refl _) _).setCell (Nat.le_refl _) _).setCell (Nat.le_refl _) _
    · have hv := Lib.hid (find_miss (T := T) (s := s) (fun j f hj hf => hne.out j f (by omega) hf))
      go_wp2
      refine bodyPost_ret (v := .tuple #[funV ⟨#[]⟩ none 0 0 0, .bool false]) (by simp [results, Tryz.results64, go_sem, *]) rfl ?_
      refine ⟨none, 0, by rw [hv.out.1, hv.out.2] <;> rfl, by rw [hv.out.2]; exact SlR.nil _ _ _ _, by rw [hv.out.2]; exact Nat.le_refl _, Nat.zero_le _, ?_⟩
      exact ((hB0'.out.setCell (Nat.le_refl _) _).setCell (Nat.le_refl _) _).setCell (Nat.le_refl _) _
/-! ### Sort -/
theorem bool_may : mayB sBool = false := may_Bool
theorem real_may : mayB ⟨#[82, 101, 97, 108]⟩ = false := by rw [mayB_data]; decide +kernel
theorem rbad {T : TabD} {s : ByteArray} : (!mayB s || (findSort T s).2) = badSort T s := by
  unfold badSort
  cases hm : mayB s
  · rfl
  · have h1 : (s.toList == [66, 111, 111, 108]) = false := by
      cases h : (s.toList == [66, 111, 111, 108])
      · rfl
      · have : s = sBool := toList_inj (by rw [toL sBool]; simpa [sBool] using h)
        rw [this, bool_may] at hm; cases hm
    have h2 : (s.toList == [82, 101, 97, 108]) = false := by
      cases h : (s.toList == [82, 101, 97, 108])
      · rfl
      · have : s = ⟨#[82, 101, 97, 108]⟩ := toList_inj (by rw [toL ⟨#[82, 101, 97, 108]⟩]; simpa using h)
        rw [this, real_may] at hm; cases hm
    unfold findSort Lib.containsS
    rw [h1, h2]
    by_cases h3 : Lib.idxOfS T.sorts s < 0
    · simp [h3]
    · simp [h3]; omega
def RSortPost (X : Nat → Prop) (B p : Nat) (T : TabD) (s : ByteArray) (w : World) (e : Ending) (w' : World) : Prop :=
  (if badSort T s then e = .returned (.tuple #[.int .i64 0, .int .i64 1]) ∧ RefX X B p T w' else e = .returned (.tuple #[.int .i64 ((T.sorts.length : Int) + 2), .int .i64 0]) ∧ RefX X B p { T with sorts := T.sorts ++ [s] } w') ∧ PStep p w w'
theorem str_one {zs : List ByteArray} : ∀ u ∈ zs.map Value.string, u.oneCell' = true := by
  intro u hu
  obtain ⟨x, _, rfl⟩ := List.mem_map.1 hu
  rfl
theorem str_one1 {z : ByteArray} : ∀ u ∈ [Value.string z], u.oneCell' = true := by
  intro u hu
  obtain rfl := List.mem_singleton.1 hu
  rfl
theorem below_grown {w W : World} {row : Option Nat} (h : Below w.heap.size w W) : w.grownBy W row := ⟨h.os, h.tape, h.output, h.size, fun k hk _ => h.block k hk⟩
set_option maxRecDepth 100000 in
set_option maxHeartbeats 4000000 in
theorem rsort_any (B p : Nat) (T : TabD) (s : ByteArray) (w : World) (h : RefX X B p T w) (hl : T.sorts.length < 1099511627776) :
    Calls Tryz.prog 29 #[.pointer (some ⟨p, 0, none⟩), .string s] w fun e w' => RSortPost X B p T s w e w' := by
  have h' := Lib.hid h
  have hfs := Lib.hid (rfindSort_any B p T s w h hl)
  have hnm := Lib.hid (rname_any s w)
  have hbd := Lib.hid (rbad (T := T) (s := s))
  obtain ⟨i0, hi, hz0, hz1, hz2⟩ := info_parts info_str
  clear h
  cases hb : badSort T s
  case true =>
    rw [hb] at hbd
    cases hm : mayB s
    · rw [hm] at hnm
      clear hm hbd
      go_enter Tryz.func29, Tryz.ntmps29
      go_wp2_with fail
      refine hfs.out.mono ?_; rintro e w' ⟨rfl, rfl⟩
      go_wp2_with fail
      refine hnm.out.mono ?_; rintro e w1 ⟨rfl, b1⟩
      have B1 := Lib.hid b1
      clear b1
      go_wp2
      go_ret2
      unfold RSortPost
      rw [if_pos hb]
      exact ⟨⟨rfl, h'.out.all B1.out⟩, .of_below h'.out.plt B1.out⟩
    · have hf2 : (findSort T s).2 = true := by have := hbd.out; rw [hm] at this; simpa using this
      rw [hm] at hnm
      rw [hf2] at hfs
      clear hm hbd hf2
      go_enter Tryz.func29, Tryz.ntmps29
      go_wp2_with fail
      refine hfs.out.mono ?_; rintro e w' ⟨rfl, rfl⟩
      go_wp2_with fail
      refine hnm.out.mono ?_; rintro e w1 ⟨rfl, b1⟩
      have B1 := Lib.hid b1
      clear b1
      go_wp2
      go_ret2
      unfold RSortPost
      rw [if_pos hb]
      exact ⟨⟨rfl, h'.out.all B1.out⟩, .of_below h'.out.plt B1.out⟩
  case false =>
    rw [hb] at hbd
    have hm : mayB s = true := by have := hbd.out; cases hm : mayB s <;> simp_all
    have hf2 : (findSort T s).2 = false := by have := hbd.out; rw [hm] at this; simpa using this
    rw [hm] at hnm
    rw [hf2] at hfs
    clear hm hbd hf2
    go_enter Tryz.func29, Tryz.ntmps29
    go_wp2_with fail
    refine hfs.out.mono ?_; rintro e w' ⟨rfl, rfl⟩
    go_wp2_with fail
    refine hnm.out.mono ?_; rintro e w1 ⟨rfl, b1⟩
    have B1 := Lib.hid b1
    have R1 := Lib.hid (h'.out.all b1)
    obtain ⟨a1, c1, a2, c2, a3, c3, hblk, o1, o2, o3⟩ := R1.out.look
    have k0 : w1.cell? ⟨p, 0, none⟩ = some (.slice a1 T.sorts.length c1) := cell_p hblk 0
    have hblk' := Lib.hid hblk
    have hplt := R1.out.plt
    obtain ⟨css, pA0, sA0, _⟩ := (o1.read (S' := fun _ => True) (fun _ _ _ => trivial) (fun _ _ => trivial)).pairs
    obtain ⟨css2, _, pB0⟩ := o1.pairs
    have ecss : css = css2 := by
      apply List.ext_getElem?
      intro j
      by_cases hj : j < T.sorts.length
      · obtain ⟨x1, y1, z1⟩ := pA0.2 j _ (List.getElem?_eq_getElem hj)
        obtain ⟨x2, y2, z2⟩ := pB0.2 j _ (List.getElem?_eq_getElem hj)
        have z1' : x1 = [.string _] := z1
        have z2' : x2 = [.string _] := z2
        rw [y1, y2, z1', z2']
      · rw [List.getElem?_eq_none (by rw [pA0.1]; omega), List.getElem?_eq_none (by rw [pB0.1]; omega)]
    subst ecss
    have sA := Lib.hid (show Src w1 1 a1 T.sorts.length css.flatten by have := sA0 T.sorts.length (Nat.le_refl _); rwa [List.take_of_length_le (by rw [pA0.1]; exact Nat.le_refl _)] at this)
    have pA := Lib.hid pB0
    have pO := Lib.hid pA0.ones
    clear b1 hblk o1 o2 o3 pA0 pB0 sA0
    have hK1 : Below w1.heap.size w1 (w1.alloc (.cells #[] 9)) := keep_alloc (Below.refl _ _) _
    have hK1' := Lib.hid hK1
    clear hK1
    go_wp2_with (at_builtin; refine wpList_append_C (base := w1.heap.size) rfl (.tmp 21) (.tmp 25) rfl Tryz.underlying47 hi hz0 hz1 hz2 rfl (by decide) (Eq.refl (Value.slice _ _ _)) rfl (OwnC.lit0 rfl (Nat.le_refl _)) (Src.keep sA.out hK1'.out) pO.out ?c3 ?c4 ?c5 ?_)
    case c3 => unfold maxLen; omega
    case c4 => omega
    case c5 => simp
    intro v' w2 ho2 hg2 _
    have B2 := Lib.hid (keep_push hK1'.out hg2 (by intro k hk; simp [Value.ownBlock] at hk; omega))
    obtain ⟨a', c', rfl, _⟩ := ho2.slice
    have O2 := Lib.hid ho2
    clear ho2 hg2
    have hsz2 := B2.out.size
    go_wp2_with (at_builtin; refine wpList_append_C (base := w1.heap.size) rfl (.tmp 26) (.tmp 28) rfl Tryz.underlying47 hi hz0 hz1 hz2 rfl (by decide) (Eq.refl (Value.slice _ _ _)) rfl (O2.out.alloc _) (Src.lit (CellsF.lit1 rfl) rfl) str_one1 ?c3 ?c4 ?c5 ?_)
    case c3 => unfold maxLen; omega
    case c4 => omega
    case c5 => simp; omega
    intro v'' w3 ho3 hg3 _
    have b3 := keep_push (keep_alloc B2.out _) hg3 (fun k hk => (O2.out.lt k hk).1)
    have B3 := Lib.hid b3
    have k3 := keep_cell b3 k0
    have f3 := frz_p ((b3.block p hplt).trans hblk'.out) 0
    obtain ⟨a'', c'', rfl, _⟩ := ho3.slice
    have O3 := Lib.hid (((pA.out.append (Pairs.one (show Rep.str.rd (fun _ => False) w1 s [.string s] from rfl))).below b3).own (by rw [List.flatten_append, List.flatten_singleton]; exact ho3.lower (Nat.le_trans R1.out.bp (Nat.le_of_lt hplt))) (by simp))
    have L3 := Lib.hid (fun k hk => (ho3.lt k hk).1)
    clear ho3 hg3 b3 k0
    go_wp2
    go_ret2
    unfold RSortPost
    rw [if_neg (by rw [hb]; decide)]
    obtain ⟨t1, s1⟩ := R1.out.setSorts hblk'.out (below_grown B3.out) (.inr L3.out) O3.out
    refine ⟨⟨?_, t1⟩, (PStep.of_below h'.out.plt B1.out).trans s1⟩
    simp
    omega
end Go.Proofs.YtikmkalfdiiahaaGreatDoor

/-
  theodoliteref6.Sorts: Name, Push, Pop. Conditions: a table in memory of fewer than 2^40 entries, whose marks rise and lie within.
-/
namespace Go.Proofs.YtikmkalfdiiahaaGreatDoor
open Go.RowKit Go.Sort Go.Lib
variable {X : Nat → Prop}

theorem info_level : (Tryz.prog.info? 256).map (fun i => (i.zero, i.size, i.bytes)) = some (some (.agg #[.int .i64 0, .int .i64 0]), 2, 16) := by kernel_rfl
theorem info_level1 : ∃ (i : TypeInfo) (z : Value), Tryz.prog.info? 256 = some i ∧ i.zero = some z ∧ i.size = 2 ∧ i.bytes = 16 ∧ z.cells.size = 2 := by
  cases h : Tryz.prog.info? 256 with
  | none => exact absurd h (by decide +kernel)
  | some i =>
    have := info_level
    rw [h] at this
    simp at this
    exact ⟨i, _, rfl, this.1, this.2.1, this.2.2, rfl⟩
theorem OwnC.lits {w : World} {base : Nat} {e : TypeId} {us : List Value} (hb : base ≤ w.heap.size) (hn : us.length ≤ maxLen) : OwnC (w.alloc (.cells us.toArray e)) base e 1 (.slice (some ⟨w.heap.size, 0, none⟩) us.length us.length) us.length us := by
  refine ⟨by simp, .inr ⟨w.heap.size, us.length, us.toArray, rfl, hb, ?_, Nat.le_refl _, hn, by simp, by simp⟩⟩
  show (w.heap.push _)[w.heap.size]? = _
  simp
/-- the three cells of a struct -/
def C3 (p : Nat) (x y z : Value) (W : World) : Prop := W.cell? ⟨p, 0, none⟩ = some x ∧ W.cell? ⟨p, 1, none⟩ = some y ∧ W.cell? ⟨p, 2, none⟩ = some z
theorem cell_more2 {W : World} {y : Addr} {u : Value} (h : W.cell? y = some u) (o : Obj) : (W.alloc o).cell? y = some u := by
  rw [World.cell?_alloc_lt _ _ _ (World.block_lt_of_cell? W _ h)]; exact h
theorem C3.alloc {p : Nat} {x y z : Value} {W : World} (h : C3 p x y z W) (o : Obj) : C3 p x y z (W.alloc o) := ⟨cell_more2 h.1 o, cell_more2 h.2.1 o, cell_more2 h.2.2 o⟩
theorem C3.grown {p : Nat} {x y z : Value} {W W' : World} {row : Option Nat} (h : C3 p x y z W) (hg : W.grownBy W' row) (hp : p < W.heap.size) (hr : row ≠ some p) : C3 p x y z W' :=
  ⟨(cell_grown hg hp hr).trans h.1, (cell_grown hg hp hr).trans h.2.1, (cell_grown hg hp hr).trans h.2.2⟩
/-! ### Push -/
def RPushPost (X : Nat → Prop) (B p : Nat) (T : TabD) (w : World) (e : Ending) (w' : World) : Prop :=
  e = .returned (.tuple #[]) ∧ RefX X B p { T with marks := T.marks ++ [(T.sorts.length, T.funs.length)] } w' ∧ PStep p w w'
/-! ### Name -/
end Go.Proofs.YtikmkalfdiiahaaGreatDoor

/-
  theodoliteref6.Sorts: Pop. Conditions: a table in memory of fewer than 2^40 entries, whose marks rise and lie within.
-/
namespace Go.Proofs.YtikmkalfdiiahaaGreatDoor
open Go.RowKit Go.Sort Go.Lib
variable {X : Nat → Prop}

theorem size_level (w : World) : (sizeOf 256).run Tryz.prog w = .ok 2 w := by kernel_rfl
def RPopPost (X : Nat → Prop) (B p : Nat) (T : TabD) (n : Int) (w : World) (e : Ending) (w' : World) : Prop :=
  e = .returned (.int .i64 (errPop T n)) ∧ RefX X B p (popT T n) w' ∧ PStep p w w'
theorem cell_set2 {W : World} {q y : Addr} {u v : Value} (h : W.cell? y = some u) (hne : q ≠ y) : (W.setCell q v).cell? y = some u := by
  rw [World.cell?_setCell_other _ _ _ _ hne]; exact h
theorem rpopDone {B p : Nat} {T : TabD} {w : World} {a1 a2 : Option Addr} {c1 c2 x1 x2 : Nat} {v3 : Value} (h : RefX X B p T w)
    (hb : w.heap[p]? = some (.cells #[.slice a1 T.sorts.length c1, .slice a2 T.funs.length c2, v3] 68 (0, 0)))
    (o1 : OwnR Rep.str (fun _ => False) w B 9 (.slice a1 T.sorts.length c1) T.sorts)
    (h1 : x1 ≤ T.sorts.length) (hc1 : T.sorts.length ≤ c1) (h2 : x2 ≤ T.funs.length) (hc2 : T.funs.length ≤ c2) :
    RefX X B p ⟨T.sorts.take x1, T.funs.take x2, T.marks⟩ ((w.setCell ⟨p, 0, none⟩ (.slice a1 x1 c1)).setCell ⟨p, 1, none⟩ (.slice a2 x2 c2)) ∧
    PStep p w ((w.setCell ⟨p, 0, none⟩ (.slice a1 x1 c1)).setCell ⟨p, 1, none⟩ (.slice a2 x2 c2)) := by
  obtain ⟨tA, sA⟩ := h.setSorts hb (grown_refl' _ _) (.inl (cutOwn (k := x1) (c' := c1))) (o1.cut h1 (Nat.le_trans h1 hc1) (Nat.le_refl _))
  have hA := set_block (i := 0) (v := .slice a1 x1 c1) hb
  obtain ⟨u1, u2, u3, e, _, p2, p3⟩ := tA.blk
  rw [hA] at e
  cases e
  obtain ⟨tB, sB⟩ := tA.setFuns hA (grown_refl' _ _) (.inl (cutOwn (k := x2) (c' := c2))) (p2.cut h2 (Nat.le_trans h2 hc2) (Nat.le_refl _))
  exact ⟨tB, sA.trans sB⟩
end Go.Proofs.YtikmkalfdiiahaaGreatDoor

/-
  theodoliteref6.Sorts: Fun. Conditions: a table in memory of fewer than 2^40 entries, each function of fewer than 2^40 sorts.
-/
namespace Go.Proofs.YtikmkalfdiiahaaGreatDoor
open Go.RowKit Go.Sort Go.Lib
variable {X : Nat → Prop}

theorem int_one {xs : List Int} : ∀ u ∈ xs.map (Value.int .i64), u.oneCell' = true := by
  intro u hu
  obtain ⟨x, _, rfl⟩ := List.mem_map.1 hu
  rfl
theorem OwnC.carry {w W : World} {base size n : Nat} {e : TypeId} {v : Value} {xs : List Value} {row : Option Nat} (h : OwnC w base e size v n xs) (hg : w.grownBy W row) (hr : ∀ k, v.ownBlock = some k → row ≠ some k) : OwnC W base e size v n xs :=
  h.same fun k hk => hg.block k (h.lt k hk).2 (Ne.symm (hr k hk))
theorem own_intC {w : World} {base n : Nat} {a : Option Addr} {m c : Nat} {xs : List Int} (h : OwnC w base 3 1 (.slice a m c) n (xs.map (Value.int .i64))) (hwf : WfI xs) (hX : ∀ k, X k → k < base) : SlR Rep.int (IntX X w) w a n xs := by
  obtain ⟨_, h2, _⟩ := h.rdI hwf
  refine SlR.ofI h2 fun x hn hx => ?_
  subst hx
  exact ⟨fun hxx => by have := hX _ hxx; have := (h.lt _ rfl).1; omega, h.ty _ rfl⟩
def RFunPost (X : Nat → Prop) (B p : Nat) (T : TabD) (f : FunD) (w : World) (e : Ending) (w' : World) : Prop :=
  e = .returned (.int .i64 (errFun T f)) ∧ RefX X B p (addFun T f) w' ∧ PStep p w w'
theorem RFunPost.no {B p : Nat} {T : TabD} {f : FunD} {w w' : World} {z : Int} (h : RefX X B p T w) (hb : Below w.heap.size w w') (hz : errFun T f = z) (h0 : z ≠ 0) : RFunPost X B p T f w (.returned (.int .i64 z)) w' := by
  refine ⟨by rw [hz], ?_, .of_below h.plt hb⟩
  unfold addFun
  rw [hz, if_neg h0]
  exact h.all hb
theorem rfunDone {B p : Nat} {T : TabD} {nm : ByteArray} {args : List Int} {r : Int} {w wr W : World} {a1 a2 a3 a7 a8 : Option Addr} {c1 c2 c3 c7 c8 : Nat} {css : List (List Value)} {n8 : Nat} {xs8 : List Value} (h : RefX X B p T wr)
    (hb : wr.heap[p]? = some (.cells #[.slice a1 T.sorts.length c1, .slice a2 T.funs.length c2, .slice a3 T.marks.length c3] 68 (0, 0)))
    (hB : Below wr.heap.size wr W) (hp : Pairs repF (IntX X wr) wr T.funs css) (hx8 : xs8 = css.flatten ++ [Value.string nm, .slice a7 args.length c7, .int .i64 r] ∧ n8 = T.funs.length + 1)
    (ho : OwnC W wr.heap.size 75 3 (.slice a8 n8 c8) n8 xs8) (hi : OwnC W wr.heap.size 3 1 (.slice a7 args.length c7) args.length (args.map (Value.int .i64)))
    (hwf : WfI args) (hr : okI r) (h7 : args.length ≤ c7) (h72 : c7 ≤ maxLen) (hv : errFun T ⟨nm, args, r⟩ = 0) (hps : PStep p w wr) : RFunPost X B p T ⟨nm, args, r⟩ w (.returned (.int .i64 0)) (W.setCell ⟨p, 1, none⟩ (.slice a8 n8 c8)) := by
  obtain ⟨rfl, rfl⟩ := hx8
  have hrd := (repF_rd (f := ⟨nm, args, r⟩)).2 ⟨a7, _, c7, rfl, h7, h72, own_intC hi hwf h.xlt, hr⟩
  have hpp : Pairs repF (IntX X W) W (T.funs ++ [⟨nm, args, r⟩]) (css ++ [[.string nm, .slice a7 args.length c7, .int .i64 r]]) := by
    refine Pairs.append ⟨hp.1, fun j x hx => ?_⟩ (Pairs.one hrd)
    obtain ⟨cs, e1, e2⟩ := (hp.below hB).2 j x hx
    exact ⟨cs, e1, repF.mono e2 fun b _ hb => hb.same (hB.block b hb.lt)⟩
  have hO := hpp.own (by rw [List.flatten_append, List.flatten_singleton]; exact ho.lower (Nat.le_trans h.bp (Nat.le_of_lt h.plt))) (by simp)
  obtain ⟨t1, s1⟩ := h.setFuns hb (below_grown hB) (.inr fun k hk => (ho.lt k hk).1) hO
  refine ⟨by rw [hv], ?_, hps.trans s1⟩
  unfold addFun
  rw [hv, if_pos rfl]
  exact t1
set_option maxRecDepth 100000 in
set_option maxHeartbeats 4000000 in
theorem rfun_any (B p : Nat) (T : TabD) (f : FunD) (a : Option Addr) (c : Nat) (w : World) (h : RefX X B p T w) (hs : Small T) (hx : RdI w a f.args.length f.args) (hn : f.args.length < 1099511627776) (hcn : f.args.length ≤ c) :
    Calls Tryz.prog 32 #[.pointer (some ⟨p, 0, none⟩), funV f.name a f.args.length c f.res] w fun e w' => RFunPost X B p T f w e w' := by
  have h' := Lib.hid h
  have hx' := Lib.hid hx
  have hd := @Lib.hid (errFun T f = if !mayFunB T f.name then 1 else if decide (64 < f.args.length) then 1 else if !isB T.sorts.length f.res then 1 else if f.args.any (argBad T.sorts.length) then 1 else if decide (1000 ≤ T.funs.length) then 4 else 0) rfl
  have hdm := @Lib.hid (mayFunB T f.name = (mayB f.name && !(findF T f.name).isSome)) rfl
  have hB0 : Below w.heap.size w (w.alloc (.cells #[.string f.name, .slice a f.args.length c, .int .i64 f.res] 75)) := (Below.refl _ _).alloc (Nat.le_refl _) _
  have hB0' := Lib.hid hB0
  have hfd := Lib.hid (rfind_any B p T f.name _ (h.all hB0) hs)
  have hplt := h.plt
  have hsl := hs.s
  have hfl := hs.f
  clear h hs hx hB0
  generalize lookF T f.name = ff at *
  generalize hfo : (findF T f.name).isSome = fo at *
  obtain ⟨nm, args, r⟩ := f
  dsimp only at *
  have hnm := Lib.hid (fun w => rname_any nm w)
  cases hmy : mayB nm
  case false =>
    have hv := @Lib.hid (errFun T ⟨nm, args, r⟩ = 1) (by rw [hd.out, hdm.out, hmy]; rfl)
    rw [hmy] at hnm
    clear hmy hd hdm
    go_enter Tryz.func32, Tryz.ntmps32
    go_wp2_with fail
    refine hfd.out.mono ?_
    rintro e w1 ⟨af, cf, rfl, _, _, _, hb1⟩
    have b01 := hB0'.out.trans (hb1.mono (by simp))
    have bL := b01.alloc b01.size (.cells #[.string ff.name, .slice af ff.args.length cf, .int .i64 ff.res] 75)
    have H0 := (Below.heap_alloc w1 (.cells #[.string ff.name, .slice af ff.args.length cf, .int .i64 ff.res] 75) w.heap.size (by have := hb1.size; simp at this; omega)).trans ((hb1.block w.heap.size (by simp)).trans (heap_alloc_new w _))
    have bL' := Lib.hid bL
    have H0' := Lib.hid H0
    have hlt0 := (Array.getElem?_eq_some_iff.1 H0).1
    have k00 : (w1.alloc (.cells #[.string ff.name, .slice af ff.args.length cf, .int .i64 ff.res] 75)).cell? ⟨w.heap.size, 0, none⟩ = some (.string nm) := cell_p H0 0
    have k01 : (w1.alloc (.cells #[.string ff.name, .slice af ff.args.length cf, .int .i64 ff.res] 75)).cell? ⟨w.heap.size, 1, none⟩ = some (.slice a args.length c) := cell_p H0 1
    have k02 : (w1.alloc (.cells #[.string ff.name, .slice af ff.args.length cf, .int .i64 ff.res] 75)).cell? ⟨w.heap.size, 2, none⟩ = some (.int .i64 r) := cell_p H0 2
    clear b01 bL H0 hb1
    go_wp2_with fail
    refine (hnm.out _).mono ?_
    rintro e w2 ⟨rfl, hb2⟩
    have B2 := Lib.hid (bL'.out.trans (hb2.mono bL'.out.size))
    have H2 := (hb2.block w.heap.size hlt0).trans H0'.out
    have k0 : w2.cell? ⟨w.heap.size, 0, none⟩ = some (.string nm) := cell_p H2 0
    have k1 : w2.cell? ⟨w.heap.size, 1, none⟩ = some (.slice a args.length c) := cell_p H2 1
    have k2 : w2.cell? ⟨w.heap.size, 2, none⟩ = some (.int .i64 r) := cell_p H2 2
    have R2 := Lib.hid (h'.out.all B2.out)
    clear hb2 H2 hlt0 k00 k01 k02
    go_wp2
    go_ret
    exact RFunPost.no h'.out B2.out hv.out (by decide)
  case true =>
  rw [hmy] at hnm hdm
  cases fo
  case true =>
    have hv := @Lib.hid (errFun T ⟨nm, args, r⟩ = 1) (by rw [hd.out, hdm.out]; rfl)
    clear hmy hd hdm
    go_enter Tryz.func32, Tryz.ntmps32
    go_wp2_with fail
    refine hfd.out.mono ?_
    rintro e w1 ⟨af, cf, rfl, _, _, _, hb1⟩
    have b01 := hB0'.out.trans (hb1.mono (by simp))
    have bL := b01.alloc b01.size (.cells #[.string ff.name, .slice af ff.args.length cf, .int .i64 ff.res] 75)
    have H0 := (Below.heap_alloc w1 (.cells #[.string ff.name, .slice af ff.args.length cf, .int .i64 ff.res] 75) w.heap.size (by have := hb1.size; simp at this; omega)).trans ((hb1.block w.heap.size (by simp)).trans (heap_alloc_new w _))
    have bL' := Lib.hid bL
    have H0' := Lib.hid H0
    have hlt0 := (Array.getElem?_eq_some_iff.1 H0).1
    have k00 : (w1.alloc (.cells #[.string ff.name, .slice af ff.args.length cf, .int .i64 ff.res] 75)).cell? ⟨w.heap.size, 0, none⟩ = some (.string nm) := cell_p H0 0
    have k01 : (w1.alloc (.cells #[.string ff.name, .slice af ff.args.length cf, .int .i64 ff.res] 75)).cell? ⟨w.heap.size, 1, none⟩ = some (.slice a args.length c) := cell_p H0 1
    have k02 : (w1.alloc (.cells #[.string ff.name, .slice af ff.args.length cf, .int .i64 ff.res] 75)).cell? ⟨w.heap.size, 2, none⟩ = some (.int .i64 r) := cell_p H0 2
    clear b01 bL H0 hb1
    go_wp2_with fail
    refine (hnm.out _).mono ?_
    rintro e w2 ⟨rfl, hb2⟩
    have B2 := Lib.hid (bL'.out.trans (hb2.mono bL'.out.size))
    have H2 := (hb2.block w.heap.size hlt0).trans H0'.out
    have k0 : w2.cell? ⟨w.heap.size, 0, none⟩ = some (.string nm) := cell_p H2 0
    have k1 : w2.cell? ⟨w.heap.size, 1, none⟩ = some (.slice a args.length c) := cell_p H2 1
    have k2 : w2.cell? ⟨w.heap.size, 2, none⟩ = some (.int .i64 r) := cell_p H2 2
    have R2 := Lib.hid (h'.out.all B2.out)
    clear hb2 H2 hlt0 k00 k01 k02
    go_wp2
    go_ret
    exact RFunPost.no h'.out B2.out hv.out (by decide)
  case false =>
  by_cases h64 : 64 < args.length
  · have hv := @Lib.hid (errFun T ⟨nm, args, r⟩ = 1) (by rw [hd.out, hdm.out]; simp [h64])
    have h64i : (64 : Int) < args.length := by omega
    clear hmy hd hdm
    go_enter Tryz.func32, Tryz.ntmps32
    go_wp2_with fail
    refine hfd.out.mono ?_
    rintro e w1 ⟨af, cf, rfl, _, _, _, hb1⟩
    have b01 := hB0'.out.trans (hb1.mono (by simp))
    have bL := b01.alloc b01.size (.cells #[.string ff.name, .slice af ff.args.length cf, .int .i64 ff.res] 75)
    have H0 := (Below.heap_alloc w1 (.cells #[.string ff.name, .slice af ff.args.length cf, .int .i64 ff.res] 75) w.heap.size (by have := hb1.size; simp at this; omega)).trans ((hb1.block w.heap.size (by simp)).trans (heap_alloc_new w _))
    have bL' := Lib.hid bL
    have H0' := Lib.hid H0
    have hlt0 := (Array.getElem?_eq_some_iff.1 H0).1
    have k00 : (w1.alloc (.cells #[.string ff.name, .slice af ff.args.length cf, .int .i64 ff.res] 75)).cell? ⟨w.heap.size, 0, none⟩ = some (.string nm) := cell_p H0 0
    have k01 : (w1.alloc (.cells #[.string ff.name, .slice af ff.args.length cf, .int .i64 ff.res] 75)).cell? ⟨w.heap.size, 1, none⟩ = some (.slice a args.length c) := cell_p H0 1
    have k02 : (w1.alloc (.cells #[.string ff.name, .slice af ff.args.length cf, .int .i64 ff.res] 75)).cell? ⟨w.heap.size, 2, none⟩ = some (.int .i64 r) := cell_p H0 2
    clear b01 bL H0 hb1
    go_wp2_with fail
    refine (hnm.out _).mono ?_
    rintro e w2 ⟨rfl, hb2⟩
    have B2 := Lib.hid (bL'.out.trans (hb2.mono bL'.out.size))
    have H2 := (hb2.block w.heap.size hlt0).trans H0'.out
    have k0 : w2.cell? ⟨w.heap.size, 0, none⟩ = some (.string nm) := cell_p H2 0
    have k1 : w2.cell? ⟨w.heap.size, 1, none⟩ = some (.slice a args.length c) := cell_p H2 1
    have k2 : w2.cell? ⟨w.heap.size, 2, none⟩ = some (.int .i64 r) := cell_p H2 2
    have R2 := Lib.hid (h'.out.all B2.out)
    clear hb2 H2 hlt0 k00 k01 k02
    go_wp2
    go_ret
    exact RFunPost.no h'.out B2.out hv.out (by decide)
  cases hir : isB T.sorts.length r
  case false =>
    have hv := @Lib.hid (errFun T ⟨nm, args, r⟩ = 1) (by rw [hd.out, hdm.out, hir]; simp)
    clear hmy hd hdm
    go_enter Tryz.func32, Tryz.ntmps32
    go_wp2_with fail
    refine hfd.out.mono ?_
    rintro e w1 ⟨af, cf, rfl, _, _, _, hb1⟩
    have b01 := hB0'.out.trans (hb1.mono (by simp))
    have bL := b01.alloc b01.size (.cells #[.string ff.name, .slice af ff.args.length cf, .int .i64 ff.res] 75)
    have H0 := (Below.heap_alloc w1 (.cells #[.string ff.name, .slice af ff.args.length cf, .int .i64 ff.res] 75) w.heap.size (by have := hb1.size; simp at this; omega)).trans ((hb1.block w.heap.size (by simp)).trans (heap_alloc_new w _))
    have bL' := Lib.hid bL
    have H0' := Lib.hid H0
    have hlt0 := (Array.getElem?_eq_some_iff.1 H0).1
    have k00 : (w1.alloc (.cells #[.string ff.name, .slice af ff.args.length cf, .int .i64 ff.res] 75)).cell? ⟨w.heap.size, 0, none⟩ = some (.string nm) := cell_p H0 0
    have k01 : (w1.alloc (.cells #[.string ff.name, .slice af ff.args.length cf, .int .i64 ff.res] 75)).cell? ⟨w.heap.size, 1, none⟩ = some (.slice a args.length c) := cell_p H0 1
    have k02 : (w1.alloc (.cells #[.string ff.name, .slice af ff.args.length cf, .int .i64 ff.res] 75)).cell? ⟨w.heap.size, 2, none⟩ = some (.int .i64 r) := cell_p H0 2
    clear b01 bL H0 hb1
    go_wp2_with fail
    refine (hnm.out _).mono ?_
    rintro e w2 ⟨rfl, hb2⟩
    have B2 := Lib.hid (bL'.out.trans (hb2.mono bL'.out.size))
    have H2 := (hb2.block w.heap.size hlt0).trans H0'.out
    have k0 : w2.cell? ⟨w.heap.size, 0, none⟩ = some (.string nm) := cell_p H2 0
    have k1 : w2.cell? ⟨w.heap.size, 1, none⟩ = some (.slice a args.length c) := cell_p H2 1
    have k2 : w2.cell? ⟨w.heap.size, 2, none⟩ = some (.int .i64 r) := cell_p H2 2
    have R2 := Lib.hid (h'.out.all B2.out)
    clear hb2 H2 hlt0 k00 k01 k02
    have his := Lib.hid (ris_any B p T r w2 R2.out hsl)
    rw [hir] at his
    clear hir
    go_wp2_with fail
    refine his.out.mono ?_; rintro e w' ⟨rfl, rfl⟩
    go_wp2
    go_ret
    exact RFunPost.no h'.out B2.out hv.out (by decide)
  case true =>
  have hd2 := @Lib.hid (errFun T ⟨nm, args, r⟩ = if args.any (argBad T.sorts.length) then 1 else if decide (1000 ≤ T.funs.length) then 4 else 0) (by rw [hd.out, hdm.out, hir]; simp [h64])
  have hrb : okI r := by unfold isB at hir; simp at hir; unfold okI; omega
  have hrb' := Lib.hid hrb
  clear hmy hd hdm hrb
  obtain ⟨i0, hi, hz0, hz1, hz2⟩ := info_parts info_fun
  obtain ⟨j0, hj, hy0, hy1, hy2⟩ := info_parts info_int
  go_enter Tryz.func32, Tryz.ntmps32
  go_wp2_with fail
  refine hfd.out.mono ?_
  rintro e w1 ⟨af, cf, rfl, _, _, _, hb1⟩
  have b01 := hB0'.out.trans (hb1.mono (by simp))
  have bL := b01.alloc b01.size (.cells #[.string ff.name, .slice af ff.args.length cf, .int .i64 ff.res] 75)
  have H0 := (Below.heap_alloc w1 (.cells #[.string ff.name, .slice af ff.args.length cf, .int .i64 ff.res] 75) w.heap.size (by have := hb1.size; simp at this; omega)).trans ((hb1.block w.heap.size (by simp)).trans (heap_alloc_new w _))
  have bL' := Lib.hid bL
  have H0' := Lib.hid H0
  have hlt0 := (Array.getElem?_eq_some_iff.1 H0).1
  have k00 : (w1.alloc (.cells #[.string ff.name, .slice af ff.args.length cf, .int .i64 ff.res] 75)).cell? ⟨w.heap.size, 0, none⟩ = some (.string nm) := cell_p H0 0
  have k01 : (w1.alloc (.cells #[.string ff.name, .slice af ff.args.length cf, .int .i64 ff.res] 75)).cell? ⟨w.heap.size, 1, none⟩ = some (.slice a args.length c) := cell_p H0 1
  have k02 : (w1.alloc (.cells #[.string ff.name, .slice af ff.args.length cf, .int .i64 ff.res] 75)).cell? ⟨w.heap.size, 2, none⟩ = some (.int .i64 r) := cell_p H0 2
  clear b01 bL H0 hb1
  go_wp2_with fail
  refine (hnm.out _).mono ?_
  rintro e w2 ⟨rfl, hb2⟩
  have B2 := Lib.hid (bL'.out.trans (hb2.mono bL'.out.size))
  have H2 := (hb2.block w.heap.size hlt0).trans H0'.out
  have k0 : w2.cell? ⟨w.heap.size, 0, none⟩ = some (.string nm) := cell_p H2 0
  have k1 : w2.cell? ⟨w.heap.size, 1, none⟩ = some (.slice a args.length c) := cell_p H2 1
  have k2 : w2.cell? ⟨w.heap.size, 2, none⟩ = some (.int .i64 r) := cell_p H2 2
  have R2 := Lib.hid (h'.out.all B2.out)
  clear hb2 H2 hlt0 k00 k01 k02
  have his := Lib.hid (ris_any B p T r w2 R2.out hsl)
  rw [hir] at his
  have hia := Lib.hid (fun s => ris_any B p T s w2 R2.out hsl)
  obtain ⟨a1, c1, a2, c2, a3, c3, hblk, o1, o2, o3⟩ := R2.out.look
  have q1 : w2.cell? ⟨p, 1, none⟩ = some (.slice a2 T.funs.length c2) := cell_p hblk 1
  have hblk' := Lib.hid hblk
  have X1 := Lib.hid (hx'.out.below B2.out (Nat.le_refl _))
  have wfX := Lib.hid (show WfI args from hx'.out.wf)
  have sX := Lib.hid (show Src w2 1 a args.length (args.map (Value.int .i64)) by have := (X1.out.srcs (q := args.length) (Nat.le_refl _) hcn).1; rwa [List.take_length] at this)
  have hps := Lib.hid (PStep.of_below hplt B2.out)
  obtain ⟨css, oc, pA0⟩ := o2.pairs
  have hcm := o2.slice
  have sA := Lib.hid (show Src w2 3 a2 T.funs.length css.flatten by
    refine ⟨oc.1, fun h0 => ?_⟩
    obtain ⟨g, cap, hv, _⟩ := oc.form h0
    cases hv
    exact ⟨_, rfl, fun j u hu => by rw [Addr.add_lit, Nat.zero_add]; exact oc.cells (g := g) rfl j u hu⟩)
  have pA := Lib.hid pA0
  have pO := Lib.hid pA0.ones
  clear hir hblk o1 o2 o3 oc pA0 hcm
  go_wp2_with fail
  refine his.out.mono ?_; rintro e w' ⟨rfl, rfl⟩
  go_wp2
  go_loopw [4, 7] (fun _ i wr => ∃ k : Nat, k ≤ args.length ∧ i = .int .i64 k ∧ wr = w2 ∧ Hid (∀ j, j < k → argBad T.sorts.length (nth args j) = false)) (fun _ i _ => args.length - (intOf i).toNat)
  case atStart => exact ⟨0, Nat.zero_le _, rfl, rfl, fun j hj => absurd hj (Nat.not_lt_zero _)⟩
  case round =>
    obtain ⟨k, hk, rfl, rfl, hok⟩ := hrel
    by_cases hlt : k < args.length
    · obtain ⟨b, o, rfl, h1⟩ := X1.out.at k hlt
      have hyes := Lib.hid (fun hb => any_at (p := argBad T.sorts.length) hlt hb)
      have hnext := Lib.hid (fun hb : argBad T.sorts.length (nth args k) = false => show ∀ j, j < k + 1 → argBad T.sorts.length (nth args j) = false from fun j hj => by
        by_cases e : j = k
        · subst e; exact hb
        · exact hok.out j (by omega))
      have hab := @Lib.hid (argBad T.sorts.length (nth args k) = (nth args k == 0 || !isB T.sorts.length (nth args k))) rfl
      generalize nth args k = x at *
      by_cases hx0 : x = 0
      · have hv := @Lib.hid (errFun T ⟨nm, args, r⟩ = 1) (by rw [hd2.out, hyes.out (by rw [hab.out, hx0]; rfl)]; rfl)
        subst hx0
        go_wp2
        go_ret
        exact RFunPost.no h'.out B2.out hv.out (by decide)
      have hx0' : (x == 0) = false := by simpa using hx0
      have hia1 := Lib.hid (hia.out x)
      cases hix : isB T.sorts.length x
      case false =>
        have hv := @Lib.hid (errFun T ⟨nm, args, r⟩ = 1) (by rw [hd2.out, hyes.out (by rw [hab.out, hix]; simp)]; rfl)
        rw [hix] at hia1
        clear hix
        go_wp2_with fail
        refine hia1.out.mono ?_; rintro e w' ⟨rfl, rfl⟩
        go_wp2
        go_ret
        exact RFunPost.no h'.out B2.out hv.out (by decide)
      case true =>
        have hv := Lib.hid (hnext.out (by rw [hab.out, hix, hx0']; rfl))
        rw [hix] at hia1
        clear hix
        go_wp2_with fail
        refine hia1.out.mono ?_; rintro e w' ⟨rfl, rfl⟩
        go_wp2
        go_roundw
        case rel => exact ⟨k + 1, by omega, by go_num, by trivial, hv.out⟩
        case measure => simp [intOf]; omega
    · obtain rfl : k = args.length := by omega
      have hno := Lib.hid (any_take_no (fun j hj => hok.out j hj))
      by_cases h1000 : 1000 ≤ T.funs.length
      · have hv := @Lib.hid (errFun T ⟨nm, args, r⟩ = 4) (by rw [hd2.out, hno.out]; simp [h1000])
        have h1000i : (1000 : Int) ≤ T.funs.length := by omega
        go_wp2
        go_ret
        exact RFunPost.no h'.out B2.out hv.out (by decide)
      · have hv := @Lib.hid (errFun T ⟨nm, args, r⟩ = 0) (by rw [hd2.out, hno.out]; simp [h1000])
        have h1000i : (T.funs.length : Int) < 1000 := by omega
        have hpw := R2.out.plt
        clear hok hno hd2 his hia
        go_wp2
        refine wp_region_tt (S := fun W => Below wr.heap.size wr W) 18 (by kernel_rfl) (by kernel_rfl) (keep_drew wr) (fun hHeld => ?_)
        refine tt_take (i := 0) (v := _) (by rfl) (by decide +kernel) (by exact fun _ _ _ h => h) (Or.inl ⟨by rfl, by (intro W hSw; (try dsimp only at hSw); go_simp <;> with_reducible rfl)⟩) (by assumption) ?_
        (try simp only [Act.put, List.setIfInBounds_toArray, List.set_cons_zero, List.set_cons_succ])
        refine tt_take (i := 2) (v := _) (by rfl) (by decide +kernel) (by exact fun _ _ _ h => h) (Or.inl ⟨by rfl, by (intro W hSw; (try dsimp only at hSw); go_simp <;> with_reducible rfl)⟩) (by assumption) ?_
        (try simp only [Act.put, List.setIfInBounds_toArray, List.set_cons_zero, List.set_cons_succ])
        refine tt_take (i := 3) (v := _) (by rfl) (by decide +kernel) (by exact fun _ _ _ h => h) (Or.inl ⟨by rfl, by (intro W hSw; (try dsimp only at hSw); go_simp <;> with_reducible rfl)⟩) (by assumption) ?_
        (try simp only [Act.put, List.setIfInBounds_toArray, List.set_cons_zero, List.set_cons_succ])
        refine tt_take (i := 4) (v := _) (by rfl) (by decide +kernel) (by exact fun _ _ _ h => h) (Or.inl ⟨by rfl, by (intro W hSw; (try dsimp only at hSw); go_simp <;> with_reducible rfl)⟩) (by assumption) ?_
        (try simp only [Act.put, List.setIfInBounds_toArray, List.set_cons_zero, List.set_cons_succ])
        refine tt_take (i := 5) (v := _) (by rfl) (by decide +kernel) (by exact fun _ _ _ h => h) (Or.inl ⟨by rfl, by (intro W hSw; have hq1 := keep_cell (p := ⟨p, 1, none⟩) hSw q1; go_simp <;> with_reducible rfl)⟩) (by assumption) ?_
        (try simp only [Act.put, List.setIfInBounds_toArray, List.set_cons_zero, List.set_cons_succ])
        refine tt_take (i := 7) (v := _) (by rfl) (by decide +kernel) (by exact fun _ _ _ h => h) (Or.inl ⟨by rfl, by (intro W hSw; (try dsimp only at hSw); go_simp <;> with_reducible rfl)⟩) (by assumption) ?_
        (try simp only [Act.put, List.setIfInBounds_toArray, List.set_cons_zero, List.set_cons_succ])
        refine tt_take (i := 8) (v := _) (by rfl) (by decide +kernel) (by exact fun _ _ _ h => h) (Or.inl ⟨by rfl, by (intro W hSw; have hq1 := keep_cell hSw k0; go_simp <;> with_reducible rfl)⟩) (by assumption) ?_
        (try simp only [Act.put, List.setIfInBounds_toArray, List.set_cons_zero, List.set_cons_succ])
        refine tt_take (i := 10) (v := _) (by rfl) (by decide +kernel) (by exact fun _ _ _ h => h) (Or.inl ⟨by rfl, by (intro W hSw; (try dsimp only at hSw); go_simp <;> with_reducible rfl)⟩) (by assumption) ?_
        (try simp only [Act.put, List.setIfInBounds_toArray, List.set_cons_zero, List.set_cons_succ])
        refine tt_take (i := 11) (v := _) (by rfl) (by decide +kernel) (by exact fun _ _ _ h => h) (Or.inl ⟨by rfl, by (intro W hSw; have hq1 := keep_cell hSw k1; go_simp <;> with_reducible rfl)⟩) (by assumption) ?_
        (try simp only [Act.put, List.setIfInBounds_toArray, List.set_cons_zero, List.set_cons_succ])
        refine tt_take (i := 13) (v := _) (by rfl) (by decide +kernel) (by exact fun _ _ _ h => h) (Or.inl ⟨by rfl, by (intro W hSw; (try dsimp only at hSw); go_simp <;> with_reducible rfl)⟩) (by assumption) ?_
        (try simp only [Act.put, List.setIfInBounds_toArray, List.set_cons_zero, List.set_cons_succ])
        refine tt_take (i := 14) (v := _) (by rfl) (by decide +kernel) (by exact fun _ _ _ h => h) (Or.inl ⟨by rfl, by (intro W hSw; have hq1 := keep_cell hSw k2; go_simp <;> with_reducible rfl)⟩) (by assumption) ?_
        (try simp only [Act.put, List.setIfInBounds_toArray, List.set_cons_zero, List.set_cons_succ])
        refine tt_ready (rs := [1, 9]) (by decide +kernel) (allT_cons (by rfl) (fun K hK => ?_) (allT_cons (by rfl) (fun K hK => ?_) allT_nil))
        · skip
          go_simp
          refine hK.out _ _ (by (exact keep_alloc (by assumption) _)) (fun hHeld2 => ?_)
          clear hK K
          (try simp only [Act.put, List.setIfInBounds_toArray, List.set_cons_zero, List.set_cons_succ])
          refine tt_ready (rs := [6, 9]) (by decide +kernel) (allT_cons (by rfl) (fun K hK => ?_) (allT_cons (by rfl) (fun K hK => ?_) allT_nil))
          · skip
            refine step_append_C (base := wr.heap.size) (by rfl) (.tmp 65) (.tmp 69) (by rfl) Tryz.underlying65 hi hz0 hz1 hz2 rfl (by decide) (Eq.refl (Value.slice _ _ _)) (by rfl) (by first | exact OwnC.lit0 (by simp) (by simp) | exact (OwnC.lit0 (by simp) (by simp)).alloc _) (Src.keep sA.out (by assumption)) pO.out (by unfold maxLen; omega) (by omega) (Below.size (w := wr) (by assumption)) ?_
            intro v' w3 ho3 hg3 _
            rw [Nat.zero_add, List.nil_append] at ho3
            have O3 := Lib.hid ho3
            obtain ⟨a6, c6, rfl, _, _⟩ := ho3.slice
            first
            | have I7 := Lib.hid (OwnC.carry (base := wr.heap.size) (e := 3) (size := 1) (v := .slice (some ⟨wr.heap.size + 1, 0, none⟩) 0 0) (OwnC.lit0 (by simp) (by simp)).drew hg3 (by intro k hk; simp [Value.ownBlock] at hk; subst hk; simp [Value.ownBlock]))
            | have I7 := Lib.hid (OwnC.carry (base := wr.heap.size) (e := 3) (size := 1) (v := .slice (some ⟨wr.heap.size, 0, none⟩) 0 0) ((OwnC.lit0 (by simp) (by simp)).alloc _).drew hg3 (by intro k hk; simp [Value.ownBlock] at hk; subst hk; simp [Value.ownBlock]))
            | have I7 := Lib.hid True.intro
            clear ho3
            refine hK.out _ _ (by (exact keep_push (by assumption) hg3 (by intro k hk; simp [Value.ownBlock] at hk; omega))) (fun hHeld3 => ?_)
            clear hK K
            (try simp only [Act.put, List.setIfInBounds_toArray, List.set_cons_zero, List.set_cons_succ])
            refine tt_ready (rs := [9]) (by decide +kernel) (allT_cons (by rfl) (fun K hK => ?_) allT_nil)
            go_simp
            refine hK.out _ _ (by (exact keep_alloc (by assumption) _)) (fun hHeld4 => ?_)
            clear hK K
            (try simp only [Act.put, List.setIfInBounds_toArray, List.set_cons_zero, List.set_cons_succ])
            refine tt_ready (rs := [12]) (by decide +kernel) (allT_cons (by rfl) (fun K hK => ?_) allT_nil)
            refine step_append_C (base := wr.heap.size) (by rfl) (.tmp 73) (.tmp 75) (by rfl) Tryz.underlying33 hj hy0 hy1 hy2 rfl (by decide) (Eq.refl (Value.slice _ _ _)) (by rfl) (by first | exact I7.out | exact OwnC.lit0 (by first | rfl | simp) (Below.size (w := wr) (by assumption))) (Src.keep sX.out (by assumption)) int_one (by unfold maxLen; omega) (by omega) (Below.size (w := wr) (by assumption)) ?_
            intro v' w4 ho4 hg4 hl4
            rw [Nat.zero_add, List.nil_append] at ho4
            have O4 := Lib.hid ho4
            have F4 := Lib.hid (by first
              | exact OwnC.carry O3.out hg4 (fun k hk e => ty_ne (by decide) (O3.out.ty k hk) (I7.out.ty k e))
              | exact OwnC.carry (O3.out.alloc _) hg4 (fun k hk e => by have := (O3.out.lt k hk).2; simp [Value.ownBlock] at e; omega) : OwnC w4 wr.heap.size 75 3 (.slice a6 T.funs.length c6) T.funs.length css.flatten)
            obtain ⟨a7, c7, rfl, hc71, hc72⟩ := ho4.slice
            clear ho4
            refine hK.out _ _ (by (exact keep_push (by assumption) hg4 (by first | exact (fun k hk => (I7.out.lt k hk).1) | (intro k hk; have hz := Below.size (w := wr) (w' := w3) (by assumption); simp [Value.ownBlock] at hk; omega)))) (fun hHeld5 => ?_)
            clear hK K
            (try simp only [Act.put, List.setIfInBounds_toArray, List.set_cons_zero, List.set_cons_succ])
            refine tt_take (i := 15) (v := _) (by rfl) (by decide +kernel) (by exact fun _ _ _ h => h) (Or.inl ⟨by rfl, by (intro W hSw; (try dsimp only at hSw); go_simp <;> with_reducible rfl)⟩) (by assumption) ?_
            (try simp only [Act.put, List.setIfInBounds_toArray, List.set_cons_zero, List.set_cons_succ])
            refine tt_ready (rs := [16]) (by decide +kernel) (allT_cons (by rfl) (fun K hK => ?_) allT_nil)
            go_simp
            refine hK.out _ _ (by (exact keep_alloc (by assumption) _)) (fun hHeld6 => ?_)
            clear hK K
            (try simp only [Act.put, List.setIfInBounds_toArray, List.set_cons_zero, List.set_cons_succ])
            refine tt_ready (rs := [17]) (by decide +kernel) (allT_cons (by rfl) (fun K hK => ?_) allT_nil)
            refine step_append_C (base := wr.heap.size) (by rfl) (.tmp 70) (.tmp 80) (by rfl) Tryz.underlying65 hi hz0 hz1 hz2 rfl (by decide) (Eq.refl (Value.slice _ _ _)) (by rfl) (F4.out.alloc _) (Src.lit (CellsF.lit (us := [Value.string nm, .slice a7 args.length c7, .int .i64 r]) (by first | rfl | simp)) rfl) triple_one (by unfold maxLen; omega) (by omega) (Below.size (w := wr) (by assumption)) ?_
            intro v' w5 ho5 hg5 _
            have O5 := Lib.hid ho5
            have I5 := Lib.hid ((O4.out.alloc _).carry hg5 (fun k hk e => ty_ne (by decide) (F4.out.ty k e) (O4.out.ty k hk)))
            obtain ⟨a8, c8, rfl, _, _⟩ := ho5.slice
            clear ho5
            refine hK.out _ _ (by (exact keep_push (by assumption) hg5 (fun k hk => (F4.out.lt k hk).1))) (fun hHeld7 => ?_)
            clear hK K
            (try simp only [Act.put, List.setIfInBounds_toArray, List.set_cons_zero, List.set_cons_succ])
            refine tt_tail (by decide +kernel) ?_
            simp only [List.drop_succ_cons, List.drop_zero]
            have hB5 : Below wr.heap.size wr w5 := by assumption
            have B5 := Lib.hid hB5
            have g1' := keep_cell hB5 q1
            have f1' := (frz_p ((hB5.block p hpw).trans hblk'.out) 1)
            clear hg3 hg4 hg5 hB5 k0 k1 k2 q1
            go_wp2
            go_ret
            exact rfunDone R2.out hblk'.out B5.out pA.out ⟨rfl, rfl⟩ O5.out I5.out wfX.out hrb'.out hc71 hc72 hv.out hps.out
          · skip
            go_simp
            refine hK.out _ _ (by (exact keep_alloc (by assumption) _)) (fun hHeld3 => ?_)
            clear hK K
            (try simp only [Act.put, List.setIfInBounds_toArray, List.set_cons_zero, List.set_cons_succ])
            refine tt_ready (rs := [6]) (by decide +kernel) (allT_cons (by rfl) (fun K hK => ?_) allT_nil)
            refine step_append_C (base := wr.heap.size) (by rfl) (.tmp 65) (.tmp 69) (by rfl) Tryz.underlying65 hi hz0 hz1 hz2 rfl (by decide) (Eq.refl (Value.slice _ _ _)) (by rfl) (by first | exact OwnC.lit0 (by simp) (by simp) | exact (OwnC.lit0 (by simp) (by simp)).alloc _) (Src.keep sA.out (by assumption)) pO.out (by unfold maxLen; omega) (by omega) (Below.size (w := wr) (by assumption)) ?_
            intro v' w3 ho3 hg3 _
            rw [Nat.zero_add, List.nil_append] at ho3
            have O3 := Lib.hid ho3
            obtain ⟨a6, c6, rfl, _, _⟩ := ho3.slice
            first
            | have I7 := Lib.hid (OwnC.carry (base := wr.heap.size) (e := 3) (size := 1) (v := .slice (some ⟨wr.heap.size + 1, 0, none⟩) 0 0) (OwnC.lit0 (by simp) (by simp)).drew hg3 (by intro k hk; simp [Value.ownBlock] at hk; subst hk; simp [Value.ownBlock]))
            | have I7 := Lib.hid (OwnC.carry (base := wr.heap.size) (e := 3) (size := 1) (v := .slice (some ⟨wr.heap.size, 0, none⟩) 0 0) ((OwnC.lit0 (by simp) (by simp)).alloc _).drew hg3 (by intro k hk; simp [Value.ownBlock] at hk; subst hk; simp [Value.ownBlock]))
            | have I7 := Lib.hid True.intro
            clear ho3
            refine hK.out _ _ (by (exact keep_push (by assumption) hg3 (by intro k hk; simp [Value.ownBlock] at hk; omega))) (fun hHeld4 => ?_)
            clear hK K
            (try simp only [Act.put, List.setIfInBounds_toArray, List.set_cons_zero, List.set_cons_succ])
            refine tt_ready (rs := [12]) (by decide +kernel) (allT_cons (by rfl) (fun K hK => ?_) allT_nil)
            refine step_append_C (base := wr.heap.size) (by rfl) (.tmp 73) (.tmp 75) (by rfl) Tryz.underlying33 hj hy0 hy1 hy2 rfl (by decide) (Eq.refl (Value.slice _ _ _)) (by rfl) (by first | exact I7.out | exact OwnC.lit0 (by first | rfl | simp) (Below.size (w := wr) (by assumption))) (Src.keep sX.out (by assumption)) int_one (by unfold maxLen; omega) (by omega) (Below.size (w := wr) (by assumption)) ?_
            intro v' w4 ho4 hg4 hl4
            rw [Nat.zero_add, List.nil_append] at ho4
            have O4 := Lib.hid ho4
            have F4 := Lib.hid (by first
              | exact OwnC.carry O3.out hg4 (fun k hk e => ty_ne (by decide) (O3.out.ty k hk) (I7.out.ty k e))
              | exact OwnC.carry (O3.out.alloc _) hg4 (fun k hk e => by have := (O3.out.lt k hk).2; simp [Value.ownBlock] at e; omega) : OwnC w4 wr.heap.size 75 3 (.slice a6 T.funs.length c6) T.funs.length css.flatten)
            obtain ⟨a7, c7, rfl, hc71, hc72⟩ := ho4.slice
            clear ho4
            refine hK.out _ _ (by (exact keep_push (by assumption) hg4 (by first | exact (fun k hk => (I7.out.lt k hk).1) | (intro k hk; have hz := Below.size (w := wr) (w' := w3) (by assumption); simp [Value.ownBlock] at hk; omega)))) (fun hHeld5 => ?_)
            clear hK K
            (try simp only [Act.put, List.setIfInBounds_toArray, List.set_cons_zero, List.set_cons_succ])
            refine tt_take (i := 15) (v := _) (by rfl) (by decide +kernel) (by exact fun _ _ _ h => h) (Or.inl ⟨by rfl, by (intro W hSw; (try dsimp only at hSw); go_simp <;> with_reducible rfl)⟩) (by assumption) ?_
            (try simp only [Act.put, List.setIfInBounds_toArray, List.set_cons_zero, List.set_cons_succ])
            refine tt_ready (rs := [16]) (by decide +kernel) (allT_cons (by rfl) (fun K hK => ?_) allT_nil)
            go_simp
            refine hK.out _ _ (by (exact keep_alloc (by assumption) _)) (fun hHeld6 => ?_)
            clear hK K
            (try simp only [Act.put, List.setIfInBounds_toArray, List.set_cons_zero, List.set_cons_succ])
            refine tt_ready (rs := [17]) (by decide +kernel) (allT_cons (by rfl) (fun K hK => ?_) allT_nil)
            refine step_append_C (base := wr.heap.size) (by rfl) (.tmp 70) (.tmp 80) (by rfl) Tryz.underlying65 hi hz0 hz1 hz2 rfl (by decide) (Eq.refl (Value.slice _ _ _)) (by rfl) (F4.out.alloc _) (Src.lit (CellsF.lit (us := [Value.string nm, .slice a7 args.length c7, .int .i64 r]) (by first | rfl | simp)) rfl) triple_one (by unfold maxLen; omega) (by omega) (Below.size (w := wr) (by assumption)) ?_
            intro v' w5 ho5 hg5 _
            have O5 := Lib.hid ho5
            have I5 := Lib.hid ((O4.out.alloc _).carry hg5 (fun k hk e => ty_ne (by decide) (F4.out.ty k e) (O4.out.ty k hk)))
            obtain ⟨a8, c8, rfl, _, _⟩ := ho5.slice
            clear ho5
            refine hK.out _ _ (by (exact keep_push (by assumption) hg5 (fun k hk => (F4.out.lt k hk).1))) (fun hHeld7 => ?_)
            clear hK K
            (try simp only [Act.put, List.setIfInBounds_toArray, List.set_cons_zero, List.set_cons_succ])
            refine tt_tail (by decide +kernel) ?_
            simp only [List.drop_succ_cons, List.drop_zero]
            have hB5 : Below wr.heap.size wr w5 := by assumption
            have B5 := Lib.hid hB5
            have g1' := keep_cell hB5 q1
            have f1' := (frz_p ((hB5.block p hpw).trans hblk'.out) 1)
            clear hg3 hg4 hg5 hB5 k0 k1 k2 q1
            go_wp2
            go_ret
            exact rfunDone R2.out hblk'.out B5.out pA.out ⟨rfl, rfl⟩ O5.out I5.out wfX.out hrb'.out hc71 hc72 hv.out hps.out
        · skip
          go_simp
          refine hK.out _ _ (by (exact keep_alloc (by assumption) _)) (fun hHeld2 => ?_)
          clear hK K
          (try simp only [Act.put, List.setIfInBounds_toArray, List.set_cons_zero, List.set_cons_succ])
          refine tt_ready (rs := [1]) (by decide +kernel) (allT_cons (by rfl) (fun K hK => ?_) allT_nil)
          go_simp
          refine hK.out _ _ (by (exact keep_alloc (by assumption) _)) (fun hHeld3 => ?_)
          clear hK K
          (try simp only [Act.put, List.setIfInBounds_toArray, List.set_cons_zero, List.set_cons_succ])
          refine tt_ready (rs := [6]) (by decide +kernel) (allT_cons (by rfl) (fun K hK => ?_) allT_nil)
          refine step_append_C (base := wr.heap.size) (by rfl) (.tmp 65) (.tmp 69) (by rfl) Tryz.underlying65 hi hz0 hz1 hz2 rfl (by decide) (Eq.refl (Value.slice _ _ _)) (by rfl) (by first | exact OwnC.lit0 (by simp) (by simp) | exact (OwnC.lit0 (by simp) (by simp)).alloc _) (Src.keep sA.out (by assumption)) pO.out (by unfold maxLen; omega) (by omega) (Below.size (w := wr) (by assumption)) ?_
          intro v' w3 ho3 hg3 _
          rw [Nat.zero_add, List.nil_append] at ho3
          have O3 := Lib.hid ho3
          obtain ⟨a6, c6, rfl, _, _⟩ := ho3.slice
          first
          | have I7 := Lib.hid (OwnC.carry (base := wr.heap.size) (e := 3) (size := 1) (v := .slice (some ⟨wr.heap.size + 1, 0, none⟩) 0 0) (OwnC.lit0 (by simp) (by simp)).drew hg3 (by intro k hk; simp [Value.ownBlock] at hk; subst hk; simp [Value.ownBlock]))
          | have I7 := Lib.hid (OwnC.carry (base := wr.heap.size) (e := 3) (size := 1) (v := .slice (some ⟨wr.heap.size, 0, none⟩) 0 0) ((OwnC.lit0 (by simp) (by simp)).alloc _).drew hg3 (by intro k hk; simp [Value.ownBlock] at hk; subst hk; simp [Value.ownBlock]))
          | have I7 := Lib.hid True.intro
          clear ho3
          refine hK.out _ _ (by (exact keep_push (by assumption) hg3 (by intro k hk; simp [Value.ownBlock] at hk; omega))) (fun hHeld4 => ?_)
          clear hK K
          (try simp only [Act.put, List.setIfInBounds_toArray, List.set_cons_zero, List.set_cons_succ])
          refine tt_ready (rs := [12]) (by decide +kernel) (allT_cons (by rfl) (fun K hK => ?_) allT_nil)
          refine step_append_C (base := wr.heap.size) (by rfl) (.tmp 73) (.tmp 75) (by rfl) Tryz.underlying33 hj hy0 hy1 hy2 rfl (by decide) (Eq.refl (Value.slice _ _ _)) (by rfl) (by first | exact I7.out | exact OwnC.lit0 (by first | rfl | simp) (Below.size (w := wr) (by assumption))) (Src.keep sX.out (by assumption)) int_one (by unfold maxLen; omega) (by omega) (Below.size (w := wr) (by assumption)) ?_
          intro v' w4 ho4 hg4 hl4
          rw [Nat.zero_add, List.nil_append] at ho4
          have O4 := Lib.hid ho4
          have F4 := Lib.hid (by first
            | exact OwnC.carry O3.out hg4 (fun k hk e => ty_ne (by decide) (O3.out.ty k hk) (I7.out.ty k e))
            | exact OwnC.carry (O3.out.alloc _) hg4 (fun k hk e => by have := (O3.out.lt k hk).2; simp [Value.ownBlock] at e; omega) : OwnC w4 wr.heap.size 75 3 (.slice a6 T.funs.length c6) T.funs.length css.flatten)
          obtain ⟨a7, c7, rfl, hc71, hc72⟩ := ho4.slice
          clear ho4
          refine hK.out _ _ (by (exact keep_push (by assumption) hg4 (by first | exact (fun k hk => (I7.out.lt k hk).1) | (intro k hk; have hz := Below.size (w := wr) (w' := w3) (by assumption); simp [Value.ownBlock] at hk; omega)))) (fun hHeld5 => ?_)
          clear hK K
          (try simp only [Act.put, List.setIfInBounds_toArray, List.set_cons_zero, List.set_cons_succ])
          refine tt_take (i := 15) (v := _) (by rfl) (by decide +kernel) (by exact fun _ _ _ h => h) (Or.inl ⟨by rfl, by (intro W hSw; (try dsimp only at hSw); go_simp <;> with_reducible rfl)⟩) (by assumption) ?_
          (try simp only [Act.put, List.setIfInBounds_toArray, List.set_cons_zero, List.set_cons_succ])
          refine tt_ready (rs := [16]) (by decide +kernel) (allT_cons (by rfl) (fun K hK => ?_) allT_nil)
          go_simp
          refine hK.out _ _ (by (exact keep_alloc (by assumption) _)) (fun hHeld6 => ?_)
          clear hK K
          (try simp only [Act.put, List.setIfInBounds_toArray, List.set_cons_zero, List.set_cons_succ])
          refine tt_ready (rs := [17]) (by decide +kernel) (allT_cons (by rfl) (fun K hK => ?_) allT_nil)
          refine step_append_C (base := wr.heap.size) (by rfl) (.tmp 70) (.tmp 80) (by rfl) Tryz.underlying65 hi hz0 hz1 hz2 rfl (by decide) (Eq.refl (Value.slice _ _ _)) (by rfl) (F4.out.alloc _) (Src.lit (CellsF.lit (us := [Value.string nm, .slice a7 args.length c7, .int .i64 r]) (by first | rfl | simp)) rfl) triple_one (by unfold maxLen; omega) (by omega) (Below.size (w := wr) (by assumption)) ?_
          intro v' w5 ho5 hg5 _
          have O5 := Lib.hid ho5
          have I5 := Lib.hid ((O4.out.alloc _).carry hg5 (fun k hk e => ty_ne (by decide) (F4.out.ty k e) (O4.out.ty k hk)))
          obtain ⟨a8, c8, rfl, _, _⟩ := ho5.slice
          clear ho5
          refine hK.out _ _ (by (exact keep_push (by assumption) hg5 (fun k hk => (F4.out.lt k hk).1))) (fun hHeld7 => ?_)
          clear hK K
          (try simp only [Act.put, List.setIfInBounds_toArray, List.set_cons_zero, List.set_cons_succ])
          refine tt_tail (by decide +kernel) ?_
          simp only [List.drop_succ_cons, List.drop_zero]
          have hB5 : Below wr.heap.size wr w5 := by assumption
          have B5 := Lib.hid hB5
          have g1' := keep_cell hB5 q1
          have f1' := (frz_p ((hB5.block p hpw).trans hblk'.out) 1)
          clear hg3 hg4 hg5 hB5 k0 k1 k2 q1
          go_wp2
          go_ret
          exact rfunDone R2.out hblk'.out B5.out pA.out ⟨rfl, rfl⟩ O5.out I5.out wfX.out hrb'.out hc71 hc72 hv.out hps.out
end Go.Proofs.YtikmkalfdiiahaaGreatDoor

/-
  From a row's reading of an argument to this seat's vocabulary: slices of ints ('RdI') and of bools ('RdB'). No condition.
-/
namespace Go.Proofs.YtikmkalfdiiahaaGreatDoor
open Go.RowKit Go.ChangeShapes Go.WideShapes
open Go.Deep (open_bools)

variable {H : Type} {enc : TypeId × Value → H} {P : Program} {w : World}

theorem addr_at {w : World} {x : Addr} {n : Nat} {f : Nat → Value} (hn : 0 < n) (h : ∀ i, i < n → w.cell? (x.add i) = some (f i)) : ∃ b o, x = ⟨b, o, none⟩ ∧ b < w.heap.size ∧ ∀ j, j < n → w.cell? ⟨b, o + j, none⟩ = some (f j) := by
  obtain ⟨b, o, sp⟩ := x
  have hc := h 0 hn
  have hs : sp = none := by simpa [Addr.add] using World.cell?_spot hc
  subst hs
  refine ⟨b, o, rfl, World.block_lt_of_cell? w _ hc, fun j hj => by rw [← Addr.add_lit b o j]; exact h j hj⟩

theorem opened_ints {t e : TypeId} {a : Option Addr} {len cap : Nat} {d : DataW H} {p : List MemPlace} (ht : P.underlying t = some (.slice e)) (he : P.underlying e = some (.int .i64)) (hc : P.cellsOf e = 1)
    (h : DataW.Trod enc P w 0 (fun _ => true) true t (.slice a len cap) d p) : ∃ xs, RdI w a len xs ∧ (len ≤ cap ∧ cap ≤ 9223372036854775807) := by
  obtain ⟨fuel, hf⟩ := h
  rcases open_ints ht he hc hf with ⟨hcs, _⟩ | ⟨x, l, c, zs, hcs, _, hl, hm, hz, _, hcell, hwz⟩
  · simp [Value.cells] at hcs
    obtain ⟨rfl, rfl, rfl⟩ := hcs
    exact ⟨[], RdI.nil _ _, by omega⟩
  · simp [Value.cells] at hcs
    obtain ⟨rfl, rfl, rfl⟩ := hcs
    simp only [if_true] at hz
    unfold maxLen at hm
    refine ⟨zs.take len, ⟨by simp; omega, fun y hy => bounds_i64 (hwz y (List.mem_of_mem_take hy)), fun hn => ?_⟩, by omega⟩
    obtain ⟨b, o, hx, hb, hcc⟩ := addr_at (n := len) (f := fun j => .int .i64 (zs.getD j 0)) hn (fun i hi => hcell i (by omega))
    refine ⟨b, o, by rw [hx], hb, fun j hj => ?_⟩
    rw [hcc j hj]
    simp [nth, List.getD, hj]

theorem opened_bools {t e : TypeId} {a : Option Addr} {len cap : Nat} {d : DataW H} {p : List MemPlace} (ht : P.underlying t = some (.slice e)) (he : P.underlying e = some .bool) (hc : P.cellsOf e = 1)
    (h : DataW.Trod enc P w 0 (fun _ => true) true t (.slice a len cap) d p) : ∃ xs, RdB w a len xs ∧ (len ≤ cap ∧ cap ≤ 9223372036854775807) := by
  obtain ⟨fuel, hf⟩ := h
  rcases open_bools ht he hc hf with ⟨hcs, _⟩ | ⟨x, l, c, B, hcs, _, hl, hm, _, hcell⟩
  · simp [Value.cells] at hcs
    obtain ⟨rfl, rfl, rfl⟩ := hcs
    exact ⟨[], ⟨rfl, by omega⟩, by omega⟩
  · simp [Value.cells] at hcs
    obtain ⟨rfl, rfl, rfl⟩ := hcs
    unfold maxLen at hm
    refine ⟨(List.range len).map B, ⟨by simp, fun hn => ?_⟩, by omega⟩
    obtain ⟨b, o, hx, hb, hcc⟩ := addr_at (n := len) (f := fun j => .bool (B j)) hn (fun i hi => hcell i (by omega))
    refine ⟨b, o, by rw [hx], hb, fun j hj => ?_⟩
    rw [hcc j hj]
    simp [nthB, List.getD, hj]
end Go.Proofs.YtikmkalfdiiahaaGreatDoor
