/-
  Parts of this claim's texts, one behind the other: UN VA VB. No condition.
-/
import Derived.Test.YtikmkalfdiiahaaGreatDoorK12
import Derived.Test.YtikmkalfdiiahaaGreatDoorK21
set_option linter.unusedVariables false
set_option linter.unusedSimpArgs false
/-
  theodolitelaw17: declared, tables. Condition: the library's tables as its text lays them.
-/
namespace Go.Proofs.YtikmkalfdiiahaaGreatDoor
open Go.RowKit Go.Sort Go.Lib

set_option maxRecDepth 100000 in
set_option maxHeartbeats 2000000 in
theorem declared17_any (w : World) : Calls Tryz.prog 47 #[] w fun e w' => DeclPost w e w' := by
  go_enter Tryz.func47, Tryz.ntmps47
  go_wp2
  go_ret
  have i1 := RdI.lit [1] 3 w (by simp)
  generalize h1 : w.alloc (.cells #[.int .i64 1] 3) = w1 at *
  have i1' : RdI w1 (some ⟨w.heap.size, 0, none⟩) 1 [1] := by rw [← h1]; exact i1
  have s1 : w1.heap.size = w.heap.size + 1 := by rw [← h1]; simp
  have b1 : Below w.heap.size w w1 := by rw [← h1]; exact (Below.refl _ _).alloc (Nat.le_refl _) _
  have i2 := RdI.lit [2, 1] 3 w1 (by simp)
  generalize h2 : w1.alloc (.cells #[.int .i64 2, .int .i64 1] 3) = w2 at *
  have i2' : RdI w2 (some ⟨w.heap.size + 1, 0, none⟩) 2 [2, 1] := by rw [← h2, ← s1]; exact i2
  have s2 : w2.heap.size = w.heap.size + 1 + 1 := by rw [← h2]; simp [s1]
  have b2 : Below w1.heap.size w1 w2 := by rw [← h2]; exact (Below.refl _ _).alloc (Nat.le_refl _) _
  have i3 := RdI.lit [2] 3 w2 (by simp)
  generalize h3 : w2.alloc (.cells #[.int .i64 2] 3) = w3 at *
  have i3' : RdI w3 (some ⟨w.heap.size + 2, 0, none⟩) 1 [2] := by rw [← h3, show w.heap.size + 2 = w2.heap.size by omega]; exact i3
  have s3 : w3.heap.size = w.heap.size + 1 + 1 + 1 := by rw [← h3]; simp [s2]
  have b3 : Below w2.heap.size w2 w3 := by rw [← h3]; exact (Below.refl _ _).alloc (Nat.le_refl _) _
  have b4 : Below w3.heap.size w3 (w3.alloc (.cells (declC w.heap.size).flatten.toArray 75)) := (Below.refl _ _).alloc (Nat.le_refl _) _
  have hg := heap_alloc_new w3 (.cells (declC w.heap.size).flatten.toArray 75)
  rw [s3] at hg
  have b34 := b3.trans (b4.mono b3.size)
  have b24 := b2.trans (b34.mono b2.size)
  have hS : ∀ (k o : Nat) (n : Nat) (x : Addr), 0 < n → some (⟨w.heap.size + k, o, none⟩ : Addr) = some x → w.heap.size ≤ x.block := fun k o n x _ e => by injection e with e; rw [← e]; exact Nat.le_add_right _ _
  refine ⟨rfl, SlR.ofCss (css := declC w.heap.size) hg (by show w.heap.size ≤ _; omega) rfl (decl_rd (SlR.ofI (i1'.below b24 (Nat.le_refl _)) (fun x h e => hS 0 0 1 x h e)) (SlR.ofI (i2'.below b34 (Nat.le_refl _)) (fun x h e => hS 1 0 2 x h e)) (SlR.ofI (i3'.below b4 (Nat.le_refl _)) (fun x h e => hS 2 0 1 x h e))), ?_, ?_⟩
  · exact b1.trans (b24.mono b1.size)
  · show (w3.heap.push _).size = _
    rw [Array.size_push, s3]
set_option maxRecDepth 100000 in
set_option maxHeartbeats 8000000 in
theorem tables17_any (w : World) (hE : Env w) : Calls Tryz.prog 15 #[] w fun e w' => TabsPost w e w' := by
  have hE' := Lib.hid hE
  have pos0 := hE.pos
  have htn := Lib.hid (tnew_any w)
  clear hE
  go_enter Tryz.func15, Tryz.ntmps15
  go_wp2_with fail
  refine htn.out.mono ?_; rintro e w1 ⟨p, rfl, t1, b1⟩
  have I0 := Lib.hid (show Duo w p w1.heap.size ⟨[], [], []⟩ (w1.alloc (.cells #[.slice none 0 0, .slice none 0 0, .slice none 0 0] 68)) from by
    have hB1 : Below w1.heap.size w1 (w1.alloc (.cells #[.slice none 0 0, .slice none 0 0, .slice none 0 0] 68)) := (Below.refl _ _).alloc (Nat.le_refl _) _
    have hbq := heap_alloc_new w1 (.cells #[.slice none 0 0, .slice none 0 0, .slice none 0 0] 68)
    refine ⟨t1.all hB1, ⟨b1.size, fun _ h => h.elim, _, _, _, hbq, OwnR.nil _ _ _ _ _, OwnR.nil _ _ _ _ _, OwnR.nil _ _ _ _ _⟩, fun j hj => ?_, b1.trans (hB1.mono b1.size), hE'.out.all (b1.trans (hB1.mono b1.size))⟩
    have hjq : j = w1.heap.size := by
      rcases (own3 hbq).1 hj with h | h | h | h
      · exact h
      · simp [Value.ownBlock] at h
      · simp [Value.ownBlock] at h
      · simp [Value.ownBlock] at h
    subst hjq
    refine ⟨by simp, fun e => ?_⟩
    have := (t1.ownB ((ownOf.same (hB1.block p t1.plt)).1 e)).2
    omega)
  clear t1 b1 htn
  go_wp2_with fail
  generalize (w1.alloc (.cells #[.slice none 0 0, .slice none 0 0, .slice none 0 0] 68)) = w2 at *
  generalize w1.heap.size = q at *
  have hsp := Lib.hid (sort_any w.heap.size p ⟨[], [], []⟩ sU w2 I0.out.t I0.out.e (by decide))
  refine hsp.out.mono ?_; rintro e w3 h3
  obtain ⟨rfl, t3, s3⟩ := h3.yes bad7
  obtain ⟨r3, ap3, b3, e3⟩ := I0.out.step pos0 s3
  have J3 := Lib.hid (And.intro t3 (And.intro ap3 (And.intro b3 e3)))
  have R3 := Lib.hid r3
  have hrs := Lib.hid (rsort_any w.heap.size q ⟨[], [], []⟩ sU w3 r3 (by decide))
  clear h3 t3 s3 r3 ap3 b3 e3 hsp
  go_wp2_with fail
  refine hrs.out.mono ?_; rintro e w4 h4
  have h4y : e = .returned (.tuple #[.int .i64 2, .int .i64 0]) ∧ RefX (fun _ => False) w.heap.size q (T7 0) w4 ∧ PStep q w3 w4 := by
    unfold RSortPost at h4
    rw [if_neg (by rw [bad7]; decide)] at h4
    exact ⟨h4.1.1, h4.1.2, h4.2⟩
  obtain ⟨rfl, r4, s4⟩ := h4y
  have I4 := Lib.hid (Duo.step2 (T' := T7 0) pos0 J3.out.1 R3.out J3.out.2.1 J3.out.2.2.1 J3.out.2.2.2 r4 s4)
  have hdc := Lib.hid (declared17_any w4)
  clear h4 r4 s4 J3 R3 hrs
  go_wp2_with fail
  refine hdc.out.mono ?_; rintro e w5 ⟨rfl, hl5, b5, z5⟩
  have I5 := Lib.hid (I4.out.all b5)
  have F5 := Lib.hid (show FreeS (fun k => w4.heap.size ≤ k ∧ k < w5.heap.size) p q w5 from fun k hk => ⟨hk.2, fun e => by
    have := (I4.out.t.ownB ((ownOf.same (b5.block p I4.out.t.plt)).1 e)).2
    omega, fun e => by
    have := (I4.out.r.ownB ((ownOf.same (b5.block q I4.out.r.plt)).1 e)).2
    omega⟩)
  have L5 := Lib.hid (show SlR repF (fun k => w4.heap.size ≤ k ∧ k < w5.heap.size) w5 (some ⟨w4.heap.size + 3, 0, none⟩) 10 declL from hl5.mono fun b hb hk => ⟨hk, hb⟩)
  clear hl5 b5 z5 hdc I0 I4
  go_wp2
  generalize w4.heap.size + 3 = g at *
  generalize hSS : (fun k => w4.heap.size ≤ k ∧ k < w5.heap.size) = SS at *
  clear hSS
  go_loopw [5] (fun i wr => ∃ k : Nat, k ≤ 10 ∧ i = .int .i64 k ∧ Hid (Duo w p q (T7 k) wr) ∧ Hid (FreeS SS p q wr) ∧ Hid (SlR repF SS wr (some ⟨g, 0, none⟩) 10 declL)) (fun i _ => 10 - (intOf i).toNat)
  case atStart => exact ⟨0, by omega, rfl, I5.out, F5.out, L5.out⟩
  case round =>
    obtain ⟨k, hk, rfl, hI, hF, hL⟩ := hrel
    by_cases hlt : k < 10
    · have hf : declL[k]? = some (declL[k]'(by show k < 10; omega)) := List.getElem?_eq_getElem _
      generalize (declL[k]'(by show k < 10; omega)) = f at *
      obtain ⟨b, o, a', c', hgo, k0, k1, k2, ra, or, nc, _⟩ := hL.out.funAt hf
      cases hgo
      simp only [Nat.zero_add] at k0 k1 k2
      have hfa : f.args.length ≤ 2 := by
        have : f ∈ declL := List.mem_of_getElem? hf
        simp [declL] at this
        rcases this with rfl | rfl | rfl | rfl | rfl | rfl | rfl | rfl | rfl | rfl <;> decide
      obtain ⟨he, hadd⟩ := add7 hlt f hf
      have hki : (k : Int) < 10 := by omega
      have hfn := Lib.hid (fun_any w.heap.size p (T7 k) f a' c' wr hI.out.t (small7 k) hI.out.e ra.toI (by omega))
      have hadd' := Lib.hid hadd
      have he' := Lib.hid he
      have hf' := Lib.hid hf
      clear hf he hadd or
      go_wp2_with fail
      refine hfn.out.mono ?_; rintro e w6 ⟨rfl, t6, s6⟩
      rw [hadd'.out] at t6
      obtain ⟨r6, ap6, b6, e6⟩ := hI.out.step pos0 s6
      have hq6 := (s6.block q (hI.out.ap q (.inl rfl)).1 (hI.out.ap q (.inl rfl)).2).1
      obtain ⟨F6, K6⟩ := hF.out.stepP s6 hq6
      have L6 := hL.out.keep (fun b _ hb => K6 b hb) s6.size
      obtain ⟨b', o', a6, c6, hgo, q0, q1, q2, ra6, _, nc6, _⟩ := L6.funAt hf'.out
      cases hgo
      simp only [Nat.zero_add] at q0 q1 q2
      have J6 := Lib.hid (And.intro t6 (And.intro ap6 (And.intro b6 e6)))
      have R6 := Lib.hid r6
      have F6' := Lib.hid F6
      have L6' := Lib.hid L6
      have hrf := Lib.hid (rfun_any w.heap.size q (T7 k) f a6 c6 w6 r6 (small7 k) ra6.toI (by omega) nc6)
      clear t6 s6 r6 ap6 b6 e6 hq6 F6 K6 L6 hfn k0 k1 k2 ra
      go_wp2_with fail
      refine hrf.out.mono ?_; rintro e w7 ⟨rfl, r7, s7⟩
      rw [hadd'.out] at r7
      have I7 := Lib.hid (Duo.step2 (T' := T7 (k + 1)) pos0 J6.out.1 R6.out J6.out.2.1 J6.out.2.2.1 J6.out.2.2.2 r7 s7)
      have hap := J6.out.2.1.symm fun j hj => (J6.out.1.ownB hj).2
      have hp7 := (s7.block p (hap p (.inl rfl)).1 (hap p (.inl rfl)).2).1
      obtain ⟨F7, K7⟩ := F6'.out.stepQ s7 hp7
      have F7' := Lib.hid F7
      have L7 := Lib.hid (L6'.out.keep (fun b _ hb => K7 b hb) s7.size)
      clear r7 s7 hap hp7 F7 K7
      go_wp2
      go_roundw
      case rel => exact ⟨k + 1, by omega, by go_num, I7.out, F7'.out, L7.out⟩
      case measure => simp [intOf]; omega
    · have hk10 : k = 10 := by omega
      subst hk10
      have hnw := Lib.hid (new_any w.heap.size p (T7 10) wr hI.out.t)
      go_wp2_with fail
      refine hnw.out.mono ?_; rintro e w8 ⟨rfl, hT8, b8⟩
      have T8 := Lib.hid hT8
      have B8 := Lib.hid (hI.out.b.trans (b8.mono hI.out.b.size))
      have hsz := hI.out.b.size
      clear hT8 b8
      go_wp2
      go_ret2
      have hBA : Below w8.heap.size w8 (w8.alloc (.cells #[.pointer (some ⟨q, 0, none⟩), .slice none 0 0, .int .i64 0] 80)) := (Below.refl _ _).alloc (Nat.le_refl _) _
      exact ⟨_, _, rfl, (T8.out.lower hsz).all hBA, B8.out.trans (hBA.mono B8.out.size)⟩
end Go.Proofs.YtikmkalfdiiahaaGreatDoor

/-
  flat, plain; what a namer in memory holds. No condition.
-/
namespace Go.Proofs.YtikmkalfdiiahaaGreatDoor
open Go.RowKit Go.Sort Go.Lib

structure MadeD where
  var : Int
  fn : ByteArray
  args : List Int
structure FlS where
  named : Int → Option Int
  cnt : Nat
  made : List MadeD
  more : List Int
def flS0 : FlS := ⟨fun _ => none, 0, [], []⟩
def zeroN : NodeD := ⟨0, ByteArray.empty, noRat, [], 0⟩
def nodeX (T : TermD) (i : Int) : NodeD := if hasT T i then nodeAt T i else zeroN
def appliedN (n : NodeD) : Bool := decide (n.op = 12) && decide (0 < n.args.length)
def choiceN (n : NodeD) : Bool := decide (n.op = 10) && !decide (n.sort = 0)
def anyT (T : TermD) (so : NodeD → Bool) (id : Int) : Bool := (walkT T [id]).2.any fun x => so (nodeX T x)
def plainT (T : TermD) (id : Int) : Bool := hasT T id && !anyT T appliedN id
def nameD (T : TermD) (s : FlS) (id : Int) : (Int × Int) × TermD × FlS :=
  if (nodeX T id).op = 12 ∧ (nodeX T id).args.length = 0 then ((id, 0), T, s)
  else match s.named id with
  | some k => ((k, 0), T, s)
  | none =>
    if (freshD T (nodeX T id).sort).1.2 = 0 then
      if (mk2 (freshD T (nodeX T id).sort).2 8 (freshD T (nodeX T id).sort).1.1 id).1.2 = 0 then
        (((freshD T (nodeX T id).sort).1.1, 0), (mk2 (freshD T (nodeX T id).sort).2 8 (freshD T (nodeX T id).sort).1.1 id).2,
          ⟨setTo s.named id (freshD T (nodeX T id).sort).1.1, s.cnt + 1, s.made, s.more ++ [(mk2 (freshD T (nodeX T id).sort).2 8 (freshD T (nodeX T id).sort).1.1 id).1.1]⟩)
      else ((0, (mk2 (freshD T (nodeX T id).sort).2 8 (freshD T (nodeX T id).sort).1.1 id).1.2), (mk2 (freshD T (nodeX T id).sort).2 8 (freshD T (nodeX T id).sort).1.1 id).2, s)
    else ((0, (freshD T (nodeX T id).sort).1.2), (freshD T (nodeX T id).sort).2, s)
def argsD : List Int → List Int → TermD → FlS → (List Int × Int) × TermD × FlS
  | [], out, T, s => ((out, 0), T, s)
  | a :: l, out, T, s => if (nameD T s a).1.2 = 0 then argsD l (out ++ [(nameD T s a).1.1]) (nameD T s a).2.1 (nameD T s a).2.2 else ((out, (nameD T s a).1.2), (nameD T s a).2.1, (nameD T s a).2.2)
def alikeM (nm : ByteArray) (args : List Int) (o : MadeD) : Bool := decide (o.fn = nm) && decide (o.args = args)
def pushM (s : FlS) (m : MadeD) : FlS := ⟨s.named, s.cnt, s.made ++ [m], s.more⟩
def flatR (nm : ByteArray) (so : Int) (A : (List Int × Int) × TermD × FlS) : (Int × Bool × Int) × TermD × FlS :=
  if A.1.2 = 0 then
    match A.2.2.made.find? (alikeM nm A.1.1) with
    | some o => ((o.var, true, 0), A.2.1, A.2.2)
    | none =>
      if (freshD A.2.1 so).1.2 = 0 then (((freshD A.2.1 so).1.1, true, 0), (freshD A.2.1 so).2, pushM A.2.2 ⟨(freshD A.2.1 so).1.1, nm, A.1.1⟩)
      else ((0, false, (freshD A.2.1 so).1.2), (freshD A.2.1 so).2, A.2.2)
  else ((0, false, A.1.2), A.2.1, A.2.2)
def flatF : OtherF FlS := fun T s _ n => if appliedN n then flatR n.name n.sort (argsD n.args [] T s) else ((0, false, 0), T, s)
def allFlat (T : TermD) (ids : List Int) : (List Int × List MadeD × List Int × Int) × TermD :=
  if boolsT T ids && !ids.any (anyT T choiceN) then
    if (turnD flatF T flS0 ids).1.2 = 0 then (((turnD flatF T flS0 ids).1.1, (turnD flatF T flS0 ids).2.2.made, (turnD flatF T flS0 ids).2.2.more, 0), (turnD flatF T flS0 ids).2.1)
    else (([], [], [], (turnD flatF T flS0 ids).1.2), (turnD flatF T flS0 ids).2.1)
  else (([], [], [], 1), T)

/-! ### Made in memory -/
def repMd : Rep MadeD := Rep.map (fun m => (m.var, m.fn, m.args)) (.prod .int (.prod .str (.slice .int)))
theorem repMd_k : repMd.k = 3 := rfl
section
variable {S : Nat → Prop} {w w' : World} {x : MadeD} {cs : List Value}
theorem repMd_rd : repMd.rd S w x cs ↔ ∃ a c, cs = [.int .i64 x.var, .string x.fn, .slice a x.args.length c] ∧ okI x.var ∧ x.args.length ≤ c ∧ c ≤ maxLen ∧ SlR Rep.int S w a x.args.length x.args := by
  constructor
  · rintro ⟨p, q, rfl, ⟨h1, h1'⟩, p', q', rfl, h2, a, n, c, h3, h4, h5, h6⟩
    have h1' : p = [.int .i64 x.var] := h1
    have h2' : p' = [.string x.fn] := h2
    subst h1' h2' h3
    obtain rfl : n = x.args.length := h6.1.symm
    exact ⟨a, c, rfl, by assumption, h4, h5, h6⟩
  · rintro ⟨a, c, rfl, h1, h2, h3, h4⟩
    exact ⟨[.int .i64 x.var], _, rfl, ⟨rfl, h1⟩, [.string x.fn], _, rfl, rfl, a, _, c, rfl, h2, h3, h4⟩
end
/-- the blocks of the args of the first n elements of the row in block g -/
def ArgB (w : World) (g n k : Nat) : Prop := ∃ j u, j < n ∧ w.cell? ⟨g, j * 3 + 2, none⟩ = some u ∧ u.ownBlock = some k
theorem ArgB.same {w w' : World} {g : Nat} (h : w'.heap[g]? = w.heap[g]?) (n k : Nat) : ArgB w' g n k ↔ ArgB w g n k := by
  have e : ∀ j, w'.cell? ⟨g, j * 3 + 2, none⟩ = w.cell? ⟨g, j * 3 + 2, none⟩ := fun j => World.cell?_of_block (w := w) (a := ⟨g, j * 3 + 2, none⟩) h
  unfold ArgB
  constructor
  · rintro ⟨j, u, h1, h2, h3⟩; exact ⟨j, u, h1, by rw [← e]; exact h2, h3⟩
  · rintro ⟨j, u, h1, h2, h3⟩; exact ⟨j, u, h1, by rw [e]; exact h2, h3⟩
def RowB (w : World) (v : Value) (n k : Nat) : Prop := ∃ g, v.ownBlock = some g ∧ ArgB w g n k
theorem RowB.same {w w' : World} {v : Value} (h : ∀ g, v.ownBlock = some g → w'.heap[g]? = w.heap[g]?) (n k : Nat) : RowB w' v n k ↔ RowB w v n k := by
  unfold RowB
  constructor
  · rintro ⟨g, h1, h2⟩; exact ⟨g, h1, (ArgB.same (h g h1) n k).1 h2⟩
  · rintro ⟨g, h1, h2⟩; exact ⟨g, h1, (ArgB.same (h g h1) n k).2 h2⟩
structure FlatAt (w0 : World) (p nb : Nat) (s : FlS) (w : World) (bm : Nat) (vm vr : Value) : Prop where
  lt : w0.heap.size ≤ nb ∧ w0.heap.size ≤ bm
  blk : w.heap[nb]? = some (.cells #[.pointer (some ⟨p, 0, none⟩), .map (some bm), vm, vr] 99 (0, 0))
  mp : ∃ c, c ≤ s.cnt ∧ MapV Tryz.prog 3 bm c (mapI s.named) w
  ok : ∀ i x, s.named i = some x → okI x
  md : OwnR repMd (RowB w vm s.made.length) w w0.heap.size 46 vm s.made
  mr : OwnC w w0.heap.size 3 1 vr s.more.length (s.more.map (Value.int .i64))
  ml : s.more.length ≤ s.cnt
  mo : ∀ x ∈ s.more, okI x
  ab : ∀ k, RowB w vm s.made.length k → w0.heap.size ≤ k ∧ (∃ cs f, w.heap[k]? = some (.cells cs 3 f)) ∧ vr.ownBlock ≠ some k
def FlatJ (w0 : World) (p nb : Nat) (s : FlS) (w : World) : Prop := ∃ bm vm vr, FlatAt w0 p nb s w bm vm vr
def FlatD (p nb : Nat) (s : FlS) (w : World) (k : Nat) : Prop := ∃ bm vm vr, w.heap[nb]? = some (.cells #[.pointer (some ⟨p, 0, none⟩), .map (some bm), vm, vr] 99 (0, 0)) ∧
  (k = nb ∨ k = bm ∨ vm.ownBlock = some k ∨ vr.ownBlock = some k ∨ RowB w vm s.made.length k)
section
variable {w0 w w' : World} {p nb bm : Nat} {s : FlS} {vm vr : Value}
theorem FlatD.iff (h : w.heap[nb]? = some (.cells #[.pointer (some ⟨p, 0, none⟩), .map (some bm), vm, vr] 99 (0, 0))) (k : Nat) : FlatD p nb s w k ↔ k = nb ∨ k = bm ∨ vm.ownBlock = some k ∨ vr.ownBlock = some k ∨ RowB w vm s.made.length k := by
  constructor
  · rintro ⟨b, u, v, hb, hk⟩
    rw [h] at hb
    injection hb with hb
    injection hb with hb
    have hl := congrArg Array.toList hb
    simp at hl
    obtain ⟨rfl, rfl, rfl⟩ := hl
    exact hk
  · exact fun hk => ⟨bm, vm, vr, h, hk⟩
theorem FlatAt.ltD (h : FlatAt w0 p nb s w bm vm vr) (k : Nat) (hk : FlatD p nb s w k) : w0.heap.size ≤ k ∧ k < w.heap.size := by
  obtain ⟨c, _, hm⟩ := h.mp
  rcases (FlatD.iff h.blk k).1 hk with rfl | rfl | hk | hk | hk
  · exact ⟨h.lt.1, (Array.getElem?_eq_some_iff.1 h.blk).1⟩
  · exact ⟨h.lt.2, hm.lt⟩
  · exact h.md.lt k hk
  · exact h.mr.lt k hk
  · obtain ⟨h1, ⟨cs, f, h2⟩, _⟩ := h.ab k hk
    exact ⟨h1, (Array.getElem?_eq_some_iff.1 h2).1⟩
theorem FlatAt.keep (h : FlatAt w0 p nb s w bm vm vr) (hk : ∀ k, FlatD p nb s w k → w'.heap[k]? = w.heap[k]?) (hs : w.heap.size ≤ w'.heap.size) : FlatAt w0 p nb s w' bm vm vr ∧ ∀ k, FlatD p nb s w' k ↔ FlatD p nb s w k := by
  have hi := FlatD.iff (s := s) h.blk
  have hb := (hk nb ((hi nb).2 (.inl rfl))).trans h.blk
  have hg : ∀ g, vm.ownBlock = some g → w'.heap[g]? = w.heap[g]? := fun g e => hk g ((hi g).2 (.inr (.inr (.inl e))))
  have hR := RowB.same hg s.made.length
  have ha : ∀ k, RowB w vm s.made.length k → w'.heap[k]? = w.heap[k]? := fun k e => hk k ((hi k).2 (.inr (.inr (.inr (.inr e)))))
  refine ⟨⟨h.lt, hb, ?_, h.ok, ?_, h.mr.same fun k e => hk k ((hi k).2 (.inr (.inr (.inr (.inl e))))), h.ml, h.mo, fun k e => ?_⟩, fun k => ?_⟩
  · obtain ⟨c, h1, h2⟩ := h.mp
    exact ⟨c, h1, h2.same (hk bm ((hi bm).2 (.inr (.inl rfl))))⟩
  · exact (h.md.keep (fun b _ e => ha b e) hg hs).mono fun b _ e => (hR b).2 e
  · have e' := (hR k).1 e
    obtain ⟨h1, ⟨cs, f, h2⟩, h3⟩ := h.ab k e'
    exact ⟨h1, ⟨cs, f, (ha k e').trans h2⟩, h3⟩
  · rw [FlatD.iff hb, FlatD.iff h.blk, hR]
theorem FlatJ.ltD (h : FlatJ w0 p nb s w) (k : Nat) (hk : FlatD p nb s w k) : w0.heap.size ≤ k ∧ k < w.heap.size := by obtain ⟨bm, vm, vr, h⟩ := h; exact h.ltD k hk
theorem FlatJ.keep (h : FlatJ w0 p nb s w) (hk : ∀ k, FlatD p nb s w k → w'.heap[k]? = w.heap[k]?) (hs : w.heap.size ≤ w'.heap.size) : FlatJ w0 p nb s w' ∧ ∀ k, FlatD p nb s w' k ↔ FlatD p nb s w k := by
  obtain ⟨bm, vm, vr, h⟩ := h
  obtain ⟨h1, h2⟩ := h.keep hk hs
  exact ⟨⟨bm, vm, vr, h1⟩, h2⟩
end
/-! ### steps of whatever closure -/
section
variable {τ : Type} {J : τ → World → Prop} {D : τ → World → Nat → Prop} {w0 w w' w3 w6 : World} {p : Nat} {T T' : TermD} {s s' : τ} {Y Y' D0 : Nat → Prop}
/-- a closure's own stands while its blocks do -/
def KeepJ {τ : Type} (J : τ → World → Prop) (D : τ → World → Nat → Prop) : Prop := ∀ s w w', J s w → (∀ k, D s w k → w'.heap[k]? = w.heap[k]?) → w.heap.size ≤ w'.heap.size → J s w' ∧ ∀ k, D s w' k ↔ D s w k
theorem Cx.st (h : Cx w0 p J D Y T s w) : St w0 p { T with X := fun k => D s w k ∨ Y k } w := ⟨h.t, h.b⟩
theorem Cx.allK (K : KeepJ J D) (h : Cx w0 p J D Y T s w) (hb : Below w.heap.size w w') : Cx w0 p J D Y T s w' ∧ ∀ k, D s w' k ↔ D s w k := by
  obtain ⟨hj, hd⟩ := K s w w' h.j (fun k hk => hb.block k (h.x (.inl hk)).1) hb.size
  refine ⟨⟨?_, h.b.trans (hb.mono h.b.size), hj⟩, hd⟩
  have e : (fun k => D s w' k ∨ Y k) = (fun k => D s w k ∨ Y k) := funext fun k => propext (or_congr (hd k) Iff.rfl)
  rw [e]
  exact h.t.all hb
/-- a step of the table; more and fewer blocks of the caller's -/
theorem Cx.sameK (K : KeepJ J D) (h : Cx w0 p J D Y T s w) (I : St w0 p { T' with X := fun k => D s w k ∨ Y' k } w3) (hD : ∀ k, D s w k → w3.heap[k]? = w.heap[k]?) (hs : w.heap.size ≤ w3.heap.size) : Cx w0 p J D Y' T' s w3 ∧ ∀ k, D s w3 k ↔ D s w k := by
  obtain ⟨hj, hd⟩ := K s w w3 h.j hD hs
  refine ⟨⟨?_, I.b, hj⟩, hd⟩
  have e : (fun k => D s w3 k ∨ Y' k) = (fun k => D s w k ∨ Y' k) := funext fun k => propext (or_congr (hd k) Iff.rfl)
  rw [e]
  exact I.t
theorem cx_turn (I : St w0 p { T' with X := fun k => D0 k ∨ Y k } w3) (hb : Below w0.heap.size w3 w6) (hk : ∀ k, k < w3.heap.size → ¬ D0 k → w6.heap[k]? = w3.heap[k]?) (hj : J s' w6) (hd : ∀ k, D s' w6 k → (D0 k ∨ w3.heap.size ≤ k) ∧ k < w6.heap.size) : Cx w0 p J D Y T' s' w6 := by
  refine ⟨(I.excl (X' := fun k => D s' w6 k ∨ Y k) hb (fun k h1 h2 => hk k h1 fun e => h2 (.inl e)) (fun k h => ?_)).t, I.b.trans hb, hj⟩
  rcases h with h | h
  · exact ⟨(hd k h).1.imp .inl id, (hd k h).2⟩
  · obtain ⟨q, v1, v2, m, ha⟩ := I.t
    exact ⟨.inl (.inr h), Nat.lt_of_lt_of_le (ha.xlt k (.inr h)).1 hb.size⟩
theorem os_turn (S : OStep p D0 D0 w w3) (hx : p < w3.heap.size ∧ ∀ k, D0 k → ¬ ownT p w3 k) (hb : Below w0.heap.size w3 w6) (hk : ∀ k, k < w3.heap.size → ¬ D0 k → w6.heap[k]? = w3.heap[k]?) (hd : ∀ k, D s' w6 k → D0 k ∨ w3.heap.size ≤ k) : OStep p D0 (D s' w6) w w6 := by
  have hp := hk p hx.1 fun e => hx.2 p e (.inl (.inl rfl))
  refine ⟨hb.os.trans S.os, hb.tape.trans S.tape, hb.output.trans S.output, Nat.le_trans S.size hb.size, fun k h1 h2 h3 => ?_⟩
  obtain ⟨e1, e2, _⟩ := S.block k h1 h2 h3
  refine ⟨(hk k (Nat.lt_of_lt_of_le h1 S.size) h3).trans e1, fun e => e2 ((ownT.same hp).1 e), fun e => ?_⟩
  rcases hd k e with e | e
  · exact h3 e
  · have := S.size; omega
end
theorem flat_keep (w0 : World) (p nb : Nat) : KeepJ (FlatJ w0 p nb) (FlatD p nb) := fun _ _ _ h hk hs => h.keep hk hs
/-- behind a new name -/
theorem FlatAt.name {w0 w w' : World} {p nb bm : Nat} {s : FlS} {vm vr vr' : Value} {id k is : Int} (h : FlatAt w0 p nb s w bm vm vr) (hk : okI k) (his : okI is)
    (hb : ∀ j, j < w.heap.size → j ≠ nb → j ≠ bm → vr.ownBlock ≠ some j → w'.heap[j]? = w.heap[j]?) (hs : w.heap.size ≤ w'.heap.size)
    (hn : w'.heap[nb]? = some (.cells #[.pointer (some ⟨p, 0, none⟩), .map (some bm), vm, vr'] 99 (0, 0))) (hm : ∃ c, c ≤ s.cnt + 1 ∧ MapV Tryz.prog 3 bm c (mapI (setTo s.named id k)) w')
    (ho : OwnC w' w0.heap.size 3 1 vr' (s.more.length + 1) ((s.more ++ [is]).map (Value.int .i64))) (hv : vr'.ownBlock = vr.ownBlock ∨ ∀ j, vr'.ownBlock = some j → w.heap.size ≤ j) :
    FlatAt w0 p nb ⟨setTo s.named id k, s.cnt + 1, s.made, s.more ++ [is]⟩ w' bm vm vr' ∧ ∀ j, FlatD p nb ⟨setTo s.named id k, s.cnt + 1, s.made, s.more ++ [is]⟩ w' j → (FlatD p nb s w j ∨ w.heap.size ≤ j) ∧ j < w'.heap.size := by
  obtain ⟨c0, _, hm0⟩ := h.mp
  have hvm : ∀ g, vm.ownBlock = some g → w'.heap[g]? = w.heap[g]? := fun g e => by
    obtain ⟨cs, f, ht⟩ := h.md.ty g e
    refine hb g (h.md.lt g e).2 (fun e2 => ?_) (fun e2 => ?_) (fun e2 => ?_)
    · exact ty_ne (by decide) ⟨_, _, ht⟩ ⟨_, _, e2 ▸ h.blk⟩
    · exact hm0.noCells (e2 ▸ ht)
    · exact ty_ne (by decide) ⟨_, _, ht⟩ (h.mr.ty g e2)
  have hR := RowB.same hvm s.made.length
  have ha : ∀ j, RowB w vm s.made.length j → w'.heap[j]? = w.heap[j]? := fun j e => by
    obtain ⟨_, ⟨cs, f, ht⟩, h3⟩ := h.ab j e
    refine hb j (Array.getElem?_eq_some_iff.1 ht).1 (fun e2 => ?_) (fun e2 => ?_) h3
    · exact ty_ne (by decide) ⟨_, _, ht⟩ ⟨_, _, e2 ▸ h.blk⟩
    · exact hm0.noCells (e2 ▸ ht)
  have hA : FlatAt w0 p nb ⟨setTo s.named id k, s.cnt + 1, s.made, s.more ++ [is]⟩ w' bm vm vr' := by
    refine ⟨h.lt, hn, hm, fun i x hi => ?_, (h.md.keep (fun b _ e => ha b e) hvm hs).mono fun b _ e => (hR b).2 e, ?_, by have := h.ml; simp; omega, fun x hx => ?_, fun j e => ?_⟩
    · change (if i = id then some k else s.named i) = some x at hi
      split at hi
      · injection hi with hi; exact hi ▸ hk
      · exact h.ok i x hi
    · have : (s.more ++ [is]).length = s.more.length + 1 := by simp
      show OwnC w' _ _ _ vr' (s.more ++ [is]).length _
      rw [this]
      exact ho
    · rcases List.mem_append.1 hx with hx | hx
      · exact h.mo x hx
      · obtain rfl := List.mem_singleton.1 hx; exact his
    · have e' := (hR j).1 e
      obtain ⟨h1, ⟨cs, f, ht⟩, h3⟩ := h.ab j e'
      refine ⟨h1, ⟨cs, f, (ha j e').trans ht⟩, ?_⟩
      rcases hv with hv | hv
      · rw [hv]; exact h3
      · intro e2
        have := hv j e2
        have := (Array.getElem?_eq_some_iff.1 ht).1
        omega
  refine ⟨hA, fun j hj => ⟨?_, ((FlatJ.ltD ⟨_, _, _, hA⟩) j hj).2⟩⟩
  have hi := FlatD.iff (s := s) h.blk j
  rcases (FlatD.iff hn j).1 hj with e | e | e | e | e
  · exact .inl (hi.2 (.inl e))
  · exact .inl (hi.2 (.inr (.inl e)))
  · exact .inl (hi.2 (.inr (.inr (.inl e))))
  · rcases hv with hv | hv
    · exact .inl (hi.2 (.inr (.inr (.inr (.inl (by rw [← hv]; exact e))))))
    · exact .inr (hv j e)
  · exact .inl (hi.2 (.inr (.inr (.inr (.inr ((hR j).1 e))))))
/-- behind a new application -/
theorem FlatAt.push {w0 w w' : World} {p nb bm : Nat} {s : FlS} {vm vr vm' : Value} {m : MadeD} {am : Option Addr} {cm base : Nat} {css : List (List Value)} (h : FlatAt w0 p nb s w bm vm vr) (hk : okI m.var)
    (o1 : OwnC w w0.heap.size 46 3 vm s.made.length css.flatten) (o2 : css.length = s.made.length) (o3 : ∀ (j : Nat) (x : MadeD), s.made[j]? = some x → ∃ cs, css[j]? = some cs ∧ repMd.rd (RowB w vm s.made.length) w x cs)
    (hr : OwnC w base 3 1 (.slice am m.args.length cm) m.args.length (m.args.map (Value.int .i64))) (hbase : w0.heap.size ≤ base) (hro : ∀ x ∈ m.args, okI x) (hz : ∀ j, (Value.slice am m.args.length cm).ownBlock = some j → ¬ FlatD p nb s w j)
    (hb : ∀ j, j < w.heap.size → j ≠ nb → vm.ownBlock ≠ some j → w'.heap[j]? = w.heap[j]?) (hs : w.heap.size ≤ w'.heap.size)
    (hn : w'.heap[nb]? = some (.cells #[.pointer (some ⟨p, 0, none⟩), .map (some bm), vm', vr] 99 (0, 0)))
    (ho : OwnC w' w0.heap.size 46 3 vm' (s.made.length + 1) (css.flatten ++ [.int .i64 m.var, .string m.fn, .slice am m.args.length cm])) (hv : vm'.ownBlock = vm.ownBlock ∨ ∀ j, vm'.ownBlock = some j → w.heap.size ≤ j) :
    FlatAt w0 p nb (pushM s m) w' bm vm' vr ∧ ∀ j, FlatD p nb (pushM s m) w' j → (FlatD p nb s w j ∨ (Value.slice am m.args.length cm).ownBlock = some j ∨ w.heap.size ≤ j) ∧ j < w'.heap.size := by
  obtain ⟨c0, hc0, hm0⟩ := h.mp
  have hi := FlatD.iff (s := s) h.blk
  have hvt : ∀ {j : Nat} {cs : Array Value} {t : TypeId} {f : Nat × Nat}, w.heap[j]? = some (.cells cs t f) → t ≠ 46 → vm.ownBlock ≠ some j := fun ht hne e => ty_ne hne ⟨_, _, ht⟩ (h.md.ty _ e)
  have hbnb : bm ≠ nb := fun e => hm0.noCells (by rw [e]; exact h.blk)
  have hbvm : vm.ownBlock ≠ some bm := fun e => by obtain ⟨cs, f, ht⟩ := h.md.ty bm e; exact hm0.noCells ht
  have hvr : ∀ j, vr.ownBlock = some j → w'.heap[j]? = w.heap[j]? := fun j e => by
    obtain ⟨cs, f, ht⟩ := h.mr.ty j e
    exact hb j (h.mr.lt j e).2 (fun e2 => ty_ne (by decide) ⟨_, _, ht⟩ ⟨_, _, e2 ▸ h.blk⟩) (hvt ht (by decide))
  have ha : ∀ j, RowB w vm s.made.length j → w'.heap[j]? = w.heap[j]? := fun j e => by
    obtain ⟨_, ⟨cs, f, ht⟩, h3⟩ := h.ab j e
    exact hb j (Array.getElem?_eq_some_iff.1 ht).1 (fun e2 => ty_ne (by decide) ⟨_, _, ht⟩ ⟨_, _, e2 ▸ h.blk⟩) (hvt ht (by decide))
  have hz' : ∀ j, (Value.slice am m.args.length cm).ownBlock = some j → w'.heap[j]? = w.heap[j]? := fun j e => by
    obtain ⟨cs, f, ht⟩ := hr.ty j e
    exact hb j (hr.lt j e).2 (fun e2 => ty_ne (by decide) ⟨_, _, ht⟩ ⟨_, _, e2 ▸ h.blk⟩) (hvt ht (by decide))
  obtain ⟨g', cap', hv', hg1, hg2⟩ := ho.form (Nat.succ_pos _)
  have hl : ∀ cs ∈ css, cs.length = 3 := OwnR.lens (R := repMd) o2 o3
  have hfl : css.flatten.length = s.made.length * 3 := o1.1
  have hold : ∀ (j : Nat) (cs : List Value), css[j]? = some cs → ∀ (i : Nat) (u : Value), cs[i]? = some u → w'.cell? ⟨g', j * 3 + i, none⟩ = some u := fun j cs hj i u hu => by
    have hx := flat_at hl hj hu
    refine ho.cells (by rw [hv']; rfl) _ u ?_
    rw [List.getElem?_append_left (List.getElem?_eq_some_iff.1 hx).1]
    exact hx
  have hnew : w'.cell? ⟨g', s.made.length * 3 + 2, none⟩ = some (.slice am m.args.length cm) := by
    refine ho.cells (by rw [hv']; rfl) _ _ ?_
    rw [List.getElem?_append_right (by omega), hfl]
    rw [show s.made.length * 3 + 2 - s.made.length * 3 = 2 by omega]
    rfl
  have hR : ∀ k, RowB w' vm' (s.made.length + 1) k ↔ RowB w vm s.made.length k ∨ (Value.slice am m.args.length cm).ownBlock = some k := fun k => by
    constructor
    · rintro ⟨g, e1, j, u, hj, hu, hk'⟩
      rw [hv'] at e1
      injection e1 with e1
      subst e1
      by_cases hlt : j < s.made.length
      · obtain ⟨x, hx⟩ : ∃ x, s.made[j]? = some x := ⟨_, List.getElem?_eq_getElem hlt⟩
        obtain ⟨cs, h4, h5⟩ := o3 j x hx
        obtain ⟨a, c, rfl, _⟩ := repMd_rd.1 h5
        have := hold j _ h4 2 _ rfl
        rw [hu] at this
        injection this with this
        obtain ⟨g0, cap0, e0, _, _⟩ := o1.form (by omega)
        refine .inl ⟨g0, by rw [e0]; rfl, j, u, hlt, ?_, hk'⟩
        rw [this]
        exact o1.cells (by rw [e0]; rfl) _ _ (flat_at hl h4 rfl)
      · obtain rfl : j = s.made.length := by omega
        rw [hnew] at hu
        injection hu with hu
        exact .inr (hu ▸ hk')
    · rintro (⟨g, e1, j, u, hj, hu, hk'⟩ | e)
      · obtain ⟨x, hx⟩ : ∃ x, s.made[j]? = some x := ⟨_, List.getElem?_eq_getElem hj⟩
        obtain ⟨cs, h4, h5⟩ := o3 j x hx
        obtain ⟨a, c, rfl, _⟩ := repMd_rd.1 h5
        have h6 := o1.cells e1 _ _ (flat_at hl h4 (i := 2) rfl)
        rw [hu] at h6
        injection h6 with h6
        refine ⟨g', by rw [hv']; rfl, j, u, by omega, ?_, hk'⟩
        rw [h6]
        exact hold j _ h4 2 _ rfl
      · exact ⟨g', by rw [hv']; rfl, s.made.length, _, Nat.lt_succ_self _, hnew, e⟩
  have hlen : (s.made ++ [m]).length = s.made.length + 1 := by simp
  have hA : FlatAt w0 p nb (pushM s m) w' bm vm' vr := by
    refine ⟨h.lt, hn, ⟨c0, hc0, hm0.same (hb bm hm0.lt hbnb hbvm)⟩, h.ok, ?_, h.mr.same hvr, h.ml, h.mo, fun k e => ?_⟩
    · show OwnR repMd (RowB w' vm' (s.made ++ [m]).length) w' _ _ vm' (s.made ++ [m])
      rw [hlen]
      refine ⟨css ++ [[.int .i64 m.var, .string m.fn, .slice am m.args.length cm]], by rw [hlen, repMd_k]; simpa using ho, by simp [o2], fun j y hy => ?_⟩
      by_cases hj : j < s.made.length
      · rw [List.getElem?_append_left hj] at hy
        obtain ⟨ds, h4, h5⟩ := o3 j y hy
        exact ⟨ds, by rw [List.getElem?_append_left (by omega)]; exact h4, repMd.mono (repMd.keep h5 (fun b _ e => ha b e) hs) fun b _ e => (hR b).2 (.inl e)⟩
      · have hl2 := (List.getElem?_eq_some_iff.1 hy).1
        rw [hlen] at hl2
        obtain rfl : j = s.made.length := by omega
        rw [List.getElem?_append_right (Nat.le_refl _)] at hy
        simp at hy
        subst hy
        refine ⟨_, by rw [← o2]; simp, repMd_rd.2 ⟨am, cm, rfl, hk, ?_, ?_, ?_⟩⟩
        · obtain ⟨a', c', e, q1, q2⟩ := hr.slice; injection e with _ _ e; omega
        · obtain ⟨a', c', e, q1, q2⟩ := hr.slice; injection e with _ _ e; omega
        · refine SlR.ofI (OwnC.rdX (hr.same hz') hro) fun x _ e => (hR _).2 (.inr ?_)
          rw [e]
          rfl
    · change RowB w' vm' (s.made ++ [m]).length k at e
      rw [hlen] at e
      rcases (hR k).1 e with e | e
      · obtain ⟨h1, ⟨cs, f, ht⟩, h3⟩ := h.ab k e
        exact ⟨h1, ⟨cs, f, (ha k e).trans ht⟩, h3⟩
      · obtain ⟨cs, f, ht⟩ := hr.ty k e
        exact ⟨Nat.le_trans hbase (hr.lt k e).1, ⟨cs, f, (hz' k e).trans ht⟩, fun e2 => hz k e ((hi k).2 (.inr (.inr (.inr (.inl e2)))))⟩
  refine ⟨hA, fun j hj => ⟨?_, ((FlatJ.ltD ⟨_, _, _, hA⟩) j hj).2⟩⟩
  rcases (FlatD.iff hn j).1 hj with e | e | e | e | e
  · exact .inl ((hi j).2 (.inl e))
  · exact .inl ((hi j).2 (.inr (.inl e)))
  · rcases hv with hv | hv
    · exact .inl ((hi j).2 (.inr (.inr (.inl (by rw [← hv]; exact e)))))
    · exact .inr (.inr (hv j e))
  · exact .inl ((hi j).2 (.inr (.inr (.inr (.inl e)))))
  · change RowB w' vm' (s.made ++ [m]).length j at e
    rw [hlen] at e
    rcases (hR j).1 e with e | e
    · exact .inl ((hi j).2 (.inr (.inr (.inr (.inr e)))))
    · exact .inr (.inl e)
/-! ### how it grows -/
def NamedOk (s : FlS) : Prop := ∀ i x, s.named i = some x → okI x
theorem name_grow {T : TermD} (h : TermG T) (hf : T.fresh < 1099511627776) (s : FlS) (hs : NamedOk s) (id : Int) :
    GrowT T (nameD T s id).2.1 1 ∧ (okI id → okI (nameD T s id).1.1) ∧ (nameD T s id).2.2.cnt ≤ s.cnt + 1 ∧ (nameD T s id).2.2.made = s.made ∧ NamedOk (nameD T s id).2.2 := by
  have g1 := h.fresh (nodeX T id).sort hf
  unfold nameD
  split
  · exact ⟨(GrowT.refl h).mono (by decide), fun hid => hid, Nat.le_succ _, rfl, hs⟩
  · split
    · rename_i k hk
      exact ⟨(GrowT.refl h).mono (by decide), fun _ => hs _ _ hk, Nat.le_succ _, rfl, hs⟩
    · split
      · split
        · refine ⟨g1.trans (g1.g.make 8 (nm := ⟨#[]⟩) (val := noRat) _ (by decide) (by decide) (by decide)), fun _ => put_bdF h _, Nat.le_refl _, rfl, fun i x hi => ?_⟩
          change (if i = id then some _ else s.named i) = some x at hi
          split at hi
          · injection hi with hi; exact hi ▸ put_bdF h _
          · exact hs i x hi
        · exact ⟨g1.trans (g1.g.make 8 (nm := ⟨#[]⟩) (val := noRat) _ (by decide) (by decide) (by decide)), fun _ => okI_0, Nat.le_succ _, rfl, hs⟩
      · exact ⟨g1, fun _ => okI_0, Nat.le_succ _, rfl, hs⟩
theorem args_grow : ∀ (l : List Int) (out : List Int) (T : TermD) (s : FlS), TermG T → T.fresh + l.length < 1099511627776 → NamedOk s →
    GrowT T (argsD l out T s).2.1 l.length ∧ (argsD l out T s).2.2.cnt ≤ s.cnt + l.length ∧ (argsD l out T s).2.2.made = s.made ∧ NamedOk (argsD l out T s).2.2
  | [], out, T, s, h, _, hs => ⟨GrowT.refl h, Nat.le_refl _, rfl, hs⟩
  | a :: l, out, T, s, h, hf, hs => by
    rw [List.length_cons] at hf
    obtain ⟨r1, _, r2, r3, r4⟩ := name_grow h (by omega) s hs a
    unfold argsD
    split
    · obtain ⟨q1, q2, q3, q4⟩ := args_grow l (out ++ [(nameD T s a).1.1]) _ (nameD T s a).2.2 r1.g (by have := r1.fr; omega) r4
      exact ⟨(r1.trans q1).mono (by rw [List.length_cons]; omega), by rw [List.length_cons]; omega, q3.trans r3, q4⟩
    · exact ⟨r1.mono (by rw [List.length_cons]; omega), by rw [List.length_cons]; dsimp only; omega, r3, r4⟩
def szF (s : FlS) : Nat := s.cnt + s.made.length
theorem flatF_grow (T : TermD) (s : FlS) (id : Int) (n : NodeD) (h : TermG T) (hf : T.fresh ≤ 1000000000000) (hn : NodeG n) (hs : NamedOk s) (hm : ∀ o ∈ s.made, okI o.var) :
    GrowT T (flatF T s id n).2.1 100 ∧ okI (flatF T s id n).1.1 ∧ szF (flatF T s id n).2.2 ≤ szF s + 100 := by
  have hl := hn.args
  obtain ⟨r1, r2, r3, r4⟩ := args_grow n.args [] T s h (by omega) hs
  unfold flatF
  split
  · unfold flatR
    generalize argsD n.args [] T s = A at *
    obtain ⟨⟨l, e⟩, T1, s1⟩ := A
    dsimp only at *
    have g1 := r1.g.fresh n.sort (by have := r1.fr; omega)
    split
    · split
      · rename_i o ho
        exact ⟨r1.mono (by omega), hm o (by rw [← r3]; exact List.mem_of_find?_eq_some ho), by show szF s1 ≤ szF s + 100; unfold szF; rw [r3]; omega⟩
      · split
        · exact ⟨(r1.trans g1).mono (by omega), put_bdF r1.g _, by unfold szF pushM; dsimp only; rw [List.length_append, r3, List.length_singleton]; omega⟩
        · exact ⟨(r1.trans g1).mono (by omega), okI_0, by show szF s1 ≤ szF s + 100; unfold szF; rw [r3]; omega⟩
    · exact ⟨r1.mono (by omega), okI_0, by show szF s1 ≤ szF s + 100; unfold szF; rw [r3]; omega⟩
  · exact ⟨(GrowT.refl h).mono (by decide), okI_0, Nat.le_add_right _ _⟩
end Go.Proofs.YtikmkalfdiiahaaGreatDoor

/-
  term.Node of whatever number; flat.applied, any, Choice, Plain. Conditions: a table of terms in memory.
-/
namespace Go.Proofs.YtikmkalfdiiahaaGreatDoor
open Go.RowKit Go.Sort Go.Lib

theorem zero_node (S : Nat → Prop) (w : World) : NodeS S w zeroN none 0 none 0 none 0 :=
  ⟨SlR.nil _ _ _ _, ⟨Nat.le_refl _, Nat.zero_le _⟩, SlR.nil _ _ _ _, ⟨Nat.le_refl _, Nat.zero_le _⟩, SlR.nil _ _ _ _, ⟨Nat.le_refl _, Nat.zero_le _⟩, okI_0, okI_0⟩
set_option maxHeartbeats 1000000 in
theorem nodeX_any (B p : Nat) (T : TermD) (i : Int) (w : World) (h : TermX B p T w) (hs : SmN T) : Calls Tryz.prog 12 #[.pointer (some ⟨p, 0, none⟩), .int .i64 i] w fun e w' => NodePost (nodeX T i) (hasT T i) w e w' := by
  cases hi : hasT T i
  case true =>
    obtain ⟨g0, g1⟩ := hasT_iff.1 hi
    obtain ⟨k, rfl⟩ := Int.eq_ofNat_of_zero_le g0
    have := node_any B p T k w h (by omega) hs
    rwa [show nodeX T (k : Int) = nodeAt T k from by unfold nodeX; rw [if_pos hi]]
  case false =>
    have hB0 : Below w.heap.size w (w.alloc (.cells #[.int .i64 0, .string ByteArray.empty, .bool false, .slice none 0 0, .slice none 0 0, .slice none 0 0, .int .i64 0] 37)) := (Below.refl _ _).alloc (Nat.le_refl _) _
    have hB0' := Lib.hid hB0
    have hh := Lib.hid (has_any B p T i _ (h.all hB0))
    rw [hi] at hh
    have hX := heap_alloc_new w (.cells #[.int .i64 0, .string ByteArray.empty, .bool false, .slice none 0 0, .slice none 0 0, .slice none 0 0, .int .i64 0] 37)
    have r0 := cell_p hX 0
    have r1 := cell_p hX 1
    have r2 := cell_p hX 2
    have r3 := cell_p hX 3
    have r4 := cell_p hX 4
    have r5 := cell_p hX 5
    have r6 := cell_p hX 6
    have f0 := frz_p hX 0
    have f1 := frz_p hX 1
    have f2 := frz_p hX 2
    have f3 := frz_p hX 3
    have f4 := frz_p hX 4
    have f5 := frz_p hX 5
    have f6 := frz_p hX 6
    simp only [List.getElem?_toArray, List.getElem?_cons_succ, List.getElem?_cons_zero] at r0 r1 r2 r3 r4 r5 r6
    have hv := Lib.hid (show nodeX T i = zeroN from by unfold nodeX; rw [hi]; rfl)
    clear h hs hi hB0
    go_enter Tryz.func12, Tryz.ntmps12
    go_wp2_with fail
    refine hh.out.mono ?_; rintro e1 w' ⟨rfl, rfl⟩
    go_wp2
    refine bodyPost_ret (v := .tuple #[nodeV zeroN none 0 none 0 none 0, .bool false]) (by simp [results, Tryz.results12, go_sem, *]; exact ⟨rfl, rfl, rfl, rfl, rfl, rfl, rfl⟩) rfl ?_
    rw [hv.out]
    exact ⟨none, 0, none, 0, none, 0, rfl, zero_node _ _, (Below.refl _ _).alloc (Nat.le_refl _) _⟩
/-- a function that tells of a node -/
def Tells (fs : Nat) (P : NodeD → Bool) : Prop := ∀ (n : NodeD) (a : Option Addr) (c : Nat) (b : Option Addr) (d : Nat) (g : Option Addr) (e : Nat) (w : World), Calls Tryz.prog fs #[nodeV n a c b d g e] w fun r w' => r = .returned (.bool (P n)) ∧ Below w.heap.size w w'
set_option maxHeartbeats 1000000 in
theorem applied_any : Tells 81 appliedN := by
  intro n a c b d g e w
  obtain ⟨op, nm, ⟨ng, nu, de⟩, args, so⟩ := n
  have hb0 : Below w.heap.size w (w.alloc (.cells #[.int .i64 op, .string nm, .bool ng, .slice a nu.length c, .slice b de.length d, .slice g args.length e, .int .i64 so] 37)) := (Below.refl _ _).alloc (Nat.le_refl _) _
  have hX0 := heap_alloc_new w (.cells #[.int .i64 op, .string nm, .bool ng, .slice a nu.length c, .slice b de.length d, .slice g args.length e, .int .i64 so] 37)
  have hB := Lib.hid hb0
  have hd := @Lib.hid (appliedN ⟨op, nm, ⟨ng, nu, de⟩, args, so⟩ = (decide (op = 12) && decide (0 < args.length))) rfl
  generalize hw1 : w.alloc (.cells #[.int .i64 op, .string nm, .bool ng, .slice a nu.length c, .slice b de.length d, .slice g args.length e, .int .i64 so] 37) = w1 at *
  have r0 := cell_p hX0 0
  have r5 := cell_p hX0 5
  simp only [List.getElem?_toArray, List.getElem?_cons_succ, List.getElem?_cons_zero] at r0 r5
  clear hb0 hX0
  by_cases hop : op = 12
  · subst hop
    have hv := Lib.hid (show decide (0 < args.length) = appliedN ⟨12, nm, ⟨ng, nu, de⟩, args, so⟩ from by rw [hd.out]; rfl)
    clear hd
    go_enter Tryz.func81, Tryz.ntmps81
    go_wp2
    go_ret
    exact ⟨ret_bool hv.out, hB.out⟩
  · have hopd : decide (op = 12) = false := decide_eq_false hop
    have hv := Lib.hid (show false = appliedN ⟨op, nm, ⟨ng, nu, de⟩, args, so⟩ from by rw [hd.out, hopd]; rfl)
    clear hd
    go_enter Tryz.func81, Tryz.ntmps81
    go_wp2
    go_ret
    exact ⟨ret_bool hv.out, hB.out⟩
set_option maxHeartbeats 1000000 in
theorem choice1_any : Tells 82 choiceN := by
  intro n a c b d g e w
  obtain ⟨op, nm, ⟨ng, nu, de⟩, args, so⟩ := n
  have hb0 : Below w.heap.size w (w.alloc (.cells #[.int .i64 op, .string nm, .bool ng, .slice a nu.length c, .slice b de.length d, .slice g args.length e, .int .i64 so] 37)) := (Below.refl _ _).alloc (Nat.le_refl _) _
  have hX0 := heap_alloc_new w (.cells #[.int .i64 op, .string nm, .bool ng, .slice a nu.length c, .slice b de.length d, .slice g args.length e, .int .i64 so] 37)
  have hB := Lib.hid hb0
  have hd := @Lib.hid (choiceN ⟨op, nm, ⟨ng, nu, de⟩, args, so⟩ = (decide (op = 10) && !decide (so = 0))) rfl
  generalize hw1 : w.alloc (.cells #[.int .i64 op, .string nm, .bool ng, .slice a nu.length c, .slice b de.length d, .slice g args.length e, .int .i64 so] 37) = w1 at *
  have r0 := cell_p hX0 0
  have r6 := cell_p hX0 6
  simp only [List.getElem?_toArray, List.getElem?_cons_succ, List.getElem?_cons_zero] at r0 r6
  clear hb0 hX0
  by_cases hop : op = 10
  · subst hop
    have hv := Lib.hid (show (so != 0) = choiceN ⟨10, nm, ⟨ng, nu, de⟩, args, so⟩ from by
      rw [hd.out]
      by_cases hs : so = 0
      · subst hs; rfl
      · rw [decide_eq_false hs, bne_iff_ne.2 hs]; rfl)
    clear hd
    go_enter Tryz.func82, Tryz.ntmps82
    go_wp2
    go_ret
    exact ⟨ret_bool hv.out, hB.out⟩
  · have hopd : decide (op = 10) = false := decide_eq_false hop
    have hv := Lib.hid (show false = choiceN ⟨op, nm, ⟨ng, nu, de⟩, args, so⟩ from by rw [hd.out, hopd]; rfl)
    clear hd
    go_enter Tryz.func82, Tryz.ntmps82
    go_wp2
    go_ret
    exact ⟨ret_bool hv.out, hB.out⟩
set_option maxHeartbeats 1000000 in
theorem any1_any {fs : Nat} {P : NodeD → Bool} (hf : Tells fs P) (hen : ∀ args w, (callFunc fs args).run Tryz.prog w = .ok (.enter fs args) w) (B p : Nat) (T : TermD) (i : Int) (x y : Nat) (w : World) (h : TermX B p T w) (hs : SmN T)
    (hx : w.heap[x]? = some (.cells #[.pointer (some ⟨p, 0, none⟩)] 23 (0, 0))) (hy : w.heap[y]? = some (.cells #[.func (.func fs) #[] #[]] 129 (0, 0))) :
    Calls Tryz.prog 107 #[.int .i64 i, .pointer (some ⟨x, 0, none⟩), .pointer (some ⟨y, 0, none⟩)] w fun e w' => e = .returned (.bool (P (nodeX T i))) ∧ Below w.heap.size w w' := by
  have hn := Lib.hid (nodeX_any B p T i w h hs)
  have hf' := Lib.hid hf
  have k1 := cell_p hx 0
  simp only [List.getElem?_toArray, List.getElem?_cons_zero] at k1
  have hylt := (Array.getElem?_eq_some_iff.1 hy).1
  have hy' := Lib.hid hy
  generalize nodeX T i = n at *
  clear h hs hx hy hf
  go_enter Tryz.func107, Tryz.ntmps107
  go_wp2_with fail
  refine hn.out.mono ?_; rintro e w1 ⟨a, c, b, d, g, e', rfl, hN, hb⟩
  obtain ⟨op, nm, ⟨ng, nu, de⟩, args, so⟩ := n
  have hbb : Below w.heap.size w (w1.alloc (.cells #[.int .i64 op, .string nm, .bool ng, .slice a nu.length c, .slice b de.length d, .slice g args.length e', .int .i64 so] 37)) := hb.alloc hb.size _
  have hX1 := heap_alloc_new w1 (.cells #[.int .i64 op, .string nm, .bool ng, .slice a nu.length c, .slice b de.length d, .slice g args.length e', .int .i64 so] 37)
  have hY1 := (hbb.block y hylt).trans hy'.out
  have B1 := Lib.hid hbb
  clear hbb hb hN hn
  generalize hw2 : w1.alloc (.cells #[.int .i64 op, .string nm, .bool ng, .slice a nu.length c, .slice b de.length d, .slice g args.length e', .int .i64 so] 37) = w2 at *
  have r0 := cell_p hX1 0
  have r1 := cell_p hX1 1
  have r2 := cell_p hX1 2
  have r3 := cell_p hX1 3
  have r4 := cell_p hX1 4
  have r5 := cell_p hX1 5
  have r6 := cell_p hX1 6
  have k2 := cell_p hY1 0
  simp only [List.getElem?_toArray, List.getElem?_cons_succ, List.getElem?_cons_zero] at r0 r1 r2 r3 r4 r5 r6 k2
  have hcall := Lib.hid (hf'.out ⟨op, nm, ⟨ng, nu, de⟩, args, so⟩ a c b d g e' w2)
  clear hX1 hY1
  go_wp2_with fail
  refine hcall.out.mono ?_; rintro e w3 ⟨rfl, hb3⟩
  have B3 := Lib.hid (B1.out.trans (hb3.mono B1.out.size))
  clear hb3 hcall
  go_wp2
  go_ret
  exact ⟨rfl, B3.out⟩
set_option maxHeartbeats 1000000 in
theorem fany_any {fs : Nat} {P : NodeD → Bool} (hf : Tells fs P) (hen : ∀ args w, (callFunc fs args).run Tryz.prog w = .ok (.enter fs args) w) (B p : Nat) (T : TermD) (id : Int) (w : World) (h : TermX B p T w) (ht : TermOk T) (hid : okI id) :
    Calls Tryz.prog 80 #[.pointer (some ⟨p, 0, none⟩), .int .i64 id, .func (.func fs) #[] #[]] w fun e w' => e = .returned (.bool (anyT T P id)) ∧ Below w.heap.size w w' := by
  have hB2 : Below w.heap.size w ((w.alloc (.cells #[.pointer (some ⟨p, 0, none⟩)] 23)).alloc (.cells #[.func (.func fs) #[] #[]] 129)) := below2 w _ _
  have hx2 := heap2a w (.cells #[.pointer (some ⟨p, 0, none⟩)] 23) (.cells #[.func (.func fs) #[] #[]] 129)
  have hy2 := heap2b w (.cells #[.pointer (some ⟨p, 0, none⟩)] 23) (.cells #[.func (.func fs) #[] #[]] 129)
  have hR := RdI.lit [id] 3 ((w.alloc (.cells #[.pointer (some ⟨p, 0, none⟩)] 23)).alloc (.cells #[.func (.func fs) #[] #[]] 129)) (by intro x hx; simp at hx; subst hx; exact hid)
  have hB3 := hB2.alloc hB2.size (.cells ([id].map (Value.int .i64)).toArray 3)
  have hz2 : w.heap.size + 1 < ((w.alloc (.cells #[.pointer (some ⟨p, 0, none⟩)] 23)).alloc (.cells #[.func (.func fs) #[] #[]] 129)).heap.size := by simp
  have hx3 := (Below.heap_alloc _ (.cells ([id].map (Value.int .i64)).toArray 3) w.heap.size (by omega)).trans hx2
  have hy3 := (Below.heap_alloc _ (.cells ([id].map (Value.int .i64)).toArray 3) (w.heap.size + 1) hz2).trans hy2
  simp only [World.size_alloc] at hR
  simp only [List.map_cons, List.map_nil] at hR hB3 hx3 hy3
  generalize hw3 : ((w.alloc (.cells #[.pointer (some ⟨p, 0, none⟩)] 23)).alloc (.cells #[.func (.func fs) #[] #[]] 129)).alloc (.cells #[.int .i64 id] 3) = w3 at *
  have hwk := Lib.hid (walk_any B p T (some ⟨w.heap.size + 1 + 1, 0, none⟩) 1 1 [id] w3 (h.all hB3) ht hR (by decide))
  have hx3' := cell_p hx3 0
  have hlen := (walkT_ok ht.ord [id]).1.small.2
  have hrange := Lib.hid (walkT_ok ht.ord [id]).2
  have hle := ht.sm.le
  have hX := Lib.hid hx3
  have hY := Lib.hid hy3
  have hT := Lib.hid (h.all hB3)
  have hB := Lib.hid hB3
  have ht' := Lib.hid ht
  have hf' := Lib.hid hf
  have hd := @Lib.hid (((walkT T [id]).2.any fun x => P (nodeX T x)) = anyT T P id) rfl
  simp only [List.getElem?_toArray, List.getElem?_cons_zero] at hx3'
  have hxl : w.heap.size < w3.heap.size := (Array.getElem?_eq_some_iff.1 hx3).1
  have hyl : w.heap.size + 1 < w3.heap.size := (Array.getElem?_eq_some_iff.1 hy3).1
  generalize (walkT T [id]).2 = L at *
  have hln : L.length < 1099511627776 := by omega
  clear hB2 hx2 hy2 hR hB3 hz2 hx3 hy3 h ht hf hlen
  go_enter Tryz.func80, Tryz.ntmps80
  go_wp2_with fail
  refine hwk.out.mono ?_; rintro e w4 ⟨aL, cL, rfl, oL, b4⟩
  have hRL := (RdI.own oL (fun x hx => by have := hrange.out x hx; omega)).2.1
  have hhas := Lib.hid (hasG_any (fun x => P (nodeX T x)) 107 [.pointer (some ⟨w.heap.size, 0, none⟩), .pointer (some ⟨w.heap.size + 1, 0, none⟩)] aL L.length cL L w4 hRL hln
    (enters_of Tryz.func107 (by kernel_rfl) rfl) (fun w1 hw x _ => any1_any hf'.out hen B p T x w.heap.size (w.heap.size + 1) w1 ((hT.out.all b4).all hw) ht'.out.sn
      ((hw.block _ (Nat.lt_of_lt_of_le hxl b4.size)).trans ((b4.block _ hxl).trans hX.out)) ((hw.block _ (Nat.lt_of_lt_of_le hyl b4.size)).trans ((b4.block _ hyl).trans hY.out))))
  have B4 := Lib.hid (hB.out.trans (b4.mono hB.out.size))
  clear hRL oL b4 hwk
  go_wp2_with fail
  refine hhas.out.mono ?_; rintro e w5 ⟨rfl, hb5⟩
  have B5 := Lib.hid (B4.out.trans (hb5.mono B4.out.size))
  clear hb5 hhas
  go_wp2
  go_ret
  exact ⟨ret_bool hd.out, B5.out⟩
set_option maxHeartbeats 1000000 in
theorem fchoice_any (B p : Nat) (T : TermD) (id : Int) (w : World) (h : TermX B p T w) (ht : TermOk T) (hid : okI id) :
    Calls Tryz.prog 49 #[.pointer (some ⟨p, 0, none⟩), .int .i64 id] w fun e w' => e = .returned (.bool (anyT T choiceN id)) ∧ Below w.heap.size w w' := by
  have ha := Lib.hid (fany_any choice1_any (enters_of Tryz.func82 (by kernel_rfl) rfl) B p T id w h ht hid)
  clear h ht
  go_enter Tryz.func49, Tryz.ntmps49
  go_wp2_with fail
  refine ha.out.mono ?_; rintro e w1 ⟨rfl, hb⟩
  go_wp2
  go_ret
  exact ⟨rfl, hb⟩
set_option maxHeartbeats 1000000 in
theorem plain_any (B p : Nat) (T : TermD) (id : Int) (w : World) (h : TermX B p T w) (ht : TermOk T) (hid : okI id) :
    Calls Tryz.prog 46 #[.pointer (some ⟨p, 0, none⟩), .int .i64 id] w fun e w' => e = .returned (.bool (plainT T id)) ∧ Below w.heap.size w w' := by
  have ha := Lib.hid (fany_any applied_any (enters_of Tryz.func81 (by kernel_rfl) rfl) B p T id w h ht hid)
  have hs := tsort_any B p T id w h
  have hd := @Lib.hid (plainT T id = (hasT T id && !anyT T appliedN id)) rfl
  clear h ht
  unfold sortOf at hs
  cases hi : hasT T id
  case false =>
    rw [hi] at hs hd
    have hs' := Lib.hid hs
    have hv := Lib.hid (show false = plainT T id from by rw [hd.out]; rfl)
    clear hs hd
    go_enter Tryz.func46, Tryz.ntmps46
    go_wp2_with fail
    refine hs'.out.mono ?_; rintro e w1 ⟨rfl, rfl⟩
    go_wp2
    go_ret
    exact ⟨ret_bool hv.out, Below.refl _ _⟩
  case true =>
    rw [hi] at hs hd
    have hs' := Lib.hid hs
    have hv := Lib.hid (show (!anyT T appliedN id) = plainT T id from by rw [hd.out]; rfl)
    clear hs hd
    generalize anyT T appliedN id = z at *
    go_enter Tryz.func46, Tryz.ntmps46
    go_wp2_with fail
    refine hs'.out.mono ?_; rintro e w1 ⟨rfl, rfl⟩
    go_wp2_with fail
    refine ha.out.mono ?_; rintro e w2 ⟨rfl, hb⟩
    go_wp2
    go_ret
    exact ⟨ret_bool hv.out, hb⟩
end Go.Proofs.YtikmkalfdiiahaaGreatDoor
