/-
  watch.Watch: Add and Undo. Conditions: ints, bounded lengths.
-/
import Derived.Test.YtdmnpjlgldlodaaWE
namespace Go.Proofs.Ytdmnpjlgldlodaa
open Go.RowKit Go.Sort Go.Lib Go.Maps

theorem under_all : Try.prog.underlying 83 = some (.map 3 22) := Try.underlying83
theorem zero_ints (w : World) : (zeroValue 22).run Try.prog w = .ok (.slice none 0 0) w := by kernel_rfl
def badAdd (C : List (Int × List Int)) (id : Int) (l : List Int) : Bool := l.length == 0 || hasI l 0 || (findC C id).isSome
def AddW (B p m1 m2 : Nat) (C : List (Int × List Int)) (S : List Int) (id : Int) (l : List Int) (w : World) (e : Ending) (w' : World) : Prop :=
  e = .returned (.int .i64 (if badAdd C id l then 1 else 0)) ∧ WatchIs B p m1 m2 (if badAdd C id l then C else C ++ [(id, nout l)]) S w' ∧ WStep p m1 m2 w w'
theorem AddW.no {B p m1 m2 : Nat} {C : List (Int × List Int)} {S : List Int} {id : Int} {l : List Int} {w : World} (h : WatchIs B p m1 m2 C S w) (hb : badAdd C id l = true) : AddW B p m1 m2 C S id l w (.returned (.int .i64 1)) w := by
  unfold AddW; rw [hb]; exact ⟨rfl, h, ⟨rfl, rfl, rfl, Nat.le_refl _, fun k _ _ _ _ hr => ⟨rfl, hr⟩⟩⟩
theorem findC_snoc {C : List (Int × List Int)} {id : Int} {l : List Int} (h : findC C id = none) (y : Int) : findC (C ++ [(id, l)]) y = if y = id then some l else findC C y := by
  unfold findC at *
  rw [List.find?_append]
  by_cases e : y = id
  · subst e
    have : C.find? (fun e => e.1 == y) = none := by cases hh : C.find? (fun e => e.1 == y) <;> simp_all
    simp [this]
  · have : (id == y) = false := by simpa using fun e' => e e'.symm
    simp [e, this]
theorem AddW.yes {B p m1 m2 : Nat} {C : List (Int × List Int)} {S : List Int} {id : Int} {l : List Int} {w w1 w2 w3 : World} {a : Option Addr} {n c : Nat} {F : Int → Option Value} (h : WatchIs B p m1 m2 C S w) (hbad : badAdd C id l = false)
    (hb : Below w.heap.size w w1) (hr : RdI w1 a n (nout l)) (hn : n < 1099511627776) (hfr : ∀ y, a = some y → w.heap.size ≤ y.block) (hw2 : w2 = w1)
    (hF : ∀ id, match findC C id with
      | none => F id = none
      | some l => ∃ a n c, F id = some (.slice a n c) ∧ AtR p m1 m2 w a n l)
    (hm3 : MapV Try.prog 3 m1 (if (F id).isSome then C.length else C.length + 1) (upd F id (some (.slice a n c))) w3) (ht : w2.mapTurned w3 m1) :
    AddW B p m1 m2 C S id l w (.returned (.int .i64 0)) w3 := by
  subst hw2
  have h1 := h.below hb
  have s1 := WStep.of_below (m1 := m1) (m2 := m2) h.plt hb
  have s2 := WStep.of_map (m1 := m1) (m2 := m2) (m := m1) h1.plt (.inl rfl) h.ne1 ht
  have hfc : findC C id = none := by
    unfold badAdd at hbad
    simp only [Bool.or_eq_false_iff] at hbad
    cases hh : findC C id
    · rfl
    · rw [hh] at hbad; simp at hbad
  have hFn : F id = none := by have := hF id; rw [hfc] at this; exact this
  have hro : rowOf w2 p = rowOf w p := rowOf_same (hb.block p h.plt)
  have hoff : WOff p m1 m2 w2 a := fun x hx => by
    have g1 := hfr x hx
    obtain ⟨v, hv, ho⟩ := h.blk
    obtain ⟨D, hD, _⟩ := h.all
    have l1 := hD.lt
    have l2 := h.tru.map.lt
    have l3 := h.plt
    refine ⟨by omega, by omega, by omega, ?_⟩
    rw [hro]
    unfold rowOf
    rw [hv]
    intro e
    have := (ho.lt x.block e).2
    omega
  obtain ⟨v, hv, ho⟩ := h1.blk
  unfold AddW
  rw [hbad]
  refine ⟨rfl, ⟨h.ne1, h.ne2, h.ne3, h.bp, h.b1, h.b2, ⟨v, ?_, ?_⟩, h1.tru.touch (S0 := fun k => k = m1) (Touch.of_turned ht rfl) (Ne.symm h.ne3), upd F id (some (.slice a n c)), ?_, fun y => ?_⟩, s1.trans s2⟩
  · exact (ht.grown.block p h1.plt (by simpa using h.ne1)).trans hv
  · refine ho.kept ht.grown (Or.inr ?_)
    intro e
    obtain ⟨D, ⟨es, cl, hb1, _⟩, _⟩ := (h1.all).choose_spec.1
    rcases ho.2 with ⟨rfl, _⟩ | ⟨g, cap, cur, rfl, _, hg, _⟩
    · simp [Value.ownBlock] at e
    · simp [Value.ownBlock] at e
      subst e
      rw [hb1] at hg; cases hg
  · rw [hFn] at hm3
    show MapV Try.prog 3 m1 (C ++ [(id, nout l)]).length _ _
    rw [List.length_append]
    exact hm3
  · show match findC (C ++ [(id, nout l)]) y with | none => _ | some l => _
    rw [findC_snoc hfc]
    by_cases hy : y = id
    · rw [if_pos hy, hy, upd_same]
      exact ⟨a, n, c, rfl, AtR.wstep ⟨hr, hn, fun _ => hoff⟩ s2⟩
    · rw [if_neg hy, upd_other F _ hy]
      have := hF y
      split at this
      · exact this
      · obtain ⟨a, n, c, e1, e2⟩ := this
        exact ⟨a, n, c, e1, (e2.wstep s1).wstep s2⟩

theorem cell_grown {w w' : World} {m p j : Nat} (h : w.mapTurned w' m) (hne : p ≠ m) (hp : p < w.heap.size) : w'.cell? ⟨p, j, none⟩ = w.cell? ⟨p, j, none⟩ :=
  World.cell?_of_block (a := ⟨p, j, none⟩) (h.grown.block p hp (by simpa using hne))
set_option maxRecDepth 100000 in
set_option maxHeartbeats 1000000 in
theorem wadd_any (B p m1 m2 : Nat) (C : List (Int × List Int)) (S : List Int) (id : Int) (a : Option Addr) (n c : Nat) (l : List Int) (w : World) (h : WatchIs B p m1 m2 C S w) (hx : RdI w a n l) (hn : n < 1099511627776) (hid : okI id) (hC : C.length < 1099511627776) :
    Calls Try.prog 27 #[.pointer (some ⟨p, 0, none⟩), .int .i64 id, .slice a n c] w fun e w' => AddW B p m1 m2 C S id l w e w' := by
  have h' := Lib.hid h
  have hx' := Lib.hid hx
  have lx := Lib.hid hx.len
  obtain ⟨v, hb, _⟩ := h.blk
  have c0 : w.cell? ⟨p, 0, none⟩ = some (.map (some m1)) := cell_p hb 0
  have hplt := h.plt
  have hne := h.ne1
  obtain ⟨F, hm, hF⟩ := h.all
  have hl := hm.look_ok Try.underlying3 under_all (zero_ints w) hid
  have hF' := Lib.hid hF
  have hm' := Lib.hid hm
  have hid' := Lib.hid hid
  have hbd := @Lib.hid (badAdd C id l = (l.length == 0 || hasI l 0 || (findC C id).isSome)) rfl
  have hco := Lib.hid (contains_any a n c l 0 w hx (by omega))
  clear h hx hb hF hm hid
  by_cases g0 : n = 0
  · subst g0
    have hv : badAdd C id l = true := by rw [hbd.out, lx.out]; rfl
    have hv' := Lib.hid hv
    clear hv
    go_enter Try.func27, Try.ntmps27
    go_wp2
    go_ret
    exact AddW.no h'.out hv'.out
  have g0b : ((n : Int) == 0) = false := by simp only [beq_eq_false_iff_ne, ne_eq]; omega
  have g0c : (l.length == 0) = false := by rw [lx.out]; simpa using g0
  rw [g0c] at hbd
  cases g1 : hasI l 0
  case true =>
    rw [g1] at hbd hco
    have hv : badAdd C id l = true := by rw [hbd.out]; rfl
    have hv' := Lib.hid hv
    clear hv g1 g0c g0
    go_enter Try.func27, Try.ntmps27
    go_wp2_with fail
    refine hco.out.mono ?_; rintro e w' ⟨rfl, rfl⟩
    go_wp2
    go_ret
    exact AddW.no h'.out hv'.out
  case false =>
  rw [g1] at hbd hco
  have hFi := hF'.out id
  cases g2 : findC C id with
  | some l2 =>
    rw [g2] at hbd hFi
    obtain ⟨a2, n2, c2, e1, _⟩ := hFi
    rw [e1] at hl
    simp only [Option.getD_some, Option.isSome_some] at hl
    have hv : badAdd C id l = true := by rw [hbd.out]; rfl
    have hv' := Lib.hid hv
    clear hv g1 g0c g0 g2 e1
    go_enter Try.func27, Try.ntmps27
    go_wp2_with fail
    refine hco.out.mono ?_; rintro e w' ⟨rfl, rfl⟩
    go_wp2
    go_ret
    exact AddW.no h'.out hv'.out
  | none =>
    rw [g2] at hbd hFi
    dsimp only at hFi
    have hFi' := Lib.hid hFi
    rw [hFi] at hl
    simp only [Option.getD_none, Option.isSome_none] at hl
    have hv : badAdd C id l = false := by rw [hbd.out]; rfl
    have hv' := Lib.hid hv
    clear hv g1 g0c g0 g2 hFi
    go_enter Try.func27, Try.ntmps27
    go_wp2_with fail
    refine hco.out.mono ?_; rintro e w' ⟨rfl, rfl⟩
    go_wp2
    have hno := Lib.hid (norm_any a n c l w.drew hx'.out.drew (by omega))
    clear hl hco
    go_region_held3 (fun w' => w'.cell? ⟨p, 0, none⟩ = some (.map (some m1))) (first | exact c0 | exact c0w | exact c0z)
      ((first
        | (go_at_call 12; refine hno.out.mono ?_; rintro e w1 ⟨a1, n1, c1, rfl, r1, fr1, b1⟩; have c0w : w1.cell? ⟨p, 0, none⟩ = some (.map (some m1)) := (b1.cell (p := ⟨p, 0, none⟩) hplt).trans c0; obtain ⟨w3, hst, hm3, ht3⟩ := (hm'.out.same (b1.block m1 hm'.out.lt)).store under_int under_all (by unfold maxLen; omega) hid'.out (.slice a1 n1 c1); have c0z : w3.cell? ⟨p, 0, none⟩ = some (.map (some m1)) := (cell_grown ht3 hne (Nat.lt_of_lt_of_le hplt b1.size)).trans c0w; have H3 := Lib.hid hm3; have T3 := Lib.hid ht3; clear hm3 ht3; have R1 := Lib.hid r1; have F1 := Lib.hid fr1; have B1 := Lib.hid (show Below w.heap.size w w1 from ⟨b1.os, b1.tape, b1.output, b1.size, b1.block⟩); clear r1 fr1 b1)))
    (rename_i hK _; refine hK _ _ ?_)
    go_wp2
    go_ret
    exact AddW.yes h'.out hv'.out B1.out R1.out (by have := len_nout l; have := R1.out.len; have := hx'.out.len; omega) F1.out rfl hF'.out H3.out T3.out
end Go.Proofs.Ytdmnpjlgldlodaa
