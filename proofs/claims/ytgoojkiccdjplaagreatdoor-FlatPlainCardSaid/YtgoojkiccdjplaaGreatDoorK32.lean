/-
  Parts of this claim's texts, one behind the other: CR CS CT UD UE. No condition.
-/
import Derived.Test.YtgoojkiccdjplaaGreatDoorK17
import Derived.Test.YtgoojkiccdjplaaGreatDoorK30
import Derived.Test.YtgoojkiccdjplaaGreatDoorK23
import Derived.Test.YtgoojkiccdjplaaGreatDoorK29
set_option linter.unusedVariables false
set_option linter.unusedSimpArgs false
set_option maxRecDepth 100000
set_option maxHeartbeats 16000000
namespace Go.Proofs.YtgoojkiccdjplaaGreatDoor
open Go.RowKit Go.Sort Go.Lib
inductive Reach (T : TermD) : Int → Int → Prop
  | refl (i : Int) : Reach T i i
  | arg {i a x : Int} : a ∈ (nodeAt T i).args → Reach T a x → Reach T i x
theorem Reach.step {T : TermD} {i x a : Int} (h : Reach T i x) (ha : a ∈ (nodeAt T x).args) : Reach T i a := by
  induction h with
  | refl i => exact .arg ha (.refl a)
  | arg h1 _ ih => exact .arg h1 (ih ha)
theorem ord_at {T : TermD} (ho : OrdT T) {i a : Int} (h : a ∈ (nodeAt T i).args) : 0 ≤ a ∧ (0 ≤ i → a < i) := by
  unfold nodeAt at h
  rw [List.getD_eq_getElem?_getD] at h
  cases hh : T.nodes[i.toNat]? with
  | none => rw [hh] at h; exact absurd h (by simp [noNode])
  | some x =>
    rw [hh] at h
    have := ho _ x hh a h
    exact ⟨this.1, fun h0 => by omega⟩
def PostO (T : TermD) (L : List Int) : Prop := ∀ l1 x l2, L = l1 ++ x :: l2 → ∀ a ∈ (nodeAt T x).args, a ∈ l1
theorem PostO.snoc {T : TermD} {L : List Int} {k : Int} (h : PostO T L) (hk : ∀ a ∈ (nodeAt T k).args, a ∈ L) : PostO T (L ++ [k]) := by
  intro l1 x l2 e
  rcases List.eq_nil_or_concat l2 with h2 | ⟨m, y, h2⟩
  · subst h2
    have := List.append_inj' e rfl
    obtain ⟨e1, e2⟩ := this
    obtain rfl : k = x := by simpa using e2
    subst e1
    exact hk
  · rw [h2, List.concat_eq_append, ← List.cons_append, ← List.append_assoc] at e
    have := List.append_inj' e rfl
    exact h l1 x m this.1
structure WkR (T : TermD) (i0 : Int → Prop) (Pd : List Int) (st : List Int × List Int) : Prop where
  met : ∀ x ∈ st.2, x ∈ st.1
  args : ∀ x ∈ st.2, ∀ a ∈ (nodeAt T x).args, a ∈ st.2
  pend : ∀ x ∈ st.1, x ∈ st.2 ∨ x ∈ Pd
  from_ : ∀ x ∈ st.2, ∃ i, i0 i ∧ Reach T i x
  po : PostO T st.2
  nd : st.2.Nodup
theorem walkN_reach {T : TermD} (ho : OrdT T) (i0 : Int → Prop) : ∀ (f : Nat) (k : Int) (Pd : List Int) (st : List Int × List Int), 0 ≤ k → k < (f : Int) → (∀ y ∈ Pd, k < y) → (∃ i, i0 i ∧ Reach T i k) → WkR T i0 Pd st →
    WkR T i0 Pd (walkN T f st k) ∧ k ∈ (walkN T f st k).2 ∧ (∀ x ∈ st.2, x ∈ (walkN T f st k).2) ∧ ∀ x ∈ (walkN T f st k).2, x ∈ st.2 ∨ x ≤ k
  | 0, k, _, _, h0, h1, _, _, _ => by omega
  | f + 1, k, Pd, st, h0, h1, hp, hr, hw => by
    unfold walkN
    by_cases hc : st.1.contains k = true
    · rw [if_pos hc]
      have hm : k ∈ st.1 := by simpa using hc
      refine ⟨hw, ?_, fun x hx => hx, fun x hx => .inl hx⟩
      rcases hw.pend k hm with h | h
      · exact h
      · have := hp k h; omega
    · rw [if_neg hc]
      have hfold : ∀ (l : List Int), (∀ a ∈ l, a ∈ (nodeAt T k).args) → ∀ st' : List Int × List Int, WkR T i0 (k :: Pd) st' →
          WkR T i0 (k :: Pd) (l.foldl (walkN T f) st') ∧ (∀ a ∈ l, a ∈ (l.foldl (walkN T f) st').2) ∧ (∀ x ∈ st'.2, x ∈ (l.foldl (walkN T f) st').2) ∧ ∀ x ∈ (l.foldl (walkN T f) st').2, x ∈ st'.2 ∨ x < k := by
        intro l
        induction l with
        | nil => exact fun _ st' h => ⟨h, fun a ha => by simp at ha, fun x hx => hx, fun x hx => .inl hx⟩
        | cons a l ih =>
          intro hl st' h
          have ha := hl a (by simp)
          obtain ⟨g0, g1⟩ := ord_at ho ha
          have g1 := g1 h0
          obtain ⟨i, hi, hik⟩ := hr
          obtain ⟨w1, w2, w3, w4⟩ := walkN_reach ho i0 f a (k :: Pd) st' g0 (by omega) (fun y hy => by
            rcases List.mem_cons.1 hy with rfl | hy
            · exact g1
            · have := hp y hy; omega) ⟨i, hi, hik.step ha⟩ h
          obtain ⟨v1, v2, v3, v4⟩ := ih (fun b hb => hl b (by simp [hb])) _ w1
          refine ⟨v1, fun b hb => ?_, fun x hx => v3 x (w3 x hx), fun x hx => by
            rcases v4 x hx with h5 | h5
            · rcases w4 x h5 with h6 | h6
              · exact .inl h6
              · exact .inr (by omega)
            · exact .inr h5⟩
          rcases List.mem_cons.1 hb with rfl | hb
          · exact v3 _ w2
          · exact v2 b hb
      obtain ⟨v1, v2, v3, v4⟩ := hfold _ (fun a ha => ha) (k :: st.1, st.2) ⟨fun x hx => List.mem_cons_of_mem _ (hw.met x hx), hw.args, fun x hx => by
        rcases List.mem_cons.1 hx with rfl | hx
        · exact .inr (by simp)
        · exact (hw.pend x hx).imp id fun h => List.mem_cons_of_mem _ h, hw.from_, hw.po, hw.nd⟩
      have hkm : k ∈ ((nodeAt T k).args.foldl (walkN T f) (k :: st.1, st.2)).1 ∨ True := .inr trivial
      refine ⟨⟨fun x hx => ?_, fun x hx a ha => ?_, fun x hx => ?_, fun x hx => ?_, v1.po.snoc v2, ?_⟩, by simp, fun x hx => List.mem_append_left _ (v3 x hx), fun x hx => ?_⟩
      · rcases List.mem_append.1 hx with hx | hx
        · exact v1.met x hx
        · obtain rfl := List.mem_singleton.1 hx
          have hmono : ∀ (l : List Int) (st' : List Int × List Int), x ∈ st'.1 → x ∈ (l.foldl (walkN T f) st').1 := by
            intro l
            induction l with
            | nil => exact fun _ h => h
            | cons a l ih => exact fun st' h => ih _ (walkN_met f a st' h)
          exact hmono _ _ (by simp)
      · rcases List.mem_append.1 hx with hx | hx
        · exact List.mem_append_left _ (v1.args x hx a ha)
        · obtain rfl := List.mem_singleton.1 hx
          exact List.mem_append_left _ (v2 a ha)
      · rcases v1.pend x hx with h | h
        · exact .inl (List.mem_append_left _ h)
        · rcases List.mem_cons.1 h with rfl | h
          · exact .inl (by simp)
          · exact .inr h
      · rcases List.mem_append.1 hx with hx | hx
        · exact v1.from_ x hx
        · obtain rfl := List.mem_singleton.1 hx; exact hr
      · rw [List.nodup_append]
        refine ⟨v1.nd, by simp, fun a ha b hb e => ?_⟩
        obtain rfl := List.mem_singleton.1 hb
        subst e
        rcases v4 _ ha with h | h
        · exact hc (by simpa using hw.met _ h)
        · omega
      · rcases List.mem_append.1 hx with hx | hx
        · exact (v4 x hx).imp id fun h => by omega
        · obtain rfl := List.mem_singleton.1 hx; exact .inr (Int.le_refl _)
where walkN_met {T : TermD} {x : Int} : ∀ (f : Nat) (k : Int) (st : List Int × List Int), x ∈ st.1 → x ∈ (walkN T f st k).1
  | 0, _, _, h => h
  | f + 1, k, st, h => by
    unfold walkN
    by_cases hc : st.1.contains k = true
    · rw [if_pos hc]; exact h
    · rw [if_neg hc]
      have hmono : ∀ (l : List Int) (st' : List Int × List Int), x ∈ st'.1 → x ∈ (l.foldl (walkN T f) st').1 := by
        intro l
        induction l with
        | nil => exact fun _ h => h
        | cons a l ih => exact fun st' h => ih _ (walkN_met f a st' h)
      exact hmono _ _ (List.mem_cons_of_mem _ h)
theorem walkT_wkr {T : TermD} (ho : OrdT T) (ids : List Int) : WkR T (fun i => i ∈ ids ∧ hasT T i = true) [] (walkT T ids) ∧ ∀ i ∈ ids, hasT T i = true → i ∈ (walkT T ids).2 := by
  have hmain : ∀ (l : List Int), (∀ i ∈ l, i ∈ ids) → ∀ st : List Int × List Int, WkR T (fun i => i ∈ ids ∧ hasT T i = true) [] st →
      WkR T (fun i => i ∈ ids ∧ hasT T i = true) [] (l.foldl (walkAt T) st) ∧ (∀ i ∈ l, hasT T i = true → i ∈ (l.foldl (walkAt T) st).2) ∧ ∀ x ∈ st.2, x ∈ (l.foldl (walkAt T) st).2 := by
    intro l
    induction l with
    | nil => exact fun _ st h => ⟨h, fun i hi => by simp at hi, fun x hx => hx⟩
    | cons i l ih =>
      intro hl st h
      have hi := hl i (by simp)
      have hstep : WkR T (fun i => i ∈ ids ∧ hasT T i = true) [] (walkAt T st i) ∧ (hasT T i = true → i ∈ (walkAt T st i).2) ∧ ∀ x ∈ st.2, x ∈ (walkAt T st i).2 := by
        unfold walkAt
        by_cases hh : hasT T i = true
        · rw [if_pos hh]
          have h2 := hh
          unfold hasT at h2
          simp only [Bool.and_eq_true, decide_eq_true_eq] at h2
          obtain ⟨w1, w2, w3, _⟩ := walkN_reach ho (fun i => i ∈ ids ∧ hasT T i = true) (T.nodes.length + 1) i [] st h2.1 (by omega) (by simp) ⟨i, ⟨hi, hh⟩, .refl i⟩ h
          exact ⟨w1, fun _ => w2, w3⟩
        · rw [if_neg hh]
          exact ⟨h, fun e => absurd e hh, fun x hx => hx⟩
      obtain ⟨s1, s2, s3⟩ := hstep
      obtain ⟨v1, v2, v3⟩ := ih (fun j hj => hl j (by simp [hj])) _ s1
      refine ⟨v1, fun j hj hh => ?_, fun x hx => v3 x (s3 x hx)⟩
      rcases List.mem_cons.1 hj with rfl | hj
      · exact v3 _ (s2 hh)
      · exact v2 j hj hh
  obtain ⟨w1, w2, _⟩ := hmain ids (fun i hi => hi) ([], []) ⟨fun x hx => by simp at hx, fun x hx => by simp at hx, fun x hx => by simp at hx, fun x hx => by simp at hx, fun l1 x l2 e => by simp at e, List.nodup_nil⟩
  exact ⟨w1, w2⟩
theorem walkT_reach {T : TermD} (ho : OrdT T) (ids : List Int) (x : Int) : x ∈ (walkT T ids).2 ↔ ∃ i ∈ ids, hasT T i = true ∧ Reach T i x := by
  obtain ⟨w1, w2⟩ := walkT_wkr ho ids
  constructor
  · intro hx
    obtain ⟨i, ⟨h1, h2⟩, h3⟩ := w1.from_ x hx
    exact ⟨i, h1, h2, h3⟩
  · rintro ⟨i, h1, h2, h3⟩
    have h4 := w2 i h1 h2
    change i ∈ (walkT T ids).2 at h4
    have hcl : ∀ x ∈ (walkT T ids).2, ∀ a ∈ (nodeAt T x).args, a ∈ (walkT T ids).2 := w1.args
    generalize (walkT T ids).2 = L at *
    clear w1 w2 h1 h2
    induction h3 with
    | refl i => exact h4
    | arg ha _ ih => exact ih (hcl _ h4 _ ha)
theorem reach_closed {T : TermD} {L : List Int} (hcl : ∀ x ∈ L, ∀ a ∈ (nodeAt T x).args, a ∈ L) {i x : Int} (hi : i ∈ L) (h : Reach T i x) : x ∈ L := by
  induction h with
  | refl i => exact hi
  | arg ha _ ih => exact ih (hcl _ hi _ ha)
structure WiI (T : TermD) (ids out todo : List Int) : Prop where
  nd : out.Nodup
  rg : ∀ x ∈ out, hasT T x = true
  cl : ∀ x ∈ out, ∀ a ∈ (nodeAt T x).args, a ∈ out ∨ a ∈ todo
  ii : ∀ i ∈ ids, hasT T i = true → i ∈ out ∨ i ∈ todo
  ok : ∀ x ∈ todo, okI x
  fr : ∀ x ∈ todo, hasT T x = true → ∃ i ∈ ids, hasT T i = true ∧ Reach T i x
  fo : ∀ x ∈ out, ∃ i ∈ ids, hasT T i = true ∧ Reach T i x
  ln : todo.length ≤ ids.length + 64 * out.length
theorem WiI.start {T : TermD} {ids : List Int} (h : ∀ x ∈ ids, okI x) : WiI T ids [] ids :=
  ⟨List.nodup_nil, fun x hx => by simp at hx, fun x hx => by simp at hx, fun i hi _ => .inr hi, h, fun x hx hh => ⟨x, hx, hh, .refl x⟩, fun x hx => by simp at hx, by simp⟩
theorem WiI.skip {T : TermD} {ids out td : List Int} {x : Int} (h : WiI T ids out (td ++ [x])) (hx : hasT T x = false ∨ x ∈ out) (ho : OrdT T) : WiI T ids out td := by
  have hm : ∀ y, hasT T y = true → y ∈ out ∨ y ∈ td ++ [x] → y ∈ out ∨ y ∈ td := fun y hy hh => by
    rcases hh with hh | hh
    · exact .inl hh
    · rcases List.mem_append.1 hh with hh | hh
      · exact .inr hh
      · obtain rfl := List.mem_singleton.1 hh
        rcases hx with hx | hx
        · rw [hx] at hy; cases hy
        · exact .inl hx
  refine ⟨h.nd, h.rg, fun y hy a ha => hm a ?_ (h.cl y hy a ha), fun i hi hh => hm i hh (h.ii i hi hh), fun y hy => h.ok y (List.mem_append_left _ hy), fun y hy => h.fr y (List.mem_append_left _ hy), h.fo, ?_⟩
  · have h0 := hasT_iff.1 (h.rg y hy)
    have := ord_at ho ha
    exact hasT_iff.2 ⟨this.1, by have := this.2 h0.1; omega⟩
  · have := h.ln; rw [List.length_append, List.length_singleton] at this; omega
theorem WiI.take {T : TermD} {ids out td : List Int} {x : Int} (h : WiI T ids out (td ++ [x])) (hx : hasT T x = true) (hn : x ∉ out) (hl : (nodeAt T x).args.length ≤ 64) (hok : ∀ a ∈ (nodeAt T x).args, okI a) : WiI T ids (out ++ [x]) (td ++ (nodeAt T x).args) := by
  have hfr := h.fr x (by simp) hx
  have hin : ∀ y, y ∈ out ∨ y ∈ td ++ [x] → y ∈ out ++ [x] ∨ y ∈ td ++ (nodeAt T x).args := fun y hy => by
    rcases hy with hy | hy
    · exact .inl (List.mem_append_left _ hy)
    · rcases List.mem_append.1 hy with hy | hy
      · exact .inr (List.mem_append_left _ hy)
      · exact .inl (List.mem_append_right _ hy)
  refine ⟨?_, fun y hy => ?_, fun y hy a ha => ?_, fun i hi hh => hin i (h.ii i hi hh), fun y hy => ?_, fun y hy hh => ?_, fun y hy => ?_, ?_⟩
  · rw [List.nodup_append]
    exact ⟨h.nd, by simp, fun a ha b hb e => by obtain rfl := List.mem_singleton.1 hb; subst e; exact hn ha⟩
  · rcases List.mem_append.1 hy with hy | hy
    · exact h.rg y hy
    · obtain rfl := List.mem_singleton.1 hy; exact hx
  · rcases List.mem_append.1 hy with hy | hy
    · exact hin a (h.cl y hy a ha)
    · obtain rfl := List.mem_singleton.1 hy; exact .inr (List.mem_append_right _ ha)
  · rcases List.mem_append.1 hy with hy | hy
    · exact h.ok y (List.mem_append_left _ hy)
    · exact hok y hy
  · rcases List.mem_append.1 hy with hy | hy
    · exact h.fr y (List.mem_append_left _ hy) hh
    · obtain ⟨i, h1, h2, h3⟩ := hfr
      exact ⟨i, h1, h2, h3.step hy⟩
  · rcases List.mem_append.1 hy with hy | hy
    · exact h.fo y hy
    · obtain rfl := List.mem_singleton.1 hy; exact hfr
  · have := h.ln
    rw [List.length_append, List.length_singleton] at this
    rw [List.length_append, List.length_append, List.length_singleton]; omega
structure WithinD (T : TermD) (ids L : List Int) : Prop where
  nd : L.Nodup
  rg : ∀ x ∈ L, hasT T x = true
  r : ∀ x, x ∈ L ↔ ∃ i ∈ ids, hasT T i = true ∧ Reach T i x
theorem WiI.done {T : TermD} {ids out : List Int} (h : WiI T ids out []) : WithinD T ids out := by
  refine ⟨h.nd, h.rg, fun x => ⟨h.fo x, fun ⟨i, h1, h2, h3⟩ => ?_⟩⟩
  have hi : i ∈ out := by
    rcases h.ii i h1 h2 with h4 | h4
    · exact h4
    · simp at h4
  exact reach_closed (fun x hx a ha => by
    rcases h.cl x hx a ha with h4 | h4
    · exact h4
    · simp at h4) hi h3
theorem WiI.few {T : TermD} {ids out todo : List Int} (h : WiI T ids out todo) : out.length ≤ T.nodes.length := pigeon _ _ h.nd fun x hx => hasT_iff.1 (h.rg x hx)
theorem RdI.src {w : World} {a : Option Addr} {n : Nat} {xs : List Int} (h : RdI w a n xs) : Src w 1 a n (xs.map (Value.int .i64)) := by
  refine ⟨by simp [h.len], fun hn => ?_⟩
  obtain ⟨b, o, rfl, _, hc⟩ := h.cells hn
  refine ⟨_, rfl, fun j u hu => ?_⟩
  have hj : j < n := by have := (List.getElem?_eq_some_iff.1 hu).1; rw [List.length_map, h.len] at this; exact this
  rw [Addr.add_lit, hc j hj]
  rw [List.getElem?_map, List.getElem?_eq_getElem (by rw [h.len]; exact hj)] at hu
  rw [nth_eq (by rw [h.len]; exact hj)]
  simpa using hu
def WithinP (T : TermD) (ids : List Int) (w : World) (e : Ending) (w' : World) : Prop :=
  ∃ (L : List Int) (a : Option Addr) (c : Nat), e = .returned (.slice a L.length c) ∧ OwnC w' w.heap.size 3 1 (.slice a L.length c) L.length (L.map (Value.int .i64)) ∧ Below w.heap.size w w' ∧ WithinD T ids L
theorem within17_any (B p : Nat) (T : TermD) (a : Option Addr) (n c : Nat) (ids : List Int) (w : World) (hT : TermX B p T w) (hG : TermG T) (hx : RdI w a n ids) (hn : n ≤ 1000000) :
    Calls Tryz.prog 26 #[.pointer (some ⟨p, 0, none⟩), .slice a n c] w fun e w' => WithinP T ids w e w' := by
  have hle := hG.ok.sm.le
  obtain ⟨w1, hmk, o1, b1⟩ := make_bools T.nodes.length w.heap.size w (by omega) (Nat.le_refl _)
  have hT' := hid hT
  have hG' := hid hG
  have hlx := hid hx.len
  have S1 := hid (hx.src.keep b1)
  have I1 := hid (WiI.start (T := T) hx.wf)
  have O1 := hid o1
  have B1 := hid b1
  have hln := hid (len_any B p T w hT)
  clear hT hG hx o1 b1
  go_enter Tryz.func26, Tryz.ntmps26
  go_wp2_with fail
  refine hln.out.mono ?_; rintro e w2 ⟨rfl, hww⟩
  subst hww
  clear hln
  obtain ⟨i0, hi0, hz0, hz1, hz2⟩ := info_parts info_int
  go_wp2_with (at_builtin; refine wpList_append_C rfl (.tmp 14) (.tmp 15) rfl Tryz.underlying23 hi0 hz0 hz1 hz2 rfl (by decide) rfl rfl (OwnC.lit0 (base := w1.heap.size) rfl (Nat.le_refl _)) (S1.out.keep ((Below.refl _ _).alloc (Nat.le_refl _) _)) ?c2 ?c3 ?c4 ?c5 ?_)
  case c2 => intro u hu; obtain ⟨x, _, rfl⟩ := List.mem_map.1 hu; rfl
  case c3 => unfold maxLen; omega
  case c4 => omega
  case c5 => first | omega | (simp; omega) | simp
  intro v' w3 ho3 hg3 hl3
  have B3 : Below w1.heap.size w1 w3 := ((Below.refl _ _).alloc (Nat.le_refl _) _).trans ((Below.refl _ _).grown hg3 (by simp) (fun k hk => by simp [Value.ownBlock] at hk; omega))
  have O3 := hid (O1.out.same (B3.block _ O1.out.lt))
  have P3 := hid (show OwnC w3 w.heap.size 3 1 v' ids.length (ids.map (Value.int .i64)) from by rw [hlx.out]; first | exact ho3.lower B1.out.size | (rw [Nat.zero_add, List.nil_append] at ho3; exact ho3.lower B1.out.size))
  have B3' := hid (B1.out.trans (B3.mono B1.out.size))
  obtain ⟨a7, c7, rfl, _, _⟩ := P3.out.slice
  clear ho3 hg3 hl3 B3 O1 B1 S1
  go_wp2
  go_loopw [6, 7, 8, 9, 10] (fun v6 v7 _ _ _ wr => ∃ (out td : List Int) (n7 : Nat) (a6 : Option Addr) (c6 : Nat) (a7 : Option Addr) (c7 : Nat), v6 = .slice a6 out.length c6 ∧ v7 = .slice a7 n7 c7 ∧ Hid (td.length = n7) ∧ Hid (OwnC wr w.heap.size 3 1 (.slice a6 out.length c6) out.length (out.map (Value.int .i64))) ∧ Hid (OwnC wr w.heap.size 3 1 (.slice a7 n7 c7) n7 (td.map (Value.int .i64))) ∧ Hid (∀ k, (Value.slice a6 out.length c6).ownBlock = some k → (Value.slice a7 n7 c7).ownBlock ≠ some k) ∧ Hid (OwnF wr w.heap.size w.heap.size T.nodes.length (fun j => out.contains (j : Int))) ∧ Hid (Below w.heap.size w wr) ∧ Hid (WiI T ids out td)) (fun v6 v7 _ _ _ _ => 65 * (T.nodes.length - lenV v6) + lenV v7)
  case atStart => exact ⟨[], ids, ids.length, none, 0, a7, c7, rfl, by rfl, rfl, OwnC.nil _ _ _ _, P3.out, fun k hk => by simp [Value.ownBlock] at hk, O3.out.congr fun j _ => by simp, B3'.out, I1.out⟩
  case round =>
    obtain ⟨out, td, n7, a6, c6, a7, c7, rfl, rfl, hl7, hO, hP, hA, hF, hB, hI⟩ := hrel
    clear P3 O3 B3' I1 hmk
    by_cases hz : 0 < n7
    case neg =>
      obtain rfl : n7 = 0 := by omega
      have := hl7.out
      obtain rfl : td = [] := List.eq_nil_of_length_eq_zero this
      clear this
      go_wp2
      go_ret
      exact ⟨out, _, _, rfl, hO.out, hB.out, hI.out.done⟩
    case pos =>
      obtain ⟨m, rfl⟩ : ∃ m, n7 = m + 1 := ⟨n7 - 1, by omega⟩
      obtain ⟨t2, x, rfl⟩ : ∃ t2 x, td = t2 ++ [x] := by
        rcases List.eq_nil_or_concat td with h | ⟨t2, x, h⟩
        · have := hl7.out; rw [h] at this; simp at this
        · exact ⟨t2, x, by rw [h]; simp⟩
      have hm := hid (show t2.length = m from by have := hl7.out; rw [List.length_append, List.length_singleton] at this; omega)
      obtain ⟨g7, c7', hv7, _, _⟩ := hP.out.form hz
      cases hv7
      have hcx := hP.out.cells (g := g7) rfl m (.int .i64 x) (by rw [List.getElem?_map, ← hm.out, List.getElem?_append_right (Nat.le_refl _), Nat.sub_self]; rfl)
      have hc7 : m + 1 ≤ c7 := hP.out.slice.elim fun a h => h.elim fun c h => by obtain ⟨h1, h2, _⟩ := h; cases h1; exact h2
      have hP2 := hid (show OwnC wr w.heap.size 3 1 (.slice (some ⟨g7, 0, none⟩) m c7) m (t2.map (Value.int .i64)) from by
        have := hP.out.cut (k := m) (c' := c7) (by omega) (by omega) (Nat.le_refl _)
        rw [Nat.mul_one, List.map_append, List.take_append_of_le_length (by rw [List.length_map, hm.out]; exact Nat.le_refl _), List.take_of_length_le (by rw [List.length_map, hm.out]; exact Nat.le_refl _)] at this
        exact this)
      have hA2 := hid (show ∀ k, (Value.slice a6 out.length c6).ownBlock = some k → k ≠ g7 from fun k hk e => hA.out k hk (by rw [e]; rfl))
      have hxo := hI.out.ok x (by simp)
      have hmb : m ≤ 3000000 := by
        have h1 := hI.out.ln
        have h2 := hI.out.few
        have h3 := hl7.out
        have h4 := hlx.out
        omega
      clear hl7 hP hA
      by_cases hx0 : x < 0
      case pos =>
        have hI2 := hid (hI.out.skip (.inl (by cases hh : hasT T x with | false => rfl | true => have := hasT_iff.1 hh; omega)) hG'.out.ok.ord)
        go_wp2
        go_roundw
        case rel => exact ⟨out, t2, m, a6, c6, _, c7, rfl, rfl, hm.out, hO.out, hP2.out, fun k hk e => hA2.out k hk (by injection e with e; exact e.symm), hF.out, hB.out, hI2.out⟩
        case measure => simp only [lenV]; omega
      case neg =>
      obtain ⟨j, rfl⟩ := Int.eq_ofNat_of_zero_le (show 0 ≤ x by omega)
      by_cases hjN : j < T.nodes.length
      case neg =>
        have hI2 := hid (hI.out.skip (.inl (by cases hh : hasT T (j : Int) with | false => rfl | true => have := hasT_iff.1 hh; omega)) hG'.out.ok.ord)
        have hjNi : (T.nodes.length : Int) ≤ j := by omega
        go_wp2
        go_roundw
        case rel => exact ⟨out, t2, m, a6, c6, _, c7, rfl, rfl, hm.out, hO.out, hP2.out, fun k hk e => hA2.out k hk (by injection e with e; exact e.symm), hF.out, hB.out, hI2.out⟩
        case measure => simp only [lenV]; omega
      case pos =>
        have hjNi : ¬ (T.nodes.length : Int) ≤ j := by omega
        have hjNj : (j : Int) < T.nodes.length := by omega
        have hjNd : decide ((T.nodes.length : Int) ≤ j) = false := decide_eq_false hjNi
        have hFj := hF.out.cell hjN
        have hFz := hF.out.frz j
        cases hcon : out.contains (j : Int)
        case true =>
          have hI2 := hid (hI.out.skip (.inr (by simpa using hcon)) hG'.out.ok.ord)
          rw [hcon] at hFj
          clear hcon
          go_wp2
          go_roundw
          case rel => exact ⟨out, t2, m, a6, c6, _, c7, rfl, rfl, hm.out, hO.out, hP2.out, fun k hk e => hA2.out k hk (by injection e with e; exact e.symm), hF.out, hB.out, hI2.out⟩
          case measure => simp only [lenV]; omega
        case false =>
          have hhas : hasT T (j : Int) = true := hasT_iff.2 ⟨by omega, by omega⟩
          have hng := hG'.out.at hjN
          have hnj := nodeAt_nat hjN
          have hI2 := hid (hI.out.take hhas (by simpa using hcon) hng.args (fun a ha => by
            have h1 := ord_at hG'.out.ok.ord ha
            have h2 := h1.2 (by omega)
            unfold okI; omega))
          have hal := hid hng.args
          rw [hcon] at hFj
          have hne6 := hid (show ∀ k, (Value.slice a6 out.length c6).ownBlock = some k → k ≠ w.heap.size from fun k hk e => by
            obtain ⟨cs, f, hc⟩ := hO.out.ty k hk
            obtain ⟨_, cur, hc2, _⟩ := hF.out
            subst e
            rw [hc] at hc2
            injection hc2 with hc2; injection hc2 with _ hc2; exact absurd hc2 (by decide))
          have hne7 := hid (show g7 ≠ w.heap.size from fun e => by
            obtain ⟨cs, f, hc⟩ := hP2.out.ty g7 rfl
            obtain ⟨_, cur, hc2, _⟩ := hF.out
            subst e
            rw [hc] at hc2
            injection hc2 with hc2; injection hc2 with _ hc2; exact absurd hc2 (by decide))
          have FS := hid ((hF.out.set (j := j) true).congr (f' := fun i => (out ++ [(j : Int)]).contains (i : Int)) fun i _ => by
            by_cases e : i = j
            · subst e; simp
            · have : ¬ (i : Int) = j := by omega
              simp [e, this])
          have BS := hid (hB.out.setCell (p := ⟨w.heap.size, j, none⟩) (Nat.le_refl _) (.bool true))
          have OS := hid (hO.out.same (w' := wr.setCell ⟨w.heap.size, j, none⟩ (.bool true)) fun k hk => Below.heap_setCell _ _ _ _ (fun e => hne6.out k hk e))
          have PS := hid (hP2.out.same (w' := wr.setCell ⟨w.heap.size, j, none⟩ (.bool true)) fun k hk => Below.heap_setCell _ _ _ _ (fun e => by injection hk with hk; exact hne7.out (hk.trans e)))
          have hfew := hI.out.few
          clear hcon hng hnj hF hB hO hP2 hI
          go_upto_region 9 with fail
          generalize wr.setCell ⟨w.heap.size, j, none⟩ (.bool true) = ws at *
          go_wp2_with (at_builtin; refine wpList_append_C rfl (.tmp 48) (.tmp 50) rfl Tryz.underlying23 hi0 hz0 hz1 hz2 rfl (by decide) rfl rfl (OS.out.alloc _) (Src.one (b := ws.heap.size) (news := [.int .i64 j]) rfl ?d1) ?d2 ?d3 ?d4 ?d5 ?_)
          (try case d1 => intro j u hu; rw [World.cell?_alloc_new]; simpa using hu)
          (try case d2 => first | rfl | (intro u hu; simp at hu; subst hu; rfl))
          (try case d3 => unfold maxLen; omega)
          (try case d4 => omega)
          (try case d5 => have := BS.out.size; first | omega | (simp; omega))
          intro v6 w6 ho6 hg6 hl6
          have hzS := BS.out.size
          have hA5 : Below ws.heap.size ws (ws.alloc (.cells #[.int .i64 j] 3)) := (Below.refl _ _).alloc (Nat.le_refl _) _
          have g7l := (PS.out.lt g7 rfl).2
          have b6 : Below w.heap.size ws w6 := (hA5.mono hzS).trans ((Below.refl _ _).grown hg6 (by simp; omega) (fun k hk => (OS.out.lt k hk).1))
          have O6 : OwnC w6 w.heap.size 3 1 v6 (out ++ [(j : Int)]).length ((out ++ [(j : Int)]).map (Value.int .i64)) := by rw [List.length_append, List.length_singleton, List.map_append]; exact ho6
          obtain ⟨a6', c6', rfl, _, _⟩ := O6.slice
          have P6 := PS.out.same (w' := w6) fun k hk => by
            injection hk with hk
            subst hk
            exact (hg6.block _ (by simp; omega) (fun e => hA2.out _ e.symm rfl)).trans (hA5.block _ g7l)
          have F6 := FS.out.same (w' := w6) ((hg6.block _ (by have := FS.out.lt; simp; omega) (fun e => hne6.out _ e.symm rfl)).trans (hA5.block _ FS.out.lt))
          have A6 : ∀ k, (Value.slice a6' (out ++ [(j : Int)]).length c6').ownBlock = some k → k ≠ g7 := fun k hk => by
            rcases hl6 with h | h
            · exact hA2.out k (h ▸ hk)
            · have := h k hk; (try rw [World.size_alloc] at this); omega
          have B6 := BS.out.trans b6
          have hnd := hid (node_any B p T j w6 (hT'.out.all B6) hjN hG'.out.ok.sn)
          have O6' := hid O6
          have P6' := hid P6
          have F6' := hid F6
          have A6' := hid A6
          have B6' := hid B6
          have g76 := hid (P6.lt g7 rfl).2
          clear ho6 hg6 hl6 hzS hA5 g7l b6 O6 P6 F6 A6 B6 OS PS FS BS hA2 hne6 hne7
          generalize nodeAt T (j : Int) = x at *
          obtain ⟨op, nm, ⟨ng, nu, de⟩, args, so⟩ := x
          dsimp only at hI2 hal
          go_wp2_with fail
          refine hnd.out.mono ?_; rintro e w7 ⟨a9, c9, b9, d9, g9, e9, rfl, n9, hb9⟩
          have hbA : Below w7.heap.size w7 (w7.alloc (.cells #[.int .i64 op, .string nm, .bool ng, .slice a9 nu.length c9, .slice b9 de.length d9, .slice g9 args.length e9, .int .i64 so] 38)) := (Below.refl _ _).alloc (Nat.le_refl _) _
          have S9 := hid (n9.args.toI.src.keep hbA)
          have XA := hid (heap_alloc_new w7 (.cells #[.int .i64 op, .string nm, .bool ng, .slice a9 nu.length c9, .slice b9 de.length d9, .slice g9 args.length e9, .int .i64 so] 38))
          have b7 : Below w6.heap.size w6 (w7.alloc (.cells #[.int .i64 op, .string nm, .bool ng, .slice a9 nu.length c9, .slice b9 de.length d9, .slice g9 args.length e9, .int .i64 so] 38)) := hb9.trans (hbA.mono hb9.size)
          have O7 := hid (O6'.out.same fun k hk => b7.block k (O6'.out.lt k hk).2)
          have P7 := hid (P6'.out.same fun k hk => b7.block k (P6'.out.lt k hk).2)
          have F7 := hid (F6'.out.same (b7.block _ F6'.out.lt))
          have B7 := hid (B6'.out.trans (b7.mono B6'.out.size))
          clear n9 hb9 hbA b7 O6' P6' F6' B6' hnd
          go_upto_region 11 with fail
          generalize hw7 : (w7.alloc (.cells #[.int .i64 op, .string nm, .bool ng, .slice a9 nu.length c9, .slice b9 de.length d9, .slice g9 args.length e9, .int .i64 so] 38)) = wA at *
          have y5 : wA.cell? ⟨w7.heap.size, 5, none⟩ = some (.slice g9 args.length e9) := cell_p XA.out 5
          clear hw7 XA
          have hal' := hal.out
          go_wp2_with (at_builtin; refine wpList_append_C rfl (.tmp 58) (.tmp 60) rfl Tryz.underlying23 hi0 hz0 hz1 hz2 rfl (by decide) rfl rfl P7.out S9.out ?e2 ?e3 ?e4 ?e5 ?_)
          (try case e2 => intro u hu; obtain ⟨x, _, rfl⟩ := List.mem_map.1 hu; rfl)
          (try case e3 => unfold maxLen; omega)
          (try case e4 => omega)
          (try case e5 => exact B7.out.size)
          intro v7 w8 ho8 hg8 hl8
          obtain ⟨a7', c7', rfl, _, _⟩ := ho8.slice
          have b8 : Below w.heap.size wA w8 := (Below.refl _ _).grown hg8 B7.out.size (fun k hk => (P7.out.lt k hk).1)
          have O8 := hid (O7.out.same (w' := w8) fun k hk => hg8.block k (O7.out.lt k hk).2 (fun e => A6'.out k hk (Option.some.inj (show some k = some g7 from e))))
          have F8 := hid (F7.out.same (w' := w8) (hg8.block _ F7.out.lt (fun e => by
            obtain ⟨cs, f, hc⟩ := P7.out.ty g7 rfl
            obtain ⟨_, cur, hc2, _⟩ := F7.out
            have e : g7 = w.heap.size := (Option.some.inj (show some w.heap.size = some g7 from e)).symm
            rw [e] at hc
            rw [hc] at hc2
            injection hc2 with hc2; injection hc2 with _ hc2; exact absurd hc2 (by decide))))
          have B8 := hid (B7.out.trans b8)
          have P8 := hid (show OwnC w8 w.heap.size 3 1 (.slice a7' (m + args.length) c7') (m + args.length) ((t2 ++ args).map (Value.int .i64)) from by rw [List.map_append]; exact ho8)
          have A8 := hid (show ∀ k, (Value.slice a6' (out ++ [(j : Int)]).length c6').ownBlock = some k → (Value.slice a7' (m + args.length) c7').ownBlock ≠ some k from fun k hk e => by
            rcases hl8 with h | h
            · rw [h] at e; injection e with e; exact A6'.out k hk e.symm
            · have := h k e; have := (O7.out.lt k hk).2; omega)
          clear ho8 hg8 hl8 b8 O7 P7 F7 B7 S9
          go_wp2
          go_roundw
          case rel => exact ⟨out ++ [(j : Int)], t2 ++ args, m + args.length, a6', c6', a7', c7', by first | rfl | (congr 1; simp), rfl, (by rw [List.length_append, hm.out]; exact hid rfl), O8.out, P8.out, A8.out, F8.out, B8.out, hI2.out⟩
          case measure => have hf2 := hI2.out.few; rw [List.length_append, List.length_singleton] at hf2; simp only [lenV, List.length_append, List.length_singleton] at *; omega
theorem idxG_any (P : Int → Bool) (fv : Nat) (caps : List Value) (a : Option Addr) (n c : Nat) (xs : List Int) (w : World) (h : RdI w a n xs) (hn : n < 1099511627776)
    (hen : ∀ args w, (callFunc fv args).run Tryz.prog w = .ok (.enter fv args) w)
    (hc : ∀ w1, Below w.heap.size w w1 → ∀ x ∈ xs, Calls Tryz.prog fv (Value.int .i64 x :: caps).toArray w1 fun e w' => e = .returned (.bool (P x)) ∧ Below w1.heap.size w1 w') :
    Calls Tryz.prog 124 #[.slice a n c, .func (.func fv) #[] caps.toArray] w fun e w' => e = .returned (.int .i64 (idxP P xs 0)) ∧ Below w.heap.size w w' := by
  have h' := hid h
  have lx := hid h.len
  have hc' := hid hc
  clear h hc
  go_enter Tryz.func124, Tryz.ntmps124
  go_wp2
  go_loopw [4, 5, 8] (fun _ _ i wr => ∃ k : Nat, k ≤ n ∧ i = .int .i64 k ∧ Hid (∀ j x, j < k → xs[j]? = some x → P x = false) ∧ Hid (Below w.heap.size w wr)) (fun _ _ i _ => n - (intOf i).toNat)
  case atStart => exact ⟨0, Nat.zero_le _, rfl, fun j f hj => absurd hj (Nat.not_lt_zero _), Below.refl _ _⟩
  case round =>
    obtain ⟨k, hk, rfl, hne, hB⟩ := hrel
    by_cases hlt2 : k < n
    · have hkx : k < xs.length := by rw [lx.out]; exact hlt2
      have hf := List.getElem?_eq_getElem hkx
      obtain ⟨b, o, rfl, k0⟩ := (h'.out.below hB.out (Nat.le_refl _)).at k hlt2
      have hcl := hid (hc'.out wr hB.out xs[k] (List.getElem_mem hkx))
      rw [nth_eq hkx] at k0
      have hf' := hid hf
      clear hf
      cases he : P xs[k]
      case true =>
        have hv := hid (idxP_hit (p := P) (fun j f hj hf => hne.out j f hj hf) hf'.out he)
        rw [he] at hcl
        generalize xs[k] = f at *
        clear he
        go_wp2_with fail
        refine hcl.out.mono ?_; rintro e w1 ⟨rfl, hb⟩
        have hb' := hid (hB.out.trans (hb.mono hB.out.size))
        clear hb
        go_wp2
        go_ret
        exact ⟨ret_int hv.out.symm, hb'.out⟩
      case false =>
        have hs := @hid (∀ j f, j < k + 1 → xs[j]? = some f → P f = false) (fun j f hj hf => by
          by_cases hjk : j < k
          · exact hne.out j f hjk hf
          · obtain rfl : j = k := by omega
            rw [hf'.out] at hf
            cases hf
            exact he)
        rw [he] at hcl
        generalize xs[k] = f at *
        clear he
        go_wp2_with fail
        refine hcl.out.mono ?_; rintro e w1 ⟨rfl, hb⟩
        have hb' := hid (hB.out.trans (hb.mono hB.out.size))
        clear hb
        go_wp2
        go_roundw
        case rel => exact ⟨k + 1, by omega, by go_num, hs.out, hb'.out⟩
        case measure => simp [intOf]; omega
    · have hv := hid (idxP_miss (p := P) (xs := xs) (fun j f hj hf => hne.out j f (by have := lx.out; omega) hf))
      go_wp2
      go_ret
      exact ⟨ret_int hv.out.symm, hB.out⟩
theorem hasG_any (P : Int → Bool) (fv : Nat) (caps : List Value) (a : Option Addr) (n c : Nat) (xs : List Int) (w : World) (h : RdI w a n xs) (hn : n < 1099511627776)
    (hen : ∀ args w, (callFunc fv args).run Tryz.prog w = .ok (.enter fv args) w)
    (hc : ∀ w1, Below w.heap.size w w1 → ∀ x ∈ xs, Calls Tryz.prog fv (Value.int .i64 x :: caps).toArray w1 fun e w' => e = .returned (.bool (P x)) ∧ Below w1.heap.size w1 w') :
    Calls Tryz.prog 80 #[.slice a n c, .func (.func fv) #[] caps.toArray] w fun e w' => e = .returned (.bool (xs.any P)) ∧ Below w.heap.size w w' := by
  have hi := hid (idxG_any P fv caps a n c xs w h hn hen hc)
  clear h hc
  have hidx := idxP_find (p := P) xs 0
  cases hf : xs.find? P with
  | none =>
    rw [hf] at hidx
    dsimp only at hidx
    have hv := @hid (xs.any P = false) (by rw [List.any_eq_false]; rw [List.find?_eq_none] at hf; exact hf)
    rw [hidx] at hi
    clear hidx hf
    go_enter Tryz.func80, Tryz.ntmps80
    go_wp2_with fail
    refine hi.out.mono ?_; rintro e w1 ⟨rfl, hb⟩
    have hb' := hid hb
    clear hb
    go_wp2
    go_ret
    exact ⟨ret_bool hv.out.symm, hb'.out⟩
  | some f =>
    rw [hf] at hidx
    dsimp only at hidx
    obtain ⟨k, hk1, hk2⟩ := hidx
    have hv := @hid (xs.any P = true) (by rw [List.any_eq_true]; exact ⟨f, List.mem_of_find?_eq_some hf, by have := List.find?_some hf; exact this⟩)
    rw [hk1] at hi
    clear hk1 hf
    go_enter Tryz.func80, Tryz.ntmps80
    go_wp2_with fail
    refine hi.out.mono ?_; rintro e w1 ⟨rfl, hb⟩
    have hb' := hid hb
    clear hb
    go_wp2
    go_ret
    exact ⟨ret_bool hv.out.symm, hb'.out⟩
def boolT (T : TermD) (i : Int) : Bool := (sortOf T i).2 && decide ((sortOf T i).1 = 0)
def boolsT (T : TermD) (ids : List Int) : Bool := !ids.any fun i => !boolT T i
theorem bools1_any (B p : Nat) (T : TermD) (i : Int) (x : Nat) (w : World) (h : TermX B p T w) (hx : w.cell? ⟨x, 0, none⟩ = some (.pointer (some ⟨p, 0, none⟩))) :
    Calls Tryz.prog 121 #[.int .i64 i, .pointer (some ⟨x, 0, none⟩)] w fun e w' => e = .returned (.bool (!boolT T i)) ∧ Below w.heap.size w w' := by
  have hs := hid (tsort_any B p T i w h)
  have hd := @hid (boolT T i = ((sortOf T i).2 && decide ((sortOf T i).1 = 0))) rfl
  generalize sortOf T i = r at *
  obtain ⟨s, ok⟩ := r
  dsimp only at *
  clear h
  cases ok
  case false =>
    have hv := @hid (true = !boolT T i) (by rw [hd.out]; rfl)
    clear hd
    go_enter Tryz.func121, Tryz.ntmps121
    go_wp2_with fail
    refine hs.out.mono ?_; rintro e w' ⟨rfl, rfl⟩
    go_wp2
    go_ret
    exact ⟨ret_bool hv.out, Below.refl _ _⟩
  case true =>
    have hv := @hid ((!decide (s = 0)) = !boolT T i) (by rw [hd.out]; rfl)
    clear hd
    go_enter Tryz.func121, Tryz.ntmps121
    go_wp2_with fail
    refine hs.out.mono ?_; rintro e w' ⟨rfl, rfl⟩
    go_wp2
    go_ret
    exact ⟨ret_bool hv.out, Below.refl _ _⟩
theorem bools_any (B p : Nat) (T : TermD) (a : Option Addr) (n c : Nat) (ids : List Int) (w : World) (h : TermX B p T w) (hx : RdI w a n ids) (hn : n < 1099511627776) :
    Calls Tryz.prog 71 #[.pointer (some ⟨p, 0, none⟩), .slice a n c] w fun e w' => e = .returned (.bool (boolsT T ids)) ∧ Below w.heap.size w w' := by
  have hB : Below w.heap.size w (w.alloc (.cells #[.pointer (some ⟨p, 0, none⟩)] 26)) := (Below.refl _ _).alloc (Nat.le_refl _) _
  have hhas := hid (hasG_any (fun i => !boolT T i) 121 [.pointer (some ⟨w.heap.size, 0, none⟩)] a n c ids _ (hx.below hB (Nat.le_refl _)) hn
    (enters_of Tryz.func121 (by kernel_rfl) rfl) (fun w1 hw x _ => bools1_any B p T x w.heap.size w1 ((h.all hB).all hw) (cell_p ((hw.block w.heap.size (by simp)).trans (heap_alloc_new w _)) 0)))
  have hv := @hid ((!ids.any fun i => !boolT T i) = boolsT T ids) rfl
  have hB' := hid hB
  clear h hx hB
  go_enter Tryz.func71, Tryz.ntmps71
  go_wp2_with fail
  refine hhas.out.mono ?_; rintro e w1 ⟨rfl, hb⟩
  have hb' := hid (hB'.out.trans (hb.mono hB'.out.size))
  clear hb
  go_wp2
  go_ret
  exact ⟨ret_bool hv.out, hb'.out⟩
def mk2 (T : TermD) (op a b : Int) : (Int × Int) × TermD := makeD T op ⟨#[]⟩ noRat [a, b]
section
variable {w0 w w' : World} {p : Nat} {T : TermD} {X : Nat → Prop} {v v' : Value}
theorem St.fewer {Y : Nat → Prop} (h : St w0 p { T with X := X } w) (hY : ∀ k, Y k → X k) : St w0 p { T with X := Y } w :=
  h.excl (X' := Y) (Below.refl _ _) (fun _ _ _ => rfl) fun k hk => by
    obtain ⟨q, v1, v2, m, ha⟩ := h.t
    exact ⟨.inl (hY k hk), (ha.xlt k (hY k hk)).1⟩
theorem St.more {Y : Nat → Prop} (h : St w0 p { T with X := X } w) (hb : Below w.heap.size w w') (hY : ∀ k, Y k → X k ∨ (w.heap.size ≤ k ∧ k < w'.heap.size)) : St w0 p { T with X := Y } w' :=
  h.excl (X' := Y) (hb.mono h.b.size) (fun k hk _ => hb.block k hk) fun k hk => by
    obtain ⟨q, v1, v2, m, ha⟩ := h.t
    rcases hY k hk with e | e
    · exact ⟨.inl e, Nat.lt_of_lt_of_le (ha.xlt k e).1 hb.size⟩
    · exact ⟨.inr e.1, e.2⟩
end
theorem mk2_grow {T : TermD} (h : TermG T) (op a b : Int) : TermG (mk2 T op a b).2 := (h.make op (nm := ⟨#[]⟩) (val := noRat) [a, b] (by decide) (by decide) (by decide)).g
theorem mk2_bd {T : TermD} (h : TermG T) (op a b : Int) : okI (mk2 T op a b).1.1 := by have := make_bdU h.ok.sm op ⟨#[]⟩ noRat [a, b]; unfold okI; unfold mk2; omega
theorem mk2_call {w0 w : World} {p : Nat} {T : TermD} {X : Nat → Prop} (hE : EnvT w0) (h : St w0 p { T with X := X } w) (hG : TermG T) (op a b : Int) (ho : okI op) (h11 : op ≠ 11) (ha : okI a) (hb : okI b) :
    Calls Tryz.prog 33 #[.pointer (some ⟨p, 0, none⟩), .int .i64 op, .string ⟨#[]⟩, .agg #[.bool false, .slice none 0 0, .slice none 0 0], .slice (some ⟨w.heap.size, 0, none⟩) 2 2] (w.alloc (.cells #[.int .i64 a, .int .i64 b] 3)) fun e w' =>
      e = .returned (.tuple #[.int .i64 (mk2 T op a b).1.1, .int .i64 (mk2 T op a b).1.2]) ∧ St w0 p { (mk2 T op a b).2 with X := X } w' ∧ TStep p w w' := by
  have hl := h.lit (.cells #[.int .i64 a, .int .i64 b] 3)
  have hm := make_any w0.heap.size p { T with X := X } op ⟨#[]⟩ noRat [a, b] none none (some ⟨w.heap.size, 0, none⟩) 0 0 2 _ hl.t (hG.ok.sm.X X) (hl.env hE) (lit_args w op [a, b] ho (by intro x hx; simp at hx; rcases hx with rfl | rfl <;> assumption) (by show 2 ≤ maxLen; decide) h11)
  unfold MakePost at hm
  rw [makeD_X] at hm
  refine hm.mono ?_
  rintro e w' ⟨rfl, t, s⟩
  exact ⟨rfl, hl.step t s, (TStep.of_below h.t.plt ((Below.refl _ _).alloc (Nat.le_refl _) _)).trans s⟩
end Go.Proofs.YtgoojkiccdjplaaGreatDoor
