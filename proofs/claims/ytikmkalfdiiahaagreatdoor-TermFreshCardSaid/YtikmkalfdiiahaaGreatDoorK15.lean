/-
  Parts of this claim's texts, one behind the other: ZM ZP ZN. No condition.
-/
import Derived.Test.YtikmkalfdiiahaaGreatDoorK12
set_option linter.unusedVariables false
set_option linter.unusedSimpArgs false
/-
  theodolitelaw7.TermFresh: the law, without the program: a table of new constants; their names are apart. No condition.
-/
namespace Go.Proofs.YtikmkalfdiiahaaGreatDoor
open Go.RowKit Go.Sort Go.Lib

def frNode (j : Nat) (s : Int) : NodeD := ⟨12, freshName j, noRat, [], s⟩
def readN (l : List UInt8) : Nat := l.foldl (fun a b => if 48 ≤ b ∧ b ≤ 57 then 10 * a + (b.toNat - 48) else a) 0
theorem read_fr : ∀ j : Fin 30, readN (quoteL (freshName (j.val : Int))) = j.val := by decide +kernel
theorem name_ok : ∀ j : Fin 30, 2 ≤ (freshName (j.val : Int)).size ∧ (freshName (j.val : Int)).data.toList.head? = some 124 := by decide +kernel
theorem name_ne {j k : Nat} (hj : j < 30) (hk : k < 30) (h : freshName (j : Int) = freshName (k : Int)) : j = k := by
  have h1 := read_fr ⟨j, hj⟩
  have h2 := read_fr ⟨k, hk⟩
  dsimp only at h1 h2
  rw [h] at h1
  omega
theorem key_fr (j : Nat) {s : Int} (hs : s = 0 ∨ s = 1 ∨ s = 2) : (keyB (frNode j s)).data.toList.drop 5 = quoteL (freshName j) := by
  have e : (keyB (frNode j s)).data.toList = [49, 50] ++ 32 :: (Lib.itoa s ++ 32 :: quoteL (freshName j)) := by
    show (keyL (frNode j s)).toArray.toList = _
    show headL (frNode j s) ++ ([] ++ []) = _
    rw [List.append_nil, List.append_nil]
    show Lib.itoa 12 ++ _ = _
    rw [show Lib.itoa 12 = [49, 50] from by decide +kernel]
    rfl
  rw [e]
  rcases hs with rfl | rfl | rfl
  · rw [show Lib.itoa 0 = [48] from by decide +kernel]; rfl
  · rw [show Lib.itoa 1 = [49] from by decide +kernel]; rfl
  · rw [show Lib.itoa 2 = [50] from by decide +kernel]; rfl
theorem key_ne {j k : Nat} {s t : Int} (hs : s = 0 ∨ s = 1 ∨ s = 2) (ht : t = 0 ∨ t = 1 ∨ t = 2) (hj : j < 30) (hk : k < 30) (h : keyB (frNode j s) = keyB (frNode k t)) : j = k := by
  have h1 := key_fr j hs
  rw [h, key_fr k ht] at h1
  have h2 := read_fr ⟨j, hj⟩
  have h3 := read_fr ⟨k, hk⟩
  dsimp only at h2 h3
  rw [← h1] at h2
  omega
/-- a table of new constants, of the sorts ss -/
structure FrT (ss : List Int) (T : TermD) : Prop where
  nodes : T.nodes.length = ss.length
  node : ∀ (j : Nat) (s : Int), ss[j]? = some s → T.nodes[j]? = some (frNode j s)
  srt : ∀ s ∈ ss, s = 0 ∨ s = 1 ∨ s = 2
  fresh : T.fresh = ss.length
  S : T.S = T7 10
  ids : ∀ k i, T.ids k = some i → ∃ (j : Nat) (s : Int), ss[j]? = some s ∧ k = keyB (frNode j s)
  ok : TermOk T
theorem FrT.nil : FrT [] A0 := ⟨rfl, fun j s h => by simp at h, fun s h => by simp at h, rfl, rfl, fun k i h => by simp [A0, emptyT] at h, TermOk.empty 10⟩
theorem FrT.step {ss : List Int} {T : TermD} (h : FrT ss T) {s : Int} (hs : s = 0 ∨ s = 1 ∨ s = 2) (hl : ss.length < 30) : (freshD T s).1 = ((ss.length : Int), 0) ∧ FrT (ss ++ [s]) (freshD T s).2 ∧ nodeAt (freshD T s).2 (ss.length : Int) = frNode ss.length s := by
  have hn : freshNode T s = frNode ss.length s := by unfold freshNode; rw [h.fresh]; rfl
  have hi : T.ids (keyB (frNode ss.length s)) = none := by
    cases hc : T.ids (keyB (frNode ss.length s)) with
    | none => rfl
    | some i =>
      obtain ⟨j, t, hj, hk⟩ := h.ids _ _ hc
      have hj2 := (List.getElem?_eq_some_iff.1 hj).1
      have ht : t = 0 ∨ t = 1 ∨ t = 2 := h.srt t (List.mem_of_getElem? hj)
      have := key_ne hs ht hl (by omega) hk
      omega
  have hb : isB T.S.sorts.length s = true := by rw [h.S]; rcases hs with rfl | rfl | rfl <;> decide
  have hp : putD T (freshNode T s) = ((((ss.length : Nat) : Int), 0), addN T (frNode ss.length s)) := by
    rw [hn, put_addN hi (by rw [h.nodes]; omega), h.nodes]
  have hf : freshD T s = (((ss.length : Int), 0), { addN T (frNode ss.length s) with fresh := T.fresh + 1 }) := by
    unfold freshD
    rw [hb, hp]
    rfl
  have hok := h.ok.fresh s (by rw [h.fresh]; omega)
  rw [hf] at hok ⊢
  refine ⟨rfl, ⟨?_, ?_, ?_, ?_, h.S, ?_, hok⟩, ?_⟩
  · show (T.nodes ++ [_]).length = _
    rw [List.length_append, List.length_append, h.nodes]; rfl
  · intro j t hj
    show (T.nodes ++ [_])[j]? = _
    by_cases hlt : j < ss.length
    · rw [List.getElem?_append_left hlt] at hj
      rw [List.getElem?_append_left (by rw [h.nodes]; exact hlt)]
      exact h.node j t hj
    · have hl2 := (List.getElem?_eq_some_iff.1 hj).1
      rw [List.length_append, List.length_singleton] at hl2
      obtain rfl : j = ss.length := by omega
      rw [List.getElem?_append_right (Nat.le_refl _), Nat.sub_self] at hj
      rw [List.getElem?_append_right (by rw [h.nodes]; exact Nat.le_refl _), h.nodes, Nat.sub_self]
      cases hj
      rfl
  · intro t ht
    rcases List.mem_append.1 ht with ht | ht
    · exact h.srt t ht
    · obtain rfl := List.mem_singleton.1 ht; exact hs
  · show T.fresh + 1 = _
    rw [h.fresh, List.length_append, List.length_singleton]; omega
  · intro k i hk
    change (if k = keyB (frNode ss.length s) then some (T.nodes.length : Int) else T.ids k) = some i at hk
    split at hk
    · rename_i e
      exact ⟨ss.length, s, by rw [List.getElem?_append_right (Nat.le_refl _), Nat.sub_self]; rfl, e⟩
    · obtain ⟨j, t, hj, e⟩ := h.ids k i hk
      exact ⟨j, t, by rw [List.getElem?_append_left (List.getElem?_eq_some_iff.1 hj).1]; exact hj, e⟩
  · show (T.nodes ++ [_]).getD _ _ = _
    rw [List.getD_eq_getElem?_getD, Int.toNat_natCast, List.getElem?_append_right (by rw [h.nodes]; exact Nat.le_refl _), h.nodes, Nat.sub_self]
    rfl
theorem fresh_3 (T : TermD) (h : T.S = T7 10) : freshD T 3 = ((0, 1), T) := by
  have h1 : isB T.S.sorts.length 3 = false := by rw [h]; decide
  unfold freshD
  rw [h1]
  rfl
theorem vars_const {T : TermD} {k : Nat} (hk : k < T.nodes.length) {j : Nat} {s : Int} (hn : nodeAt T k = frNode j s) : varsD T k = [(k : Int)] := by
  have h1 : hasT T k = true := by rw [hasT_iff]; omega
  have h2 : walkT T [(k : Int)] = ([(k : Int)], [(k : Int)]) := by
    show walkAt T ([], []) k = _
    unfold walkAt
    rw [h1]
    show walkN T (T.nodes.length + 1) ([], []) k = _
    unfold walkN
    rw [hn]
    rfl
  have h3 : isConst T k = true := by unfold isConst; rw [hn]; rfl
  unfold varsD
  rw [h1, h2]
  simp [h3, sortN]
end Go.Proofs.YtikmkalfdiiahaaGreatDoor

/-
  Rows of a law's own beside a table of terms: the blocks that are not the table's ('TermD.X'), changed between two steps of the table. No condition.
-/
namespace Go.Proofs.YtikmkalfdiiahaaGreatDoor
open Go.RowKit Go.Sort Go.Lib

section
variable (T : TermD) (X : Nat → Prop)
theorem sameSorts_X : ∀ (l m : List Int), sameSorts { T with X := X } l m = sameSorts T l m
  | [], _ => rfl
  | _ :: _, [] => rfl
  | a :: l, s :: m => by unfold sameSorts; rw [sameSorts_X l m]; rfl
theorem callD_X (nm : ByteArray) (args : List Int) : callD { T with X := X } nm args = callD T nm args := by unfold callD; rw [sameSorts_X]
theorem sortedD_X (op : Int) (nm : ByteArray) (args : List Int) : sortedD { T with X := X } op nm args = sortedD T op nm args := by unfold sortedD; rw [callD_X]; rfl
theorem putD_X (n : NodeD) : putD { T with X := X } n = ((putD T n).1, { (putD T n).2 with X := X }) := by
  unfold putD
  dsimp only
  cases T.ids (keyB n) with
  | some i => rfl
  | none =>
    dsimp only
    by_cases h : 16384 ≤ T.nodes.length
    · rw [if_pos h, if_pos h]
    · rw [if_neg h, if_neg h]; rfl
theorem makeD_X (op : Int) (nm : ByteArray) (val : RatD) (args : List Int) : makeD { T with X := X } op nm val args = ((makeD T op nm val args).1, { (makeD T op nm val args).2 with X := X }) := by
  unfold makeD
  rw [sortedD_X]
  have e : args.any (fun i => !hasT { T with X := X } i) = args.any (fun i => !hasT T i) := rfl
  rw [e]
  split
  · rfl
  · split
    · rfl
    · split
      · rfl
      · split
        · exact putD_X T X _
        · rfl
theorem freshD_X (s : Int) : freshD { T with X := X } s = ((freshD T s).1, { (freshD T s).2 with X := X }) := by
  unfold freshD
  have e : freshNode { T with X := X } s = freshNode T s := rfl
  rw [e, putD_X]
  dsimp only
  split
  · split
    · rfl
    · rfl
  · rfl
end
theorem SmT.X {T : TermD} (h : SmT T) (X : Nat → Prop) : SmT { T with X := X } := ⟨h.nn, h.cn, h.le, h.fr, h.s, h.ids⟩
theorem TermOk.X {T : TermD} (h : TermOk T) (X : Nat → Prop) : TermOk { T with X := X } := ⟨h.sm.X X, h.sn, h.ord⟩
section
variable {w0 w w' : World} {p n s : Nat} {t : TypeId} {T : TermD} {v v' : Value} {xs : List Value}
/-- a row of the law's own stands behind a step of the table -/
theorem OwnC.tstep (ho : OwnC w w0.heap.size t s v n xs) (h : St w0 p T w) (hX : ∀ k, v.ownBlock = some k → T.X k) (hs : TStep p w w') : OwnC w' w0.heap.size t s v n xs :=
  ho.same fun k hk => (hs.block k (ho.lt k hk).2 (by obtain ⟨q, v1, v2, m, ha⟩ := h.t; exact (ha.xlt k (hX k hk)).2.1)).1
/-- a block of the law's own stands behind a step of the table -/
theorem St.own (h : St w0 p T w) {k : Nat} (hX : T.X k) (hs : TStep p w w') : w'.heap[k]? = w.heap[k]? := by
  obtain ⟨q, v1, v2, m, ha⟩ := h.t
  exact (hs.block k (ha.xlt k hX).1 (ha.xlt k hX).2.1).1
/-- behind a write to blocks of the law's own, and new ones -/
theorem St.excl (h : St w0 p T w) {X' : Nat → Prop} (hb : Below w0.heap.size w w') (hk : ∀ k, k < w.heap.size → ¬ T.X k → w'.heap[k]? = w.heap[k]?) (hx : ∀ k, X' k → (T.X k ∨ w.heap.size ≤ k) ∧ k < w'.heap.size) : St w0 p { T with X := X' } w' :=
  ⟨h.t.excl hk hb.size hx, h.b.trans hb⟩
end
end Go.Proofs.YtikmkalfdiiahaaGreatDoor

/-
  theodolitelaw7.TermFresh: the walk: it returns true and writes nothing old. Condition: the library's tables as its text lays them.
-/
namespace Go.Proofs.YtikmkalfdiiahaaGreatDoor
open Go.RowKit Go.Sort Go.Lib

def rowB (v : Value) (k : Nat) : Prop := v.ownBlock = some k
def frNames (m : Nat) : List Value := (List.range m).map fun (j : Nat) => .string (freshName (j : Int))
theorem frNames_at {m j : Nat} (h : j < m) : (frNames m)[j]? = some (.string (freshName (j : Int))) := by
  unfold frNames
  rw [List.getElem?_map, List.getElem?_range h]; rfl
theorem frNames_succ (m : Nat) : frNames (m + 1) = frNames m ++ [.string (freshName (m : Int))] := by
  unfold frNames
  rw [List.range_succ, List.map_append]; rfl
theorem info_str2 : ∃ i : TypeInfo, Tryz.prog.info? 9 = some i ∧ i.zero = some (.string ByteArray.empty) ∧ i.size = 1 ∧ i.bytes = 16 := by
  have h := info_str
  cases h2 : Tryz.prog.info? 9 with
  | none => rw [h2] at h; cases h
  | some i =>
    rw [h2] at h
    simp only [Option.map_some, Option.some.injEq, Prod.mk.injEq] at h
    exact ⟨i, rfl, h.1, h.2.1, h.2.2⟩
theorem roundI4 (x : Int) : roundI x 4 = 3 ∨ roundI x 4 = 0 ∨ roundI x 4 = 1 ∨ roundI x 4 = 2 := by
  obtain ⟨h1, h2⟩ := roundI_bd x 4 (by decide)
  omega
theorem names_apart {j m : Nat} (hj : j < 30) (hm : m < 30) (h : j ≠ m) : ((freshName (j : Int)).toList == (freshName (m : Int)).toList) = false := by
  show eqS _ _ = false
  cases hc : eqS (freshName (j : Int)) (freshName (m : Int)) with
  | false => rfl
  | true =>
    rw [eqS_data] at hc
    have e := eq_of_beq hc
    refine absurd (name_ne hj hm ?_) h
    cases h1 : freshName (j : Int) with
    | mk d1 =>
      cases h2 : freshName (m : Int) with
      | mk d2 =>
        rw [h1, h2] at e
        dsimp only at e
        rw [Array.toList_inj.1 e]
theorem name_size {j : Nat} (hj : j < 30) : ¬ (((freshName (j : Int)).size : Int) < 2) := by have := (name_ok ⟨j, hj⟩).1; dsimp only at this; omega
set_option maxRecDepth 100000 in
set_option maxHeartbeats 16000000 in
theorem termFresh_walk (a : Option Addr) (n c : Nat) (xs : List Int) (w : World) (hE : EnvT w) (hx : RdI w a n xs) (_hn : n ≤ c ∧ c ≤ 9223372036854775807) :
    Calls Tryz.prog 5 #[.slice a n c] w fun e w' => e = .returned (.bool true) ∧ Below w.heap.size w w' := by
  have hE' := Lib.hid hE
  have haw := Lib.hid (awake7_any w hE)
  have hx' := Lib.hid hx
  have hxl := Lib.hid hx.len
  clear hE hx
  by_cases g2 : 30 < n
  · have g4 : (30 : Int) < n := by omega
    go_enter Tryz.func5, Tryz.ntmps5
    go_wp2_with fail
    refine haw.out.mono ?_; rintro e w' ⟨rfl, b⟩
    go_wp2
    go_ret
    exact ⟨rfl, b⟩
  have g4 : ¬ ((30 : Int) < n) := by omega
  clear haw
  have htb := Lib.hid (tables_any w hE'.out.env)
  go_enter Tryz.func5, Tryz.ntmps5
  go_wp2_with fail
  refine htb.out.mono ?_; rintro e w1 ⟨p, r, rfl, t1, b1⟩
  have I1 := Lib.hid (show St w p { A0 with X := rowB (.slice none 0 0) } w1 from (show St w p A0 w1 from ⟨t1, b1⟩).excl (Below.refl _ _) (fun _ _ _ => rfl) (fun k e => by cases e))
  have O1 := Lib.hid (OwnC.nil w1 w.heap.size 9 1)
  clear t1 b1 htb
  obtain ⟨i0, hi0, hz0, hz1, hz2⟩ := info_str2
  go_wp2
  go_loopw [2, 5, 6, 7, 8, 9, 10, 11, 12, 13] (fun _ v5 v6 _ _ _ _ _ _ _ wr => ∃ (k : Nat) (ss : List Int) (T : TermD), k ≤ n ∧ v6 = .int .i64 k ∧ ss.length ≤ k ∧ Hid (FrT ss T) ∧ Hid (St w p { T with X := rowB v5 } wr) ∧ Hid (OwnC wr w.heap.size 9 1 v5 ss.length (frNames ss.length))) (fun _ _ v6 _ _ _ _ _ _ _ _ => n - (intOf v6).toNat)
  case atStart => exact ⟨0, [], A0, Nat.zero_le _, rfl, Nat.le_refl _, FrT.nil, I1.out, O1.out⟩
  case round =>
    obtain ⟨k, ss, T, hk, rfl, hl, hF, hS, hO⟩ := hrel
    obtain ⟨a5, c5, rfl, hc1, hc2⟩ := hO.out.slice
    by_cases hlt : k < n
    · obtain ⟨b1, o1, rfl, k0⟩ := (hx'.out.below hS.out.b (Nat.le_refl _)).at k hlt
      have hrd := Lib.hid (round_any (nth xs k) 4 wr (by decide) (by decide))
      have h4 := roundI4 (nth xs k)
      generalize roundI (nth xs k) 4 = r at *
      generalize nth xs k = x at *
      have hln := len_any w.heap.size p _ wr hS.out.t
      rw [show ({ T with X := rowB (.slice a5 ss.length c5) } : TermD).nodes.length = ss.length from hF.out.nodes] at hln
      have hln' := Lib.hid hln
      clear hln
      have hfr := fresh_any w.heap.size p { T with X := rowB (.slice a5 ss.length c5) } r wr hS.out.t (hF.out.ok.sm.X _) (hS.out.env hE'.out) ⟨by omega, by omega⟩
      unfold FreshPost at hfr
      rw [freshD_X] at hfr
      dsimp only at hfr
      rcases h4 with h4 | h4
      · subst h4
        rw [fresh_3 T hF.out.S] at hfr
        have hfr' := Lib.hid hfr
        clear hfr
        go_wp2_with fail
        refine hrd.out.mono ?_; rintro e w' ⟨rfl, rfl⟩
        clear hrd
        go_wp2_with fail
        refine hln'.out.mono ?_; rintro e w' ⟨rfl, rfl⟩
        go_wp2_with fail
        refine hfr'.out.mono ?_; rintro e w3 ⟨rfl, t3, s3⟩
        have I3 := Lib.hid (hS.out.step t3 s3)
        have O3 := Lib.hid (hO.out.tstep hS.out (fun _ h => h) s3)
        have hl3 := len_any w.heap.size p _ w3 I3.out.t
        rw [show ({ T with X := rowB (.slice a5 ss.length c5) } : TermD).nodes.length = ss.length from hF.out.nodes] at hl3
        have hl3' := Lib.hid hl3
        clear hl3 t3 s3 hfr' hS hO
        go_wp2_with fail
        refine hl3'.out.mono ?_; rintro e w' ⟨rfl, rfl⟩
        go_wp2
        go_roundw
        case rel => exact ⟨k + 1, ss, T, by omega, by go_num, by omega, hF.out, I3.out, O3.out⟩
        case measure => simp [intOf]; omega
      · obtain ⟨q1, q2, q3⟩ := hF.out.step (s := r) h4 (by omega)
        rw [q1] at hfr
        dsimp only at hfr
        have hfr' := Lib.hid hfr
        have F3 := Lib.hid q2
        have N3 := Lib.hid q3
        generalize (freshD T r).2 = T' at *
        have r3 : ¬ (r = 3) := by omega
        have hsz := name_size (j := ss.length) (by omega)
        clear hfr q1 q2 q3
        go_wp2_with fail
        refine hrd.out.mono ?_; rintro e w' ⟨rfl, rfl⟩
        clear hrd
        go_wp2_with fail
        refine hln'.out.mono ?_; rintro e w' ⟨rfl, rfl⟩
        clear hln'
        go_wp2_with fail
        refine hfr'.out.mono ?_; rintro e w3 ⟨rfl, t3, s3⟩
        have I3 := Lib.hid (hS.out.step t3 s3)
        have O3 := Lib.hid (hO.out.tstep hS.out (fun _ h => h) s3)
        clear t3 s3 hfr' hS hO
        have hnd := Lib.hid (node_any w.heap.size p { T' with X := rowB (.slice a5 ss.length c5) } ss.length w3 I3.out.t (by have := F3.out.nodes; rw [List.length_append, List.length_singleton] at this; show ss.length < T'.nodes.length; omega) F3.out.ok.sn)
        rw [show nodeAt { T' with X := rowB (.slice a5 ss.length c5) } (ss.length : Int) = (⟨12, freshName (ss.length : Int), ⟨false, [], []⟩, [], r⟩ : NodeD) from N3.out] at hnd
        go_wp2_with fail
        refine hnd.out.mono ?_; rintro e w9 ⟨a9, c9, b9, d9, g9, e9, rfl, n9, hb9⟩
        have I9 := Lib.hid (I3.out.all hb9)
        have O9 := Lib.hid (O3.out.same fun j hj => hb9.block j (O3.out.lt j hj).2)
        have IA := Lib.hid (I9.out.lit (.cells #[.int .i64 12, .string (freshName (ss.length : Int)), .bool false, .slice a9 0 c9, .slice b9 0 d9, .slice g9 0 e9, .int .i64 r] 37))
        have OA := Lib.hid (O9.out.alloc (.cells #[.int .i64 12, .string (freshName (ss.length : Int)), .bool false, .slice a9 0 c9, .slice b9 0 d9, .slice g9 0 e9, .int .i64 r] 37))
        have XA := Lib.hid (heap_alloc_new w9 (.cells #[.int .i64 12, .string (freshName (ss.length : Int)), .bool false, .slice a9 0 c9, .slice b9 0 d9, .slice g9 0 e9, .int .i64 r] 37))
        have hva := Lib.hid (vars_any w.heap.size p { T' with X := rowB (.slice a5 ss.length c5) } ss.length _ IA.out.t (F3.out.ok.X _) ⟨by omega, by omega⟩)
        rw [vars_const (T := { T' with X := rowB (.slice a5 ss.length c5) }) (k := ss.length) (j := ss.length) (s := r) (by have := F3.out.nodes; rw [List.length_append, List.length_singleton] at this; show ss.length < T'.nodes.length; omega) N3.out] at hva
        clear n9 hb9 I3 O3 I9 O9 hnd N3
        go_wp2_with fail
        refine hva.out.mono ?_; rintro e w13 ⟨a13, c13, rfl, r13, b13⟩
        have hW : Below w13.heap.size w13 (w13.alloc (.cells #[.int .i64 ss.length] 3)) := (Below.refl _ _).alloc (Nat.le_refl _) _
        have hii := Lib.hid (ints_any a13 (some ⟨w13.heap.size, 0, none⟩) 1 1 c13 1 [(ss.length : Int)] [(ss.length : Int)] _ (r13.below hW (Nat.le_refl _)) (RdI.lit [(ss.length : Int)] 3 w13 (by intro x hx; simp at hx; subst hx; exact ⟨by omega, by omega⟩)) (by decide))
        rw [show sameI [(ss.length : Int)] [(ss.length : Int)] = true from by simp [sameI]] at hii
        have B13 := Lib.hid (b13.trans (hW.mono b13.size))
        clear r13 b13 hW hva
        go_wp2_with fail
        refine hii.out.mono ?_; rintro e w14 ⟨rfl, q14, hw14⟩
        have B14 := Lib.hid (show Below _ _ w14 from by rw [hw14]; exact B13.out.drewN q14)
        have I14 := Lib.hid (IA.out.all B14.out)
        have O14 := Lib.hid (OA.out.same fun j hj => B14.out.block j (OA.out.lt j hj).2)
        have X14 := Lib.hid ((B14.out.block _ (Array.getElem?_eq_some_iff.1 XA.out).1).trans XA.out)
        clear hw14 hii B13 B14 IA OA XA
        go_wp2
        go_loopw [2, 13] (fun _ v13 wl => ∃ j : Nat, j ≤ ss.length ∧ v13 = .int .i64 j ∧ Hid (Below w14.heap.size w14 wl)) (fun _ v13 _ => ss.length - (intOf v13).toNat)
        case atStart => exact ⟨0, Nat.zero_le _, rfl, Below.refl _ _⟩
        case round =>
          obtain ⟨j, hj, rfl, hwl⟩ := hrel
          have IB := Lib.hid (I14.out.all hwl.out)
          have OB := Lib.hid (O14.out.same fun j hj => hwl.out.block j (O14.out.lt j hj).2)
          have k1 : wr.cell? ⟨w9.heap.size, 1, none⟩ = some (.string (freshName (ss.length : Int))) := cell_p ((hwl.out.block _ (Array.getElem?_eq_some_iff.1 X14.out).1).trans X14.out) 1
          by_cases hlj : j < ss.length
          · obtain ⟨g5, cap5, hv5, _, _⟩ := OB.out.form (by omega)
            injection hv5 with hv5 _ hv6
            subst hv5 hv6
            have kj : wr.cell? ⟨g5, j, none⟩ = some (.string (freshName (j : Int))) := OB.out.cells rfl j _ (frNames_at hlj)
            have hne : ((freshName (j : Int)).toList == (freshName (ss.length : Int)).toList) = false := names_apart (by omega) (by omega) (by omega)
            go_wp2
            go_quiet (fail)
            go_wp2
            go_roundw
            case rel => exact ⟨j + 1, by omega, by go_num, hwl.out.drewN _⟩
            case measure => simp [intOf]; omega
          · obtain rfl : j = ss.length := by omega
            go_wp2_with (at_builtin; refine wpList_append_C rfl (.tmp 121) (.tmp 124) rfl Tryz.underlying47 hi0 hz0 hz1 hz2 rfl (by decide) rfl rfl (OB.out.alloc _) (Src.one (b := wr.heap.size) (news := [.string (freshName (ss.length : Int))]) rfl ?c1) ?c2 ?c3 ?c4 ?c5 ?_)
            case c1 => intro j u hu; rw [World.cell?_alloc_new]; simpa using hu
            case c2 => intro u hu; simp at hu; subst hu; rfl
            case c3 => unfold maxLen; omega
            case c4 => omega
            case c5 => have := IB.out.b.size; simp; omega
            intro v' w15 ho hg hl2
            have hg' := grown_alloc hg
            have hb15 : Below w.heap.size wr w15 := (Below.refl _ _).grown hg' IB.out.b.size (fun k hk => (OB.out.lt k hk).1)
            have I15 := Lib.hid (IB.out.excl (X' := rowB v') hb15 (fun k hk hn => hg'.block k hk (fun e => hn e.symm)) (fun k e => ⟨by
              rcases hl2 with hl2 | hl2
              · left; show _ = _; rw [← hl2]; exact e
              · right; have := hl2 k e; first | omega | (simp at this; omega), (ho.lt k e).2⟩))
            have O15 := Lib.hid (show OwnC w15 w.heap.size 9 1 v' (ss ++ [r]).length (frNames (ss ++ [r]).length) from by rw [List.length_append, List.length_singleton, frNames_succ]; exact ho)
            clear ho hg hl2 hg' hb15 IB OB
            go_wp2
            go_roundw
            case rel => exact ⟨k + 1, ss ++ [r], T', by omega, by go_num, by simp; omega, F3.out, I15.out, O15.out⟩
            case measure => simp [intOf]; omega
    · obtain rfl : k = n := by omega
      have haw := Lib.hid (awake7_any wr (hS.out.env hE'.out))
      go_wp2_with fail
      refine haw.out.mono ?_; rintro e w12 ⟨rfl, b12⟩
      go_wp2
      go_ret
      exact ⟨rfl, hS.out.b.trans (b12.mono hS.out.b.size)⟩
end Go.Proofs.YtikmkalfdiiahaaGreatDoor
