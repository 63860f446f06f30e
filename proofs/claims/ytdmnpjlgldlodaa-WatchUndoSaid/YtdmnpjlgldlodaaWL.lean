/-
  theodolitelaw21.WatchSound returns true, whatever clauses, literals and truths come in; it writes nothing old. Condition: the slices can be read.
-/
import Derived.Test.YtdmnpjlgldlodaaWP
import Derived.Deep.QuietTactic
import Derived.BigQuiet
namespace Go.Proofs.Ytdmnpjlgldlodaa
open Go.RowKit Go.Sort Go.Lib Go.Maps

theorem quiet_add {P : Program} {f : FuncId} {args : Array Value} {w : World} {a n : Nat} {v : Value}
    (h : Calls P f args (w.drewN (a + n)) fun e w' => e = .returned v ∧ ∃ m, w' = (w.drewN (a + n)).drewN m) :
    Calls P f args (w.drewN (a + n)) fun e w'' => e = .returned v ∧ ∃ m, w'' = w.drewN (a + m) :=
  h.mono fun _ _ ⟨he, m, hm⟩ => ⟨he, n + m, by rw [hm, World.drewN_drewN, Nat.add_assoc]⟩
theorem quiet_add_same {P : Program} {f : FuncId} {args : Array Value} {w : World} {a n : Nat} {v : Value}
    (h : Calls P f args (w.drewN (a + n)) fun e w' => e = .returned v ∧ w' = w.drewN (a + n)) :
    Calls P f args (w.drewN (a + n)) fun e w'' => e = .returned v ∧ ∃ m, w'' = w.drewN (a + m) :=
  h.mono fun _ _ ⟨he, hm⟩ => ⟨he, n, hm⟩
theorem quiet_add_left {P : Program} {f : FuncId} {args : Array Value} {w : World} {a n : Nat} {v : Value}
    (h : Calls P f args (w.drewN (a + n)) fun e w' => e = .returned v ∧ w.drewN (a + n) = w') :
    Calls P f args (w.drewN (a + n)) fun e w'' => e = .returned v ∧ ∃ m, w'' = w.drewN (a + m) :=
  h.mono fun _ _ ⟨he, hm⟩ => ⟨he, n, hm.symm⟩
theorem quiet_left {P : Program} {f : FuncId} {args : Array Value} {w : World} {n : Nat} {v : Value}
    (h : Calls P f args (w.drewN n) fun e w' => e = .returned v ∧ w.drewN n = w') : Calls P f args (w.drewN n) fun e w'' => e = .returned v ∧ ∃ m, w'' = w.drewN m :=
  h.mono fun _ _ ⟨he, hm⟩ => ⟨he, n, hm.symm⟩

/-- is a literal true, as the law asks? -/
def litT (ts : List Bool) (x : Int) : Bool := nthB ts ((sz21 x).toNat - 1) == decide (0 < x)
theorem inB_bd {m : Nat} {x : Int} (h : inB m x = true) : x ≠ 0 ∧ -(m : Int) ≤ x ∧ x ≤ m := by
  unfold inB at h
  simp only [Bool.not_eq_true', Bool.or_eq_false_iff, beq_eq_false_iff_ne, ne_eq, decide_eq_false_iff_not] at h
  omega
theorem sz21_bd {m : Nat} {x : Int} (h : inB m x = true) (hm : m ≤ 10) : 1 ≤ sz21 x ∧ sz21 x ≤ m ∧ wrap64 (sz21 x - 1) = sz21 x - 1 ∧ sz21 (negL x) = sz21 x ∧ negL x = -x := by
  have := inB_bd h
  unfold sz21 negL wrap64
  omega
theorem litT_neg {m : Nat} {x : Int} {ts : List Bool} (h : inB m x = true) (hm : m ≤ 10) (ht : litT ts x = true) : litT ts (negL x) = false := by
  have h1 := sz21_bd h hm
  have h2 := inB_bd h
  unfold litT at *
  rw [h1.2.2.2.1]
  have ed : decide (0 < negL x) = !decide (0 < x) := by
    rw [h1.2.2.2.2]
    by_cases h : 0 < x
    · simp [h]; omega
    · simp [h]; omega
  rw [ed]
  revert ht
  cases nthB ts ((sz21 x).toNat - 1) <;> cases decide (0 < x) <;> decide
def holdS (ts : List Bool) (ls : List (List Int)) : Bool := ls.all fun c => c.any (litT ts)
theorem flat_le {ls : List (List Int)} (h : ∀ r ∈ ls, r.length ≤ 6) : ls.flatten.length ≤ 6 * ls.length := by
  induction ls with
  | nil => simp
  | cons r ls ih =>
    have h1 := h r (by simp)
    have h2 := ih (fun r hr => h r (by simp [hr]))
    simp only [List.flatten_cons, List.length_append, List.length_cons]
    omega
/-- the plain law -/
theorem watch_plain {m : Nat} {ts : List Bool} {ls : List (List Int)} {given : List Int} (hm : m ≤ 10) (hl : ∀ r ∈ ls, wIn r m = true) (hg : wIn given m = true) (h1 : given.all (litT ts) = true) (h2 : holdS ts ls = true) :
    ∃ S, closeS ls given = some S ∧ wIn (nrm S) m = true ∧ (∀ x ∈ nrm S, inB m x = true ∧ litT ts x = true) ∧ (nrm S).length ≤ 21 := by
  have hin : ∀ r ∈ ls, ∀ x ∈ r, inB m x = true := fun r hr x hx => List.all_eq_true.1 (hl r hr) x hx
  have hgi : ∀ x ∈ given, inB m x = true := fun x hx => List.all_eq_true.1 hg x hx
  obtain ⟨S, hS, hT⟩ := closeS_sound (fun x => inB m x && litT ts x) ls given
    (fun c hc x hx ht => by
      simp only [Bool.and_eq_true] at ht
      rw [litT_neg ht.1 hm ht.2]; simp)
    (fun c hc => by
      obtain ⟨x, hx, ht⟩ := List.any_eq_true.1 (List.all_eq_true.1 h2 c hc)
      exact ⟨x, hx, by rw [ht, hin c hc x hx]; rfl⟩)
    (fun x hx ht => by
      simp only [Bool.and_eq_true] at ht
      rw [litT_neg ht.1 hm ht.2]; simp)
    (fun x hx _ => by rw [hgi x hx, List.all_eq_true.1 h1 x hx]; rfl)
  have hall : ∀ x ∈ nrm S, inB m x = true ∧ litT ts x = true := fun x hx => by
    have := hT x ((mem_nrm _ _).1 hx)
    simpa using this
  refine ⟨S, hS, List.all_eq_true.2 fun x hx => (hall x hx).1, hall, ?_⟩
  have hnd : (nrm S).Nodup := (strict_nrm S).imp fun {a b} h e => by subst e; rw [ltC_irrefl] at h; cases h
  have := nodup_len (L := nrm S) (S := (List.range 21).map fun i : Nat => (i : Int) - 10) hnd (fun x hx => by
    have := inB_bd (hall x hx).1
    rw [List.mem_map]
    exact ⟨(x + 10).toNat, by rw [List.mem_range]; omega, by omega⟩)
  simpa using this
theorem all_take {xs : List Int} {f : Int → Bool} {k : Nat} (hk : k < xs.length) : (xs.take (k + 1)).all f = ((xs.take k).all f && f (nth xs k)) := by
  rw [take_succ_nth hk, List.all_append]; simp
theorem any_take {xs : List Int} {f : Int → Bool} {k : Nat} (hk : k < xs.length) : (xs.take (k + 1)).any f = ((xs.take k).any f || f (nth xs k)) := by
  rw [take_succ_nth hk, List.any_append]; simp
theorem holdS_take {ts : List Bool} {ls : List (List Int)} {k : Nat} (hk : k < ls.length) : holdS ts (ls.take (k + 1)) = (holdS ts (ls.take k) && (nthR ls k).any (litT ts)) := by
  unfold holdS
  rw [List.take_succ_eq_append_getElem hk, List.all_append, nthR_eq hk]; simp
theorem wIn_at {xs : List Int} {m : Int} {k : Nat} (h : wIn xs m = true) (hk : k < xs.length) : inB m (nth xs k) = true := List.all_eq_true.1 h _ (nth_mem hk)
theorem RdR.drewN {w : World} {a : Option Addr} {n : Nat} {xs : List (List Int)} (h : RdR w a n xs) (q : Nat) : RdR (w.drewN q) a n xs := by
  refine ⟨h.len, fun hn => ?_⟩
  obtain ⟨b, o, ha, hb, hc⟩ := h.cells hn
  exact ⟨b, o, ha, hb, fun j hj => by obtain ⟨a', c', h1, h2⟩ := hc j hj; exact ⟨a', c', h1, h2.drewN q⟩⟩
/-- the cells behind a clause's literal -/
theorem RdB.lit {w : World} {a : Option Addr} {m : Nat} {ts : List Bool} {x : Int} (h : RdB w a m ts) (hx : inB m x = true) (hm : m ≤ 10) : ∃ b o, a = some ⟨b, o, none⟩ ∧ w.cell? ⟨b, o + ((sz21 x).toNat - 1), none⟩ = some (.bool (nthB ts ((sz21 x).toNat - 1))) := by
  have h1 := sz21_bd hx hm
  obtain ⟨b, o, ha, hc⟩ := h.at ((sz21 x).toNat - 1) (by omega)
  exact ⟨b, o, ha, hc⟩
end Go.Proofs.Ytdmnpjlgldlodaa
