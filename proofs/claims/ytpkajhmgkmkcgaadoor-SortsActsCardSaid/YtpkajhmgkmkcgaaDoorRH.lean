/-
  theodolitelaw6: acts as arguments; few. Conditions: the acts can be read.
-/
import Derived.Test.YtpkajhmgkmkcgaaDoorRG
import Derived.Test.YtpkajhmgkmkcgaaDoorOP
namespace Go.Proofs.YtpkajhmgkmkcgaaDoor
open Go.RowKit Go.Sort Go.Lib

structure ActD where
  kind : Int
  name : ByteArray
  f : FunD
  n : Int
def repFB : Rep FunD := Rep.map (fun f => (f.name, f.args, f.res)) (.prod .strB (.prod (.slice .int) .int))
def repAct : Rep ActD := Rep.map (fun a => (a.kind, a.name, a.f, a.n)) (.prod .int (.prod .strB (.prod repFB .int)))
theorem repAct_k : repAct.k = 6 := rfl
set_option maxRecDepth 100000 in
theorem opens_fun : Opens Tryd.prog 32 repFB :=
  .map (fun f : FunD => (f.name, f.args, f.res)) (fun x => ⟨x.1, x.2.1, x.2.2⟩) (fun _ => rfl)
    (.struct Tryd.underlying32 (by kernel_rfl)
      (OpensF.cons rfl (.str Tryd.underlying9 (by kernel_rfl)) rfl
        (OpensF.cons rfl (.slice (.int Tryd.underlying3 (by kernel_rfl)) Tryd.underlying30 (by kernel_rfl) (by decide)) rfl
          (OpensF.one rfl (.int Tryd.underlying3 (by kernel_rfl))))))
set_option maxRecDepth 100000 in
theorem opens_act : Opens Tryd.prog 51 repAct :=
  .map (fun a : ActD => (a.kind, a.name, a.f, a.n)) (fun x => ⟨x.1, x.2.1, x.2.2.1, x.2.2.2⟩) (fun _ => rfl)
    (.struct Tryd.underlying51 (by kernel_rfl)
      (OpensF.cons rfl (.int Tryd.underlying3 (by kernel_rfl)) rfl
        (OpensF.cons rfl (.str Tryd.underlying9 (by kernel_rfl)) rfl
          (OpensF.cons rfl opens_fun rfl
            (OpensF.one rfl (.int Tryd.underlying3 (by kernel_rfl)))))))
theorem opens_acts : Opens Tryd.prog 43 (.slice repAct) := .slice opens_act Tryd.underlying43 (by kernel_rfl) (by decide)
theorem repFB_rd {S : Nat → Prop} {w : World} {f : FunD} {cs : List Value} : repFB.rd S w f cs → ∃ a n c, cs = [.string f.name, .slice a n c, .int .i64 f.res] ∧ n ≤ c ∧ c ≤ maxLen ∧ SlR Rep.int S w a n f.args ∧ okI f.res ∧ f.name.size ≤ maxLen := by
  rintro ⟨c, d, rfl, ⟨h1, hb⟩, c', d', rfl, ⟨a, n, cc, h2, h3, h4, h5⟩, h6, h7⟩
  have h1' : c = [.string f.name] := h1
  have h6' : d' = [.int .i64 f.res] := h6
  subst h1' h2 h6'
  exact ⟨a, n, cc, rfl, h3, h4, h5, h7, hb⟩
theorem repAct_rd {S : Nat → Prop} {w : World} {x : ActD} {cs : List Value} : repAct.rd S w x cs → ∃ a n c, cs = [.int .i64 x.kind, .string x.name, .string x.f.name, .slice a n c, .int .i64 x.f.res, .int .i64 x.n] ∧ n ≤ c ∧ c ≤ maxLen ∧ SlR Rep.int S w a n x.f.args ∧ okI x.f.res ∧ okI x.n ∧ x.name.size ≤ maxLen ∧ x.f.name.size ≤ maxLen := by
  rintro ⟨c, d, rfl, ⟨h1, h1b⟩, c', d', rfl, ⟨h2, h2b⟩, c'', d'', rfl, h3, h4, h5⟩
  obtain ⟨a, n, cc, rfl, g1, g2, g3, g4, g5⟩ := repFB_rd h3
  have h1' : c = [.int .i64 x.kind] := h1
  have h2' : c' = [.string x.name] := h2
  have h4' : d'' = [.int .i64 x.n] := h4
  subst h1' h2' h4'
  exact ⟨a, n, cc, rfl, g1, g2, g3, g4, h5, h2b, g5⟩
theorem SlR.actAt {S : Nat → Prop} {w : World} {a : Option Addr} {n : Nat} {xs : List ActD} (h : SlR repAct S w a n xs) {k : Nat} {x : ActD} (hk : xs[k]? = some x) :
    ∃ b o a' c', a = some ⟨b, o, none⟩ ∧ w.cell? ⟨b, o + k * 6, none⟩ = some (.int .i64 x.kind) ∧ w.cell? ⟨b, o + k * 6 + 1, none⟩ = some (.string x.name) ∧ w.cell? ⟨b, o + k * 6 + 2, none⟩ = some (.string x.f.name) ∧ w.cell? ⟨b, o + k * 6 + 3, none⟩ = some (.slice a' x.f.args.length c') ∧ w.cell? ⟨b, o + k * 6 + 4, none⟩ = some (.int .i64 x.f.res) ∧ w.cell? ⟨b, o + k * 6 + 5, none⟩ = some (.int .i64 x.n) ∧
      SlR Rep.int S w a' x.f.args.length x.f.args ∧ x.f.args.length ≤ c' ∧ c' ≤ maxLen ∧ okI x.f.res ∧ okI x.n ∧ x.name.size ≤ maxLen ∧ x.f.name.size ≤ maxLen := by
  obtain ⟨b, o, cs, ha, _, hr, hc⟩ := h.at hk
  obtain ⟨a', n', c', rfl, g1, g2, h3, h4, h5, h6, h7⟩ := repAct_rd hr
  obtain rfl : n' = x.f.args.length := h3.1.symm
  rw [repAct_k] at hc
  exact ⟨b, o, a', c', ha, hc 0 _ rfl, hc 1 _ rfl, hc 2 _ rfl, hc 3 _ rfl, hc 4 _ rfl, hc 5 _ rfl, h3, g1, g2, h4, h5, h6, h7⟩
def FewPost (n : Nat) (xs : List ActD) (e : Ending) : Prop := ∃ b, e = .returned (.bool b) ∧ (b = true → n ≤ 40 ∧ ∀ x ∈ xs, x.f.args.length ≤ 70)
set_option maxRecDepth 100000 in
set_option maxHeartbeats 1000000 in
theorem few_any (a : Option Addr) (n c : Nat) (xs : List ActD) (w : World) (hx : SlR repAct (fun _ => True) w a n xs) :
    Calls Tryd.prog 16 #[.slice a n c] w fun e w' => FewPost n xs e ∧ w = w' := by
  have hx' := Lib.hid hx
  have hl := Lib.hid hx.1
  clear hx
  go_enter Tryd.func16, Tryd.ntmps16
  go_wp2
  go_loopw [2, 3] (fun _ v3 wr => ∃ k : Nat, k ≤ n ∧ k ≤ 50 ∧ v3 = .int .i64 k ∧ wr = w ∧ Hid (∀ x ∈ xs.take k, x.f.args.length ≤ 70)) (fun _ v3 _ => 50 - (intOf v3).toNat)
  case atStart => exact ⟨0, Nat.zero_le _, by omega, rfl, rfl, by simp [Hid]⟩
  case round =>
    obtain ⟨k, hk, hk50, rfl, rfl, hok⟩ := hrel
    by_cases hlt : k < n
    · by_cases h50 : k < 50
      · have hkl : k < xs.length := by rw [hl.out]; exact hlt
        have hf := List.getElem?_eq_getElem hkl
        obtain ⟨b, o, a', c', rfl, q0, q1, q2, q3, q4, q5, _, _, _, _, _, s1, s2⟩ := hx'.out.actAt hf
        have htk := Lib.hid (List.take_succ_eq_append_getElem hkl)
        clear hf q0 q4 q5
        generalize xs[k] = x at *
        obtain ⟨kd, nm, ⟨fn, fa, fr⟩, xn⟩ := x
        dsimp only at *
        by_cases h1 : 300 < nm.size
        · go_wp2
          go_ret
          exact ⟨⟨_, rfl, fun h => by cases h⟩, rfl⟩
        · by_cases h2 : 300 < fn.size
          · go_wp2
            go_ret
            exact ⟨⟨_, rfl, fun h => by cases h⟩, rfl⟩
          · by_cases h3 : 70 < fa.length
            · go_wp2
              go_ret
              exact ⟨⟨_, rfl, fun h => by cases h⟩, rfl⟩
            · go_wp2
              go_roundw
              case rel => exact ⟨k + 1, by omega, by omega, by go_num, by trivial, by
                show ∀ x ∈ xs.take (k + 1), x.f.args.length ≤ 70
                rw [htk.out]
                intro y hy
                rcases List.mem_append.1 hy with hy | hy
                · exact hok.out y hy
                · obtain rfl := List.mem_singleton.1 hy
                  show fa.length ≤ 70
                  omega⟩
              case measure => simp [intOf]; omega
      · obtain rfl : k = 50 := by omega
        go_wp2
        go_ret
        exact ⟨⟨_, rfl, fun h => by simp at h; omega⟩, rfl⟩
    · obtain rfl : k = n := by omega
      go_wp2
      go_ret
      refine ⟨⟨_, rfl, fun h => ?_⟩, rfl⟩
      rw [← hl.out] at hok
      rw [List.take_length] at hok
      exact ⟨by simp at h; omega, hok.out⟩
end Go.Proofs.YtpkajhmgkmkcgaaDoor
