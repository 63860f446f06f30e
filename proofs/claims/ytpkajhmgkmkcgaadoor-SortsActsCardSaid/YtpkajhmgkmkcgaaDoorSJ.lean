/-
  sorts: Funs. Conditions: a table in memory of fewer than 2^40 entries, each function of fewer than 2^40 sorts.
-/
import Derived.Test.YtpkajhmgkmkcgaaDoorSG
import Derived.Test.YtpkajhmgkmkcgaaDoorSI
namespace Go.Proofs.YtpkajhmgkmkcgaaDoor
open Go.RowKit Go.Sort Go.Lib
variable {X : Nat → Prop}

def FunsPost (fs : List FunD) (w : World) (e : Ending) (w' : World) : Prop :=
  ∃ gs a c, e = .returned (.slice a gs.length c) ∧ gs.Perm fs ∧ ByName gs ∧ SlR repF (fun _ => True) w' a gs.length gs ∧ Below w.heap.size w w'
set_option maxRecDepth 100000 in
set_option maxHeartbeats 4000000 in
theorem funs_any (B p : Nat) (T : TabD) (w : World) (h : TabX X B p T w) (hs : Small T) :
    Calls Tryd.prog 14 #[.pointer (some ⟨p, 0, none⟩)] w fun e w' => FunsPost T.funs w e w' := by
  obtain ⟨a1, c1, a2, c2, a3, c3, hblk, o1, o2, o3⟩ := h.look
  have k1 : w.cell? ⟨p, 1, none⟩ = some (.slice a2 T.funs.length c2) := cell_p hblk 1
  have hrd := Lib.hid (o2.read (S' := fun _ => True) (fun _ _ _ => trivial) (fun _ _ => trivial))
  have hfl := hs.f
  have hxl := Lib.hid h.xlt
  have hfa := Lib.hid hs.a
  obtain ⟨i0, hi, hz0, hz1, hz2⟩ := info_parts info_fun
  clear h hs hblk o1 o2 o3
  generalize T.funs = fs at *
  go_enter Tryd.func14, Tryd.ntmps14
  go_wp2
  go_loopw [2, 4, 12] (fun v _ i wr => ∃ k : Nat, k ≤ fs.length ∧ i = .int .i64 k ∧ Hid (OwnR repF (IntX X wr) wr w.heap.size 32 v (fs.take k)) ∧ Hid (Below w.heap.size w wr)) (fun _ _ i _ => fs.length - (intOf i).toNat)
  case atStart => exact ⟨0, Nat.zero_le _, rfl, OwnR.nil _ _ _ _ _, Below.refl _ _⟩
  case round =>
    obtain ⟨k, hk, rfl, hO, hB⟩ := hrel
    by_cases hlt : k < fs.length
    · have hf := List.getElem?_eq_getElem hlt
      obtain ⟨b, o, a', c', rfl, q0, q1, q2, q3, q4, _⟩ := (hrd.out.below hB.out (Nat.le_refl _)).funAt hf
      have hal := hfa.out _ (List.getElem_mem hlt)
      have htk := Lib.hid (List.take_succ_eq_append_getElem hlt)
      generalize fs[k] = f at *
      have hB1 : Below wr.heap.size wr (wr.alloc (.cells #[.string f.name, .slice a' f.args.length c', .int .i64 f.res] 32)) := (Below.refl _ _).alloc (Nat.le_refl _) _
      have hown := Lib.hid (ownF_any f.name a' f.args.length c' f.res f.args (wr.alloc (.cells #[.string f.name, .slice a' f.args.length c', .int .i64 f.res] 32)) ((q3.below hB1 (Nat.le_refl _)).toI) (by omega) (fun k hk => Nat.lt_of_lt_of_le (hxl.out k hk) (Nat.le_trans hB.out.size hB1.size)))
      have hB1' := Lib.hid hB1
      have q4' := Lib.hid q4
      clear hf q3 q4 hB1
      go_wp2_with fail
      refine hown.out.mono ?_
      rintro e w2 ⟨a4, c4, rfl, hs4, hc4, hc5, hb4⟩
      have hb5 := hB1'.out.trans (hb4.mono hB1'.out.size)
      have B2 := Lib.hid (hB.out.trans (hb5.mono hB.out.size))
      have S4 := Lib.hid hs4
      have C4 := Lib.hid hc4
      have C5 := Lib.hid hc5
      obtain ⟨css, oc, ol, oe⟩ := hO.out.allI hb5
      have hlen : (fs.take k).length = k := by rw [List.length_take]; omega
      have OC := Lib.hid oc
      have OL := Lib.hid ol
      have OE := Lib.hid oe
      have hsz := B2.out.size
      have hlen' := Lib.hid hlen
      rw [hlen] at OC
      clear hs4 hc4 hc5 hb4 hb5 oc ol oe hown q0 q1 q2 hlen
      go_wp2_with (at_builtin; refine wpList_append_C rfl (.tmp 16) (.tmp 19) rfl Tryd.underlying39 hi hz0 hz1 hz2 rfl (by decide) rfl rfl (OC.out.alloc _) (Src.one (b := w2.heap.size) (news := [.string f.name, .slice a4 f.args.length c4, .int .i64 f.res]) rfl (triple_new _ _ _ w2 _)) triple_one ?c3 ?c4 ?c5 ?_)
      case c3 => unfold maxLen; omega
      case c4 => omega
      case c5 => simp; omega
      intro v' w3 ho3 hg3 hl3
      have G3 := grown_alloc hg3
      have hge := Lib.hid (fun k hk => (OC.out.lt k hk).1)
      rw [← hlen'.out] at ho3
      have O3 := OwnR.push (R := repF) (S := IntX X w2) (x := f) OL.out OE.out (repF_rd.2 ⟨a4, _, c4, rfl, C4.out, C5.out, S4.out, q4'.out⟩) ho3 (fun b hlt hb => G3.block b hlt (fun e => ty_ne (by decide) (OC.out.ty b e.symm) hb.2)) G3.size
      have O4 := Lib.hid (O3.mono fun b _ hb => IntX.same (w' := w3) hb (G3.block b hb.lt (fun e => ty_ne (by decide) (OC.out.ty b e.symm) hb.2)))
      have B3 := Lib.hid (B2.out.grown G3 B2.out.size hge.out)
      rw [← htk.out] at O4
      clear ho3 hg3 hl3 G3 O3
      go_wp2
      go_roundw
      case rel => exact ⟨k + 1, by omega, by go_num, O4.out, B3.out⟩
      case measure => simp [intOf]; omega
    · obtain rfl : k = fs.length := by omega
      rw [List.take_length] at hO
      obtain ⟨a', c', rfl, _⟩ := hO.out.slice
      have hst := Lib.hid (sortF_any a' fs.length c' fs wr hO.out (by omega))
      have hge := Lib.hid (fun k hk => (hO.out.lt k hk).1)
      go_wp2_with fail
      refine hst.out.mono ?_
      rintro e w2 ⟨rfl, gs, hp, hn, ho, hg⟩
      have hlen : gs.length = fs.length := hp.length_eq
      have H := Lib.hid (show FunsPost fs w (.returned (.slice a' fs.length c')) w2 from ⟨gs, a', c', by rw [hlen], hp, hn, by rw [hlen]; exact ho.read (fun _ _ _ => trivial) (fun _ _ => trivial), hB.out.grown hg hB.out.size hge.out⟩)
      clear hp hn ho hg hlen
      go_wp2
      go_ret
      exact H.out
end Go.Proofs.YtpkajhmgkmkcgaaDoor
