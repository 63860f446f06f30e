/-
  Parts of this claim's texts, one behind the other: YP. No condition.
-/
import Derived.Test.YtgoojkiccdjplaaGreatDoorN5
set_option linter.unusedVariables false
set_option linter.unusedSimpArgs false
set_option maxRecDepth 100000
set_option maxHeartbeats 16000000
namespace Go.Proofs.YtgoojkiccdjplaaGreatDoor
open Go.RowKit Go.Sort Go.Lib
theorem zero_int (w:World):(zeroValue 3).run Tryz.prog w = .ok (.int .i64 0) w:=by kernel_rfl
theorem info_two:(Tryz.prog.info? 190).map (fun i=>(i.zero,i.size,i.bytes))=some (some (.agg #[.bool false,.bool false]),2,2):=by kernel_rfl
theorem keyL_le {S:Nat→Prop} {w:World} {x:NodeD} {a b g:Option Addr} {c d e:Nat} (hx:NodeS S w x a c b d g e) (hk:KeyOk x):(keyL x).length≤100000000:=by
 have h1:=headL_le hx.op hx.sort hk.name
 have h2:=argsL_le hx.args.toI.wf
 have h3:=hk.args
 unfold keyL numL
 split
 ·rename_i h11
  have h4:=limbsL_le (hk.low h11).1
  have h5:=limbsL_le (hk.low h11).2
  have h6:=hk.num
  have h7:=hk.den
  have h8:(Lib.formatBool x.val.neg).length≤5:=by cases x.val.neg <;> decide
  simp only [List.length_append,List.length_cons]
  omega
 ·simp only [List.length_append,List.length_nil]
  omega
theorem key_ok {S:Nat→Prop} {w:World} {x:NodeD} {a b g:Option Addr} {c d e:Nat} (hx:NodeS S w x a c b d g e) (hk:KeyOk x):okS (keyB x):=by
 have:=keyL_le hx hk
 unfold okS keyB maxLen
 rw [size_data]
 simp only
 omega
theorem node_one {op so:Int} {nm:ByteArray} {ng:Bool} {a b g:Option Addr} {n c m d k e:Nat}:∀u ∈ [Value.int .i64 op,.string nm,.bool ng,.slice a n c,.slice b m d,.slice g k e,.int .i64 so],u.oneCell'=true:=by
 intro u hu
 simp at hu
 rcases hu with rfl | rfl | rfl | rfl | rfl | rfl | rfl <;> rfl
theorem two_one {x y:Bool}:∀u ∈ [Value.bool x,Value.bool y],u.oneCell'=true:=by
 intro u hu
 simp at hu
 rcases hu with rfl | rfl <;> rfl
def PutPost (B p:Nat) (T:TermD) (x:NodeD) (w:World) (e:Ending) (w':World):Prop:=
 e = .returned (.tuple #[.int .i64 (putD T x).1.1,.int .i64 (putD T x).1.2])∧TermX B p (putD T x).2 w'∧TStep p w w'
theorem put_some {T:TermD} {x:NodeD} {i:Int} (h:T.ids (keyB x)=some i):putD T x=((i,0),T):=by unfold putD;rw [h]
theorem put_full {T:TermD} {x:NodeD} (h:T.ids (keyB x)=none) (hl:16384≤T.nodes.length):putD T x=((0,4),T):=by unfold putD;rw [h];simp [hl]
theorem put_new {T:TermD} {x:NodeD} (h:T.ids (keyB x)=none) (hl:¬16384≤T.nodes.length):putD T x=(((T.nodes.length:Int),0),{ T with nodes:=T.nodes ++ [x],nums:=T.nums ++ [numberD T x],ids:=fun k=>if k=keyB x then some (T.nodes.length:Int) else T.ids k,cnt:=T.cnt+1 }):=by unfold putD;rw [h];simp [hl]
theorem put_any {S : Nat → Prop} (B p : Nat) (T : TermD) (x : NodeD) (a b g : Option Addr) (c d e : Nat) (w : World) (h : TermX B p T w) (hx : NodeS S w x a c b d g e) (hxa : SlR Rep.int (DatB w) w g x.args.length x.args) (hk : KeyOk x) (hs : SmT T) (hi : InT T x.args) (hne : x.op = 16 → 1 ≤ x.args.length) (hE : EnvT w) :
    Calls Tryz.prog 88 #[.pointer (some ⟨p, 0, none⟩), nodeV x a c b d g e] w fun e w' => PutPost B p T x w e w' := by
  have hx' := Lib.hid hx
  have hxa' := Lib.hid hxa
  clear hxa
  have hk' := Lib.hid hk
  have hs' := Lib.hid hs
  have hi' := Lib.hid hi
  have h' := Lib.hid h
  have hkey := key_ok hx hk
  obtain ⟨op, nm, ⟨ng, nu, de⟩, args, so⟩ := x
  dsimp only at hi hne
  obtain ⟨q, a1, c1, a2, c2, m, ha0⟩ := h.look
  have ha0' := Lib.hid ha0
  have hne' := Lib.hid hne
  have hB0 : Below w.heap.size w (w.alloc (.cells #[.int .i64 op, .string nm, .bool ng, .slice a nu.length c, .slice b de.length d, .slice g args.length e, .int .i64 so] 38)) := (Below.refl _ _).alloc (Nat.le_refl _) _
  have hB0' := Lib.hid hB0
  have hkc := Lib.hid (key_any ⟨op, nm, ⟨ng, nu, de⟩, args, so⟩ a b g c d e _ (hx.below hB0) hk (hE.all hB0))
  have hbx := Lib.hid (heap_alloc_new w (.cells #[.int .i64 op, .string nm, .bool ng, .slice a nu.length c, .slice b de.length d, .slice g args.length e, .int .i64 so] 38))
  have hplt := h.plt
  have hkey' := Lib.hid hkey
  generalize hKB : keyB ⟨op, nm, ⟨ng, nu, de⟩, args, so⟩ = kb at *
  have hKB' := Lib.hid hKB
  clear h hx hk hs hi hE hB0 hKB ha0 hne
  go_enter Tryz.func88, Tryz.ntmps88
  go_wp2_with fail
  refine hkc.out.mono ?_; rintro e1 w1 ⟨rfl, hb1⟩
  have B1 := hB0'.out.trans (hb1.mono hB0'.out.size)
  have B1' := Lib.hid B1
  have H1 := Lib.hid (h'.out.all B1)
  have X1 := Lib.hid ((hb1.block w.heap.size (by simp)).trans hbx.out)
  have ha := ha0'.out.all B1
  have ha' := Lib.hid ha
  have k1 : w1.cell? ⟨p, 1, none⟩ = some (.slice a1 T.nodes.length c1) := cell_p ha.blk 1
  have k3 : w1.cell? ⟨p, 3, none⟩ = some (.map (some m)) := cell_p ha.blk 3
  have k5 : w1.cell? ⟨p, 5, none⟩ = some (.int .i64 16384) := cell_p ha.blk 5
  have hlk := ha.ids.look_ok Tryz.underlying9 Tryz.underlying128 (zero_int w1) hkey
  clear hb1 B1 hkc hbx ha
  cases hid : T.ids kb with
  | some i =>
    have hv := @Lib.hid (putD T ⟨op, nm, ⟨ng, nu, de⟩, args, so⟩ = ((i, 0), T)) (put_some (by rw [hKB'.out]; exact hid))
    have e1 : mapF T.ids kb = some (.int .i64 i) := by unfold mapF; rw [hid]; rfl
    rw [e1] at hlk
    simp only [Option.getD_some, Option.isSome_some] at hlk
    clear hid e1 hkey
    go_wp2
    go_ret2
    refine ⟨by rw [hv.out]; rfl, by rw [hv.out]; exact H1.out, TStep.of_below hplt B1'.out⟩
  | none =>
    have hid' := Lib.hid hid
    have e1 : mapF T.ids kb = none := by unfold mapF; rw [hid]; rfl
    rw [e1] at hlk
    simp only [Option.getD_none, Option.isSome_none] at hlk
    clear hid e1 hkey
    by_cases hfull : 16384 ≤ T.nodes.length
    case pos =>
      have hv := @Lib.hid (putD T ⟨op, nm, ⟨ng, nu, de⟩, args, so⟩ = ((0, 4), T)) (put_full (by rw [hKB'.out]; exact hid'.out) hfull)
      have hfi : (16384 : Int) ≤ T.nodes.length := by omega
      go_wp2
      go_quiet (fail)
      go_wp2
      go_ret2
      refine ⟨by rw [hv.out]; rfl, by rw [hv.out]; exact H1.out.all ((Below.refl _ _).drewN _), TStep.of_below hplt (B1'.out.drewN _)⟩
    have hv := @Lib.hid (putD T ⟨op, nm, ⟨ng, nu, de⟩, args, so⟩ = (((T.nodes.length : Int), 0), { T with nodes := T.nodes ++ [⟨op, nm, ⟨ng, nu, de⟩, args, so⟩], nums := T.nums ++ [numberD T ⟨op, nm, ⟨ng, nu, de⟩, args, so⟩], ids := fun k => if k = kb then some (T.nodes.length : Int) else T.ids k, cnt := T.cnt + 1 })) (by rw [← hKB'.out]; exact put_new (by rw [hKB'.out]; exact hid'.out) hfull)
    have hfi : ¬ (16384 : Int) ≤ T.nodes.length := by omega
    have hfd : decide ((16384 : Int) ≤ T.nodes.length) = false := by simpa using hfi
    go_wp2
    go_quiet (fail)
    have H2 := Lib.hid (ha'.out.all ((Below.refl _ _).drewN nq))
    have X2 : (w1.drewN nq).heap[w.heap.size]? = some (.cells #[.int .i64 op, .string nm, .bool ng, .slice a nu.length c, .slice b de.length d, .slice g args.length e, .int .i64 so] 38 (0, 0)) := X1.out
    have B2 := Lib.hid (B1'.out.drewN nq)
    clear k1 k3 k5 hlk X1 H1 ha' B1' hfi hfd
    go_wp2_with fail
    generalize w1.drewN nq = w2 at *
    have hp2 : p < w2.heap.size := H2.out.plt
    have hx2 : w.heap.size < w2.heap.size := (Array.getElem?_eq_some_iff.1 X2).1
    have P2 := H2.out.blk
    have hown := Lib.hid (own_any ⟨op, nm, ⟨ng, nu, de⟩, args, so⟩ a b g c d e w2.drew (hx'.out.keep (fun k hl _ => B2.out.block k hl) B2.out.size) (Nat.lt_of_le_of_lt hk'.out.num (by decide)) (Nat.lt_of_le_of_lt hk'.out.den (by decide)) (Nat.lt_of_le_of_lt hk'.out.args (by decide)))
    obtain ⟨hn', hn, hn0, hn1, hn2⟩ := info_parts info_node
    obtain ⟨hm', hm, hm0, hm1, hm2⟩ := info_parts info_two
    have hv1p := Lib.hid (show Value.ownBlock (.slice a1 T.nodes.length c1) ≠ some p from fun e => ty_ne (by decide) (H2.out.nodes.ty p e) ⟨_, _, P2⟩)
    have hv2p := Lib.hid (show Value.ownBlock (.slice a2 T.nums.length c2) ≠ some p from fun e => ty_ne (by decide) (H2.out.nums.ty p e) ⟨_, _, P2⟩)
    have hv1x := Lib.hid (show Value.ownBlock (.slice a1 T.nodes.length c1) ≠ some w.heap.size from fun e => by have := (ha0'.out.nodes.lt _ e).2; omega)
    have hv2x := Lib.hid (show Value.ownBlock (.slice a2 T.nums.length c2) ≠ some w.heap.size from fun e => by have := (ha0'.out.nums.lt _ e).2; omega)
    have k1d : w2.drew.cell? ⟨p, 1, none⟩ = some (.slice a1 T.nodes.length c1) := cell_p (w := w2.drew) P2 1
    have hle : T.nodes.length < 16384 := by omega
    have hle2 : T.nums.length < 16384 := by rw [hs'.out.nn]; exact hle
    refine wp_region_tt (S := fun W => W.cell? ⟨p, 2, none⟩ = some (.slice a2 T.nums.length c2) ∧ W.heap[w.heap.size]? = w2.heap[w.heap.size]?) 22 (by kernel_rfl) (by kernel_rfl) ⟨cell_p (w := w2.drew) P2 2, rfl⟩ (fun hHeld => ?_)
    refine tt_take (i := 0) (v := _) (by rfl) (by decide +kernel) (by exact fun _ _ _ h => h) (Or.inl ⟨by rfl, by (intro W hSw; (try dsimp only at hSw); go_simp <;> with_reducible rfl)⟩) (by assumption) ?_
    (try simp only [Act.put, sA, sB, sC])
    refine tt_take (i := 1) (v := _) (by rfl) (by decide +kernel) (by exact fun _ _ _ h => h) (Or.inl ⟨by rfl, by (intro W hSw; (try dsimp only at hSw); go_simp <;> with_reducible rfl)⟩) (by assumption) ?_
    (try simp only [Act.put, sA, sB, sC])
    refine tt_take (i := 2) (v := _) (by rfl) (by decide +kernel) (by exact fun _ _ _ h => h) (Or.inl ⟨by rfl, by (intro W hSw; (try dsimp only at hSw); go_simp <;> with_reducible rfl)⟩) (by assumption) ?_
    (try simp only [Act.put, sA, sB, sC])
    refine tt_take (i := 3) (v := _) (by rfl) (by decide +kernel) (by exact fun _ _ _ h => h) (Or.inl ⟨by rfl, by (intro W hSw; (try dsimp only at hSw); go_simp <;> with_reducible rfl)⟩) (by assumption) ?_
    (try simp only [Act.put, sA, sB, sC])
    refine tt_take (i := 4) (v := _) (by rfl) (by decide +kernel) (by exact fun _ _ _ h => h) (Or.inl ⟨by rfl, by (intro W hSw; (try dsimp only at hSw); go_simp <;> with_reducible rfl)⟩) (by assumption) ?_
    (try simp only [Act.put, sA, sB, sC])
    refine tt_take (i := 6) (v := _) (by rfl) (by decide +kernel) (by exact fun _ _ _ h => h) (Or.inl ⟨by rfl, by (intro W hSw; have hq := hSw.2.trans X2; have y0 := cell_p hq 0; have y1 := cell_p hq 1; have y2 := cell_p hq 2; have y3 := cell_p hq 3; have y4 := cell_p hq 4; have y5 := cell_p hq 5; have y6 := cell_p hq 6; simp only [List.getElem?_toArray, List.getElem?_cons_succ, List.getElem?_cons_zero] at y0 y1 y2 y3 y4 y5 y6; go_simp <;> with_reducible rfl)⟩) (by assumption) ?_
    (try simp only [Act.put, sA, sB, sC])
    refine tt_take (i := 10) (v := _) (by rfl) (by decide +kernel) (by exact fun _ _ _ h => h) (Or.inl ⟨by rfl, by (intro W hSw; (try dsimp only at hSw); go_simp <;> with_reducible rfl)⟩) (by assumption) ?_
    (try simp only [Act.put, sA, sB, sC])
    refine tt_take (i := 11) (v := _) (by rfl) (by decide +kernel) (by exact fun _ _ _ h => h) (Or.inl ⟨by rfl, by (intro W hSw; (try dsimp only at hSw); go_simp <;> with_reducible rfl)⟩) (by assumption) ?_
    (try simp only [Act.put, sA, sB, sC])
    refine tt_take (i := 12) (v := _) (by rfl) (by decide +kernel) (by exact fun _ _ _ h => h) (Or.inl ⟨by rfl, by (intro W hSw; (try dsimp only at hSw); go_simp <;> with_reducible rfl)⟩) (by assumption) ?_
    (try simp only [Act.put, sA, sB, sC])
    refine tt_take (i := 13) (v := _) (by rfl) (by decide +kernel) (by exact fun _ _ _ h => h) (Or.inl ⟨by rfl, by (intro W hSw; have hq := hSw.1; go_simp <;> with_reducible rfl)⟩) (by assumption) ?_
    (try simp only [Act.put, sA, sB, sC])
    refine tt_take (i := 14) (v := _) (by rfl) (by decide +kernel) (by exact fun _ _ _ h => h) (Or.inl ⟨by rfl, by (intro W hSw; (try dsimp only at hSw); go_simp <;> with_reducible rfl)⟩) (by assumption) ?_
    (try simp only [Act.put, sA, sB, sC])
    refine tt_take (i := 15) (v := _) (by rfl) (by decide +kernel) (by exact fun _ _ _ h => h) (Or.inl ⟨by rfl, by (intro W hSw; have hq := hSw.2.trans X2; have y0 := cell_p hq 0; have y1 := cell_p hq 1; have y2 := cell_p hq 2; have y3 := cell_p hq 3; have y4 := cell_p hq 4; have y5 := cell_p hq 5; have y6 := cell_p hq 6; simp only [List.getElem?_toArray, List.getElem?_cons_succ, List.getElem?_cons_zero] at y0 y1 y2 y3 y4 y5 y6; go_simp <;> with_reducible rfl)⟩) (by assumption) ?_
    (try simp only [Act.put, sA, sB, sC])
    refine tt_ready (rs := [5, 7]) (by decide +kernel) (allT_cons (by rfl) (fun K hK => ?_) (allT_cons (by rfl) (fun K hK => ?_) allT_nil))
    · skip
      go_simp
      refine hK.out _ _ (by (assumption)) (fun hHeld2 => ?_)
      clear hK K
      (try simp only [Act.put, sA, sB, sC])
      refine tt_ready (rs := [7]) (by decide +kernel) (allT_cons (by rfl) (fun K hK => ?_) allT_nil)
      go_simp
      go_at_call 70
      refine hown.out.mono ?_
      rintro ee w3 ⟨a3, c3, b3, d3, g3, e3, rfl, n3, hb3⟩
      have B3 : Below w2.heap.size w2 w3 := (keep_drew w2).trans (hb3.mono (keep_drew w2).size)
      have N3 := Lib.hid (n3.mono (S' := DatX T.X w3) (fun k _ hk => ⟨fun e => by have := (ha0'.out.xlt k e).1; have := B2.out.size; have := hk.2; simp only [World.size_drew] at this; omega, hk.1⟩))
      have T3 := Lib.hid (H2.out.all B3)
      obtain ⟨css, oc, ol, oe⟩ := T3.out.nodes
      have OC := Lib.hid oc
      have OL := Lib.hid ol
      have OE := Lib.hid oe
      have hp3 : p < w3.heap.size := Nat.lt_of_lt_of_le hp2 B3.size
      have hx3 : w.heap.size < w3.heap.size := Nat.lt_of_lt_of_le hx2 B3.size
      have hB3 : B ≤ w3.heap.size := Nat.le_trans T3.out.bp (Nat.le_of_lt hp3)
      have S3 := And.intro (B3.block p hp2) (B3.block _ hx2)
      have k13 : w3.cell? ⟨p, 1, none⟩ = some (.slice a1 T.nodes.length c1) := cell_p (S3.1.trans P2) 1
      clear n3 hb3 oc ol oe
      dsimp only
      refine hK.out _ _ (by (exact ⟨cell_p (S3.1.trans P2) 2, S3.2⟩)) (fun hHeld3 => ?_)
      clear hK K
      (try simp only [Act.put, sA, sB, sC])
      refine tt_ready (rs := [8]) (by decide +kernel) (allT_cons (by rfl) (fun K hK => ?_) allT_nil)
      go_simp
      refine hK.out _ _ (by (exact ⟨cell_p ((Below.heap_alloc _ _ _ hp3).trans (S3.1.trans P2)) 2, (Below.heap_alloc _ _ _ hx3).trans S3.2⟩)) (fun hHeld4 => ?_)
      clear hK K
      (try simp only [Act.put, sA, sB, sC])
      refine tt_ready (rs := [9]) (by decide +kernel) (allT_cons (by rfl) (fun K hK => ?_) allT_nil)
      refine step_append_C (by rfl) (.tmp 37) (.tmp 40) (by rfl) Tryz.underlying49 hn hn0 hn1 hn2 rfl (by decide) (by rfl) (by rfl) (OC.out.alloc _) (Src.lit (CellsF.lit (us := [.int .i64 op, .string nm, .bool ng, .slice a3 nu.length c3, .slice b3 de.length d3, .slice g3 args.length e3, .int .i64 so]) rfl) rfl) node_one (by unfold maxLen; omega) (by omega) (by simp; omega) ?_
      intro v' w4 ho hg hl
      have G4 := Lib.hid (grown_alloc hg)
      have L4 := Lib.hid (loc_alloc hl)
      have O4 := Lib.hid (OwnR.push (R := repN) (S := DatX T.X w3) (x := ⟨op, nm, ⟨ng, nu, de⟩, args, so⟩) OL.out OE.out (repN_rd.2 ⟨a3, c3, b3, d3, g3, e3, rfl, N3.out⟩) ho (fun b hlt hb => (grown_alloc hg).block b hlt (fun e => DatB.ne hb.2 (by decide) (by decide) (OC.out.ty b e.symm))) (grown_alloc hg).size)
      obtain ⟨a4, c4, rfl, _, _⟩ := ho.slice
      have S4 : w4.heap[p]? = w2.heap[p]? ∧ w4.heap[w.heap.size]? = w2.heap[w.heap.size]? := ⟨(G4.out.block p hp3 (fun e => hv1p.out e.symm)).trans S3.1, (G4.out.block _ hx3 (fun e => hv1x.out e.symm)).trans S3.2⟩
      have D4 := Lib.hid (fun (k : Nat) (hk : DatB w k) => (G4.out.block k (Nat.lt_of_lt_of_le hk.lt (Nat.le_trans (Nat.le_of_lt hx2) B3.size)) (fun e => DatB.ne (hk.same ((B3.block k (Nat.lt_trans hk.lt hx2)).trans (B2.out.block k hk.lt))) (by decide) (by decide) (OC.out.ty k e.symm))).trans ((B3.block k (Nat.lt_trans hk.lt hx2)).trans (B2.out.block k hk.lt)))
      have M4 := Lib.hid (T3.out.nums.keep (w' := w4) (fun _ _ h => h.elim) (fun k hk => G4.out.block k (T3.out.nums.lt k hk).2 (fun e => own_ty_ne T3.out.nums T3.out.nodes (by decide) hk e.symm)) G4.out.size)
      have hs4 : w.heap.size ≤ w4.heap.size := Nat.le_trans (Nat.le_of_lt hx3) G4.out.size
      have P4 := cell_p (S4.1.trans P2) 2
      have hnum := Lib.hid (number_any p T ⟨op, nm, ⟨ng, nu, de⟩, args, so⟩ a b g c d e w4 ⟨B, a2, c2, P4, M4.out, Nat.lt_of_lt_of_le hp3 G4.out.size⟩ (hxa'.out.keep (fun k _ hk => D4.out k hk) hs4).toI hi'.out (Nat.lt_of_le_of_lt hk'.out.args (by decide)) hne'.out hs'.out.nn)
      clear ho hg hl P4
      refine hK.out _ _ (by (exact ⟨cell_p (S4.1.trans P2) 2, S4.2⟩)) (fun hHeld5 => ?_)
      clear hK K
      (try simp only [Act.put, sA, sB, sC])
      refine tt_ready (rs := [16]) (by decide +kernel) (allT_cons (by rfl) (fun K hK => ?_) allT_nil)
      go_simp
      go_at_call 137
      refine hnum.out.mono ?_
      rintro ee w5 ⟨rfl, hb5⟩
      generalize hR : numberD T ⟨op, nm, ⟨ng, nu, de⟩, args, so⟩ = R
      have hR' := Lib.hid hR
      clear hR
      obtain ⟨r0, r1⟩ := R
      have M5 := Lib.hid (M4.out.below hb5 (Nat.le_refl _))
      have O5 := Lib.hid ((O4.out.keep (fun b hlt hb => hb5.block b hlt) (fun k hk => hb5.block k (O4.out.lt k hk).2) hb5.size))
      have B5 := Lib.hid hb5
      obtain ⟨css2, oc2, ol2, oe2⟩ := M5.out
      have OC2 := Lib.hid oc2
      have OL2 := Lib.hid ol2
      have OE2 := Lib.hid oe2
      have hs5 := Nat.le_trans hs4 hb5.size
      have hB5 : B ≤ w5.heap.size := Nat.le_trans hB3 (Nat.le_trans G4.out.size hb5.size)
      have hp5 : p < w5.heap.size := Nat.lt_of_lt_of_le hp3 (Nat.le_trans G4.out.size hb5.size)
      have S5 := And.intro ((hb5.block p (Nat.lt_of_lt_of_le hp3 G4.out.size)).trans S4.1) ((hb5.block _ (Nat.lt_of_lt_of_le hx3 G4.out.size)).trans S4.2)
      clear hb5 oc2 ol2 oe2
      dsimp only
      refine hK.out _ _ (by (exact ⟨cell_p (S5.1.trans P2) 2, S5.2⟩)) (fun hHeld6 => ?_)
      clear hK K
      (try simp only [Act.put, sA, sB, sC])
      refine tt_ready (rs := [17]) (by decide +kernel) (allT_cons (by rfl) (fun K hK => ?_) allT_nil)
      go_simp
      refine hK.out _ _ (by (exact ⟨cell_p ((Below.heap_alloc _ _ _ hp5).trans (S5.1.trans P2)) 2, (Below.heap_alloc _ _ _ (Nat.lt_of_lt_of_le hx3 (Nat.le_trans G4.out.size B5.out.size))).trans S5.2⟩)) (fun hHeld7 => ?_)
      clear hK K
      (try simp only [Act.put, sA, sB, sC])
      refine tt_ready (rs := [18]) (by decide +kernel) (allT_cons (by rfl) (fun K hK => ?_) allT_nil)
      refine step_append_C (by rfl) (.tmp 45) (.tmp 49) (by rfl) Tryz.underlying127 hm hm0 hm1 hm2 rfl (by decide) (by rfl) (by rfl) (OC2.out.alloc _) (Src.lit (CellsF.lit (us := [.bool r0, .bool r1]) rfl) rfl) two_one (by unfold maxLen; omega) (by omega) (by simp; omega) ?_
      intro v' w6 ho hg hl
      have G6 := Lib.hid (grown_alloc hg)
      have L6 := Lib.hid (loc_alloc hl)
      have O6 := Lib.hid (OwnR.push (R := repP) (S := fun _ => False) (x := (r0, r1)) OL2.out OE2.out (repP_rd.2 rfl) ho (fun _ _ h => h.elim) (grown_alloc hg).size)
      obtain ⟨a6, c6, rfl, _, _⟩ := ho.slice
      have S6 : w6.heap[p]? = w2.heap[p]? ∧ w6.heap[w.heap.size]? = w2.heap[w.heap.size]? := ⟨(G6.out.block p hp5 (fun e => hv2p.out e.symm)).trans S5.1, (G6.out.block _ (Nat.lt_of_lt_of_le hx3 (Nat.le_trans G4.out.size B5.out.size)) (fun e => hv2x.out e.symm)).trans S5.2⟩
      have k16 : w6.cell? ⟨p, 1, none⟩ = some (.slice a1 T.nodes.length c1) := cell_p (S6.1.trans P2) 1
      have k26 : w6.cell? ⟨p, 2, none⟩ = some (.slice a2 T.nums.length c2) := cell_p (S6.1.trans P2) 2
      have f26 : w6.frozen? ⟨p, 2, none⟩ = false := frz_p (S6.1.trans P2) 2
      have f16 : w6.frozen? ⟨p, 1, none⟩ = false := frz_p (S6.1.trans P2) 1
      clear ho hg hl
      refine hK.out _ _ (by (exact ⟨cell_p (S6.1.trans P2) 2, S6.2⟩)) (fun hHeld8 => ?_)
      clear hK K
      (try simp only [Act.put, sA, sB, sC])
      refine tt_take (i := 19) (v := _) (by rfl) (by decide +kernel) (by exact fun _ _ _ h => h) (Or.inl ⟨by rfl, by (intro W hSw; (try dsimp only at hSw); go_simp <;> with_reducible rfl)⟩) (by assumption) ?_
      (try simp only [Act.put, sA, sB, sC])
      refine tt_take (i := 20) (v := _) (by rfl) (by decide +kernel) (by exact fun _ _ _ h => h) (Or.inl ⟨by rfl, by (intro W hSw; (try dsimp only at hSw); go_simp <;> with_reducible rfl)⟩) (by assumption) ?_
      (try simp only [Act.put, sA, sB, sC])
      refine tt_ready (rs := [21]) (by decide +kernel) (allT_cons (by rfl) (fun K hK => ?_) allT_nil)
      go_simp
      refine hK.out _ _ (by (exact ⟨(World.cell?_setCell_other _ _ _ _ (show (⟨p, 1, none⟩ : Addr) ≠ ⟨p, 2, none⟩ by simp)).trans (cell_p (S6.1.trans P2) 2), by rw [Below.heap_setCell _ _ _ _ (by simp; omega)]; exact S6.2⟩)) (fun hHeld9 => ?_)
      clear hK K
      (try simp only [Act.put, sA, sB, sC])
      refine tt_tail (by decide +kernel) ?_
      simp only [List.drop_succ_cons, List.drop_zero]
      have h36 := Lib.hid (fun (k : Nat) (hk : k < w3.heap.size) (e1 : Value.ownBlock (.slice a1 T.nodes.length c1) ≠ some k) (e2 : Value.ownBlock (.slice a2 T.nums.length c2) ≠ some k) => ((G6.out.block k (Nat.lt_of_lt_of_le hk (Nat.le_trans G4.out.size B5.out.size)) (fun e => e2 e.symm)).trans ((B5.out.block k (Nat.lt_of_lt_of_le hk G4.out.size)).trans (G4.out.block k hk (fun e => e1 e.symm))) : w6.heap[k]? = w3.heap[k]?))
      have D36 := Lib.hid (fun (k : Nat) (hk : DatB w3 k) => h36.out k hk.lt (fun e => DatB.ne hk (by decide) (by decide) (T3.out.nodes.ty k e)) (fun e => DatB.ne hk (by decide) (by decide) (T3.out.nums.ty k e)))
      have O56 := Lib.hid ((O5.out.keep (w' := w6) (fun b _ hb => by
        have hbl := hb.2.lt
        exact (D36.out b hb.2).trans ((B5.out.block b (Nat.lt_of_lt_of_le hbl G4.out.size)).trans (G4.out.block b hbl (fun e => DatB.ne hb.2 (by decide) (by decide) (T3.out.nodes.ty b e.symm)))).symm) (fun k hk => G6.out.block k (O5.out.lt k hk).2 (fun e => own_ty_ne O5.out M5.out (by decide) hk e.symm)) G6.out.size).mono (S' := DatX T.X w6) (fun b _ hb => hb.same (D36.out b hb.2)))
      obtain ⟨tV, sV⟩ := H2.out.put (W := w6) (v1' := .slice a4 (T.nodes.length + 1) c4) (v2' := .slice a6 (T.nums.length + 1) c6) (G6.out.os.trans (B5.out.os.trans (G4.out.os.trans B3.os))) (G6.out.tape.trans (B5.out.tape.trans (G4.out.tape.trans B3.tape))) (G6.out.output.trans (B5.out.output.trans (G4.out.output.trans B3.output))) (Nat.le_trans B3.size (Nat.le_trans G4.out.size (Nat.le_trans B5.out.size G6.out.size)))
        (fun k hk e1 e2 => (h36.out k (Nat.lt_of_lt_of_le hk B3.size) e1 e2).trans (B3.block k hk)) (L4.out.imp id fun hh k hk => Nat.le_trans B3.size (hh k hk)) (L6.out.imp id fun hh k hk => Nat.le_trans B3.size (Nat.le_trans G4.out.size (Nat.le_trans B5.out.size (hh k hk)))) O56.out O6.out
      have TV := Lib.hid tV
      have SV := Lib.hid ((TStep.of_below hplt B2.out).trans sV)
      clear tV sV
      go_wp2
      clear k16 f16 k26 f26 h36 D36 O56 O6 L6 G6 S6 B5 O5 M5 S5 OC2 OL2 OE2 S4 O4 L4 G4 D4 M4 hnum S3 B3 N3 T3 OC OL OE k13 k1d hHeld H2 X2 P2 hown hv1p hv2p hv1x hv2x
      generalize (w6.setCell ⟨p, 1, none⟩ (.slice a4 (T.nodes.length + 1) c4)).setCell ⟨p, 2, none⟩ (.slice a6 (T.nums.length + 1) c6) = V at *
      refine wp_tail 11 (by kernel_rfl) (by kernel_rfl) ?_
      intro W hW
      have TW : TermAt B p { T with nodes := T.nodes ++ [⟨op, nm, ⟨ng, nu, de⟩, args, so⟩], nums := T.nums ++ [(r0, r1)] } W q (.slice a4 (T.nodes.length + 1) c4) (.slice a6 (T.nums.length + 1) c6) m := by rw [hW]; exact TV.out.all (keep_drew V)
      have SW : TStep p w W := by rw [hW]; exact SV.out.trans (.of_below TV.out.plt (keep_drew V))
      have n3 : W.cell? ⟨p, 3, none⟩ = some (.map (some m)) := cell_p TW.blk 3
      have n1 : W.cell? ⟨p, 1, none⟩ = some (.slice a4 (T.nodes.length + 1) c4) := cell_p TW.blk 1
      have TW' := Lib.hid TW
      have SW' := Lib.hid SW
      clear hW TW SW TV SV
      simp only [List.take_succ_cons, List.take_zero, List.drop_succ_cons, List.drop_zero]
      repeat still_step
      refine wpStill_nil ?_
      obtain ⟨w8, hst, m8, mt8⟩ := TW'.out.ids.store Tryz.underlying9 Tryz.underlying128 (by have := hs'.out.cn; show T.cnt < _; unfold maxLen; omega) hkey'.out (.int .i64 (T.nodes.length : Int))
      have m9 : MapS Tryz.prog 9 m (T.cnt + 1) (mapF fun k => if k = kb then some (T.nodes.length : Int) else T.ids k) w8 := by
        have e : updS (mapF T.ids) kb (some (.int .i64 (T.nodes.length : Int))) = mapF fun k => if k = kb then some (T.nodes.length : Int) else T.ids k := by
          funext k
          unfold updS mapF
          by_cases hkk : k = kb
          · simp [hkk]
          · simp [hkk]
        rw [← e]
        have e2 : (mapF T.ids kb).isSome = false := by unfold mapF; rw [hid'.out]; rfl
        have m8' := m8
        dsimp only at m8'
        rw [e2] at m8'
        exact m8'
      obtain ⟨t8, s8⟩ := TW'.out.setIds mt8 m9
      have lk8 := t8.ids.look Tryz.underlying9 Tryz.underlying128 (zero_int w8) hkey'.out
      have e8 : mapF (fun k => if k = kb then some (T.nodes.length : Int) else T.ids k) kb = some (.int .i64 (T.nodes.length : Int)) := by simp [mapF]
      rw [e8] at lk8
      simp only [Option.getD_some] at lk8
      have k83 : w8.cell? ⟨p, 3, none⟩ = some (.map (some m)) := cell_p t8.blk 3
      have T8 := Lib.hid t8
      have S8 := Lib.hid (SW'.out.trans s8)
      clear m8 mt8 m9 t8 s8 e8 n3 n1 TW' SW'
      go_wp2
      go_ret2
      refine ⟨by rw [hv.out]; rfl, ?_, S8.out⟩
      rw [hv.out, hR'.out]
      exact ⟨q, _, _, m, T8.out⟩
    · skip
      go_simp
      go_at_call 70
      refine hown.out.mono ?_
      rintro ee w3 ⟨a3, c3, b3, d3, g3, e3, rfl, n3, hb3⟩
      have B3 : Below w2.heap.size w2 w3 := (keep_drew w2).trans (hb3.mono (keep_drew w2).size)
      have N3 := Lib.hid (n3.mono (S' := DatX T.X w3) (fun k _ hk => ⟨fun e => by have := (ha0'.out.xlt k e).1; have := B2.out.size; have := hk.2; simp only [World.size_drew] at this; omega, hk.1⟩))
      have T3 := Lib.hid (H2.out.all B3)
      obtain ⟨css, oc, ol, oe⟩ := T3.out.nodes
      have OC := Lib.hid oc
      have OL := Lib.hid ol
      have OE := Lib.hid oe
      have hp3 : p < w3.heap.size := Nat.lt_of_lt_of_le hp2 B3.size
      have hx3 : w.heap.size < w3.heap.size := Nat.lt_of_lt_of_le hx2 B3.size
      have hB3 : B ≤ w3.heap.size := Nat.le_trans T3.out.bp (Nat.le_of_lt hp3)
      have S3 := And.intro (B3.block p hp2) (B3.block _ hx2)
      have k13 : w3.cell? ⟨p, 1, none⟩ = some (.slice a1 T.nodes.length c1) := cell_p (S3.1.trans P2) 1
      clear n3 hb3 oc ol oe
      dsimp only
      refine hK.out _ _ (by (exact ⟨cell_p (S3.1.trans P2) 2, S3.2⟩)) (fun hHeld2 => ?_)
      clear hK K
      (try simp only [Act.put, sA, sB, sC])
      refine tt_ready (rs := [5, 8]) (by decide +kernel) (allT_cons (by rfl) (fun K hK => ?_) (allT_cons (by rfl) (fun K hK => ?_) allT_nil))
      · skip
        go_simp
        refine hK.out _ _ (by (assumption)) (fun hHeld3 => ?_)
        clear hK K
        (try simp only [Act.put, sA, sB, sC])
        refine tt_ready (rs := [8]) (by decide +kernel) (allT_cons (by rfl) (fun K hK => ?_) allT_nil)
        go_simp
        refine hK.out _ _ (by (exact ⟨cell_p ((Below.heap_alloc _ _ _ hp3).trans (S3.1.trans P2)) 2, (Below.heap_alloc _ _ _ hx3).trans S3.2⟩)) (fun hHeld4 => ?_)
        clear hK K
        (try simp only [Act.put, sA, sB, sC])
        refine tt_ready (rs := [9]) (by decide +kernel) (allT_cons (by rfl) (fun K hK => ?_) allT_nil)
        refine step_append_C (by rfl) (.tmp 37) (.tmp 40) (by rfl) Tryz.underlying49 hn hn0 hn1 hn2 rfl (by decide) (by rfl) (by rfl) (OC.out.alloc _) (Src.lit (CellsF.lit (us := [.int .i64 op, .string nm, .bool ng, .slice a3 nu.length c3, .slice b3 de.length d3, .slice g3 args.length e3, .int .i64 so]) rfl) rfl) node_one (by unfold maxLen; omega) (by omega) (by simp; omega) ?_
        intro v' w4 ho hg hl
        have G4 := Lib.hid (grown_alloc hg)
        have L4 := Lib.hid (loc_alloc hl)
        have O4 := Lib.hid (OwnR.push (R := repN) (S := DatX T.X w3) (x := ⟨op, nm, ⟨ng, nu, de⟩, args, so⟩) OL.out OE.out (repN_rd.2 ⟨a3, c3, b3, d3, g3, e3, rfl, N3.out⟩) ho (fun b hlt hb => (grown_alloc hg).block b hlt (fun e => DatB.ne hb.2 (by decide) (by decide) (OC.out.ty b e.symm))) (grown_alloc hg).size)
        obtain ⟨a4, c4, rfl, _, _⟩ := ho.slice
        have S4 : w4.heap[p]? = w2.heap[p]? ∧ w4.heap[w.heap.size]? = w2.heap[w.heap.size]? := ⟨(G4.out.block p hp3 (fun e => hv1p.out e.symm)).trans S3.1, (G4.out.block _ hx3 (fun e => hv1x.out e.symm)).trans S3.2⟩
        have D4 := Lib.hid (fun (k : Nat) (hk : DatB w k) => (G4.out.block k (Nat.lt_of_lt_of_le hk.lt (Nat.le_trans (Nat.le_of_lt hx2) B3.size)) (fun e => DatB.ne (hk.same ((B3.block k (Nat.lt_trans hk.lt hx2)).trans (B2.out.block k hk.lt))) (by decide) (by decide) (OC.out.ty k e.symm))).trans ((B3.block k (Nat.lt_trans hk.lt hx2)).trans (B2.out.block k hk.lt)))
        have M4 := Lib.hid (T3.out.nums.keep (w' := w4) (fun _ _ h => h.elim) (fun k hk => G4.out.block k (T3.out.nums.lt k hk).2 (fun e => own_ty_ne T3.out.nums T3.out.nodes (by decide) hk e.symm)) G4.out.size)
        have hs4 : w.heap.size ≤ w4.heap.size := Nat.le_trans (Nat.le_of_lt hx3) G4.out.size
        have P4 := cell_p (S4.1.trans P2) 2
        have hnum := Lib.hid (number_any p T ⟨op, nm, ⟨ng, nu, de⟩, args, so⟩ a b g c d e w4 ⟨B, a2, c2, P4, M4.out, Nat.lt_of_lt_of_le hp3 G4.out.size⟩ (hxa'.out.keep (fun k _ hk => D4.out k hk) hs4).toI hi'.out (Nat.lt_of_le_of_lt hk'.out.args (by decide)) hne'.out hs'.out.nn)
        clear ho hg hl P4
        refine hK.out _ _ (by (exact ⟨cell_p (S4.1.trans P2) 2, S4.2⟩)) (fun hHeld5 => ?_)
        clear hK K
        (try simp only [Act.put, sA, sB, sC])
        refine tt_ready (rs := [16]) (by decide +kernel) (allT_cons (by rfl) (fun K hK => ?_) allT_nil)
        go_simp
        go_at_call 137
        refine hnum.out.mono ?_
        rintro ee w5 ⟨rfl, hb5⟩
        generalize hR : numberD T ⟨op, nm, ⟨ng, nu, de⟩, args, so⟩ = R
        have hR' := Lib.hid hR
        clear hR
        obtain ⟨r0, r1⟩ := R
        have M5 := Lib.hid (M4.out.below hb5 (Nat.le_refl _))
        have O5 := Lib.hid ((O4.out.keep (fun b hlt hb => hb5.block b hlt) (fun k hk => hb5.block k (O4.out.lt k hk).2) hb5.size))
        have B5 := Lib.hid hb5
        obtain ⟨css2, oc2, ol2, oe2⟩ := M5.out
        have OC2 := Lib.hid oc2
        have OL2 := Lib.hid ol2
        have OE2 := Lib.hid oe2
        have hs5 := Nat.le_trans hs4 hb5.size
        have hB5 : B ≤ w5.heap.size := Nat.le_trans hB3 (Nat.le_trans G4.out.size hb5.size)
        have hp5 : p < w5.heap.size := Nat.lt_of_lt_of_le hp3 (Nat.le_trans G4.out.size hb5.size)
        have S5 := And.intro ((hb5.block p (Nat.lt_of_lt_of_le hp3 G4.out.size)).trans S4.1) ((hb5.block _ (Nat.lt_of_lt_of_le hx3 G4.out.size)).trans S4.2)
        clear hb5 oc2 ol2 oe2
        dsimp only
        refine hK.out _ _ (by (exact ⟨cell_p (S5.1.trans P2) 2, S5.2⟩)) (fun hHeld6 => ?_)
        clear hK K
        (try simp only [Act.put, sA, sB, sC])
        refine tt_ready (rs := [17]) (by decide +kernel) (allT_cons (by rfl) (fun K hK => ?_) allT_nil)
        go_simp
        refine hK.out _ _ (by (exact ⟨cell_p ((Below.heap_alloc _ _ _ hp5).trans (S5.1.trans P2)) 2, (Below.heap_alloc _ _ _ (Nat.lt_of_lt_of_le hx3 (Nat.le_trans G4.out.size B5.out.size))).trans S5.2⟩)) (fun hHeld7 => ?_)
        clear hK K
        (try simp only [Act.put, sA, sB, sC])
        refine tt_ready (rs := [18]) (by decide +kernel) (allT_cons (by rfl) (fun K hK => ?_) allT_nil)
        refine step_append_C (by rfl) (.tmp 45) (.tmp 49) (by rfl) Tryz.underlying127 hm hm0 hm1 hm2 rfl (by decide) (by rfl) (by rfl) (OC2.out.alloc _) (Src.lit (CellsF.lit (us := [.bool r0, .bool r1]) rfl) rfl) two_one (by unfold maxLen; omega) (by omega) (by simp; omega) ?_
        intro v' w6 ho hg hl
        have G6 := Lib.hid (grown_alloc hg)
        have L6 := Lib.hid (loc_alloc hl)
        have O6 := Lib.hid (OwnR.push (R := repP) (S := fun _ => False) (x := (r0, r1)) OL2.out OE2.out (repP_rd.2 rfl) ho (fun _ _ h => h.elim) (grown_alloc hg).size)
        obtain ⟨a6, c6, rfl, _, _⟩ := ho.slice
        have S6 : w6.heap[p]? = w2.heap[p]? ∧ w6.heap[w.heap.size]? = w2.heap[w.heap.size]? := ⟨(G6.out.block p hp5 (fun e => hv2p.out e.symm)).trans S5.1, (G6.out.block _ (Nat.lt_of_lt_of_le hx3 (Nat.le_trans G4.out.size B5.out.size)) (fun e => hv2x.out e.symm)).trans S5.2⟩
        have k16 : w6.cell? ⟨p, 1, none⟩ = some (.slice a1 T.nodes.length c1) := cell_p (S6.1.trans P2) 1
        have k26 : w6.cell? ⟨p, 2, none⟩ = some (.slice a2 T.nums.length c2) := cell_p (S6.1.trans P2) 2
        have f26 : w6.frozen? ⟨p, 2, none⟩ = false := frz_p (S6.1.trans P2) 2
        have f16 : w6.frozen? ⟨p, 1, none⟩ = false := frz_p (S6.1.trans P2) 1
        clear ho hg hl
        refine hK.out _ _ (by (exact ⟨cell_p (S6.1.trans P2) 2, S6.2⟩)) (fun hHeld8 => ?_)
        clear hK K
        (try simp only [Act.put, sA, sB, sC])
        refine tt_take (i := 19) (v := _) (by rfl) (by decide +kernel) (by exact fun _ _ _ h => h) (Or.inl ⟨by rfl, by (intro W hSw; (try dsimp only at hSw); go_simp <;> with_reducible rfl)⟩) (by assumption) ?_
        (try simp only [Act.put, sA, sB, sC])
        refine tt_take (i := 20) (v := _) (by rfl) (by decide +kernel) (by exact fun _ _ _ h => h) (Or.inl ⟨by rfl, by (intro W hSw; (try dsimp only at hSw); go_simp <;> with_reducible rfl)⟩) (by assumption) ?_
        (try simp only [Act.put, sA, sB, sC])
        refine tt_ready (rs := [21]) (by decide +kernel) (allT_cons (by rfl) (fun K hK => ?_) allT_nil)
        go_simp
        refine hK.out _ _ (by (exact ⟨(World.cell?_setCell_other _ _ _ _ (show (⟨p, 1, none⟩ : Addr) ≠ ⟨p, 2, none⟩ by simp)).trans (cell_p (S6.1.trans P2) 2), by rw [Below.heap_setCell _ _ _ _ (by simp; omega)]; exact S6.2⟩)) (fun hHeld9 => ?_)
        clear hK K
        (try simp only [Act.put, sA, sB, sC])
        refine tt_tail (by decide +kernel) ?_
        simp only [List.drop_succ_cons, List.drop_zero]
        have h36 := Lib.hid (fun (k : Nat) (hk : k < w3.heap.size) (e1 : Value.ownBlock (.slice a1 T.nodes.length c1) ≠ some k) (e2 : Value.ownBlock (.slice a2 T.nums.length c2) ≠ some k) => ((G6.out.block k (Nat.lt_of_lt_of_le hk (Nat.le_trans G4.out.size B5.out.size)) (fun e => e2 e.symm)).trans ((B5.out.block k (Nat.lt_of_lt_of_le hk G4.out.size)).trans (G4.out.block k hk (fun e => e1 e.symm))) : w6.heap[k]? = w3.heap[k]?))
        have D36 := Lib.hid (fun (k : Nat) (hk : DatB w3 k) => h36.out k hk.lt (fun e => DatB.ne hk (by decide) (by decide) (T3.out.nodes.ty k e)) (fun e => DatB.ne hk (by decide) (by decide) (T3.out.nums.ty k e)))
        have O56 := Lib.hid ((O5.out.keep (w' := w6) (fun b _ hb => by
          have hbl := hb.2.lt
          exact (D36.out b hb.2).trans ((B5.out.block b (Nat.lt_of_lt_of_le hbl G4.out.size)).trans (G4.out.block b hbl (fun e => DatB.ne hb.2 (by decide) (by decide) (T3.out.nodes.ty b e.symm)))).symm) (fun k hk => G6.out.block k (O5.out.lt k hk).2 (fun e => own_ty_ne O5.out M5.out (by decide) hk e.symm)) G6.out.size).mono (S' := DatX T.X w6) (fun b _ hb => hb.same (D36.out b hb.2)))
        obtain ⟨tV, sV⟩ := H2.out.put (W := w6) (v1' := .slice a4 (T.nodes.length + 1) c4) (v2' := .slice a6 (T.nums.length + 1) c6) (G6.out.os.trans (B5.out.os.trans (G4.out.os.trans B3.os))) (G6.out.tape.trans (B5.out.tape.trans (G4.out.tape.trans B3.tape))) (G6.out.output.trans (B5.out.output.trans (G4.out.output.trans B3.output))) (Nat.le_trans B3.size (Nat.le_trans G4.out.size (Nat.le_trans B5.out.size G6.out.size)))
          (fun k hk e1 e2 => (h36.out k (Nat.lt_of_lt_of_le hk B3.size) e1 e2).trans (B3.block k hk)) (L4.out.imp id fun hh k hk => Nat.le_trans B3.size (hh k hk)) (L6.out.imp id fun hh k hk => Nat.le_trans B3.size (Nat.le_trans G4.out.size (Nat.le_trans B5.out.size (hh k hk)))) O56.out O6.out
        have TV := Lib.hid tV
        have SV := Lib.hid ((TStep.of_below hplt B2.out).trans sV)
        clear tV sV
        go_wp2
        clear k16 f16 k26 f26 h36 D36 O56 O6 L6 G6 S6 B5 O5 M5 S5 OC2 OL2 OE2 S4 O4 L4 G4 D4 M4 hnum S3 B3 N3 T3 OC OL OE k13 k1d hHeld H2 X2 P2 hown hv1p hv2p hv1x hv2x
        generalize (w6.setCell ⟨p, 1, none⟩ (.slice a4 (T.nodes.length + 1) c4)).setCell ⟨p, 2, none⟩ (.slice a6 (T.nums.length + 1) c6) = V at *
        refine wp_tail 11 (by kernel_rfl) (by kernel_rfl) ?_
        intro W hW
        have TW : TermAt B p { T with nodes := T.nodes ++ [⟨op, nm, ⟨ng, nu, de⟩, args, so⟩], nums := T.nums ++ [(r0, r1)] } W q (.slice a4 (T.nodes.length + 1) c4) (.slice a6 (T.nums.length + 1) c6) m := by rw [hW]; exact TV.out.all (keep_drew V)
        have SW : TStep p w W := by rw [hW]; exact SV.out.trans (.of_below TV.out.plt (keep_drew V))
        have n3 : W.cell? ⟨p, 3, none⟩ = some (.map (some m)) := cell_p TW.blk 3
        have n1 : W.cell? ⟨p, 1, none⟩ = some (.slice a4 (T.nodes.length + 1) c4) := cell_p TW.blk 1
        have TW' := Lib.hid TW
        have SW' := Lib.hid SW
        clear hW TW SW TV SV
        simp only [List.take_succ_cons, List.take_zero, List.drop_succ_cons, List.drop_zero]
        repeat still_step
        refine wpStill_nil ?_
        obtain ⟨w8, hst, m8, mt8⟩ := TW'.out.ids.store Tryz.underlying9 Tryz.underlying128 (by have := hs'.out.cn; show T.cnt < _; unfold maxLen; omega) hkey'.out (.int .i64 (T.nodes.length : Int))
        have m9 : MapS Tryz.prog 9 m (T.cnt + 1) (mapF fun k => if k = kb then some (T.nodes.length : Int) else T.ids k) w8 := by
          have e : updS (mapF T.ids) kb (some (.int .i64 (T.nodes.length : Int))) = mapF fun k => if k = kb then some (T.nodes.length : Int) else T.ids k := by
            funext k
            unfold updS mapF
            by_cases hkk : k = kb
            · simp [hkk]
            · simp [hkk]
          rw [← e]
          have e2 : (mapF T.ids kb).isSome = false := by unfold mapF; rw [hid'.out]; rfl
          have m8' := m8
          dsimp only at m8'
          rw [e2] at m8'
          exact m8'
        obtain ⟨t8, s8⟩ := TW'.out.setIds mt8 m9
        have lk8 := t8.ids.look Tryz.underlying9 Tryz.underlying128 (zero_int w8) hkey'.out
        have e8 : mapF (fun k => if k = kb then some (T.nodes.length : Int) else T.ids k) kb = some (.int .i64 (T.nodes.length : Int)) := by simp [mapF]
        rw [e8] at lk8
        simp only [Option.getD_some] at lk8
        have k83 : w8.cell? ⟨p, 3, none⟩ = some (.map (some m)) := cell_p t8.blk 3
        have T8 := Lib.hid t8
        have S8 := Lib.hid (SW'.out.trans s8)
        clear m8 mt8 m9 t8 s8 e8 n3 n1 TW' SW'
        go_wp2
        go_ret2
        refine ⟨by rw [hv.out]; rfl, ?_, S8.out⟩
        rw [hv.out, hR'.out]
        exact ⟨q, _, _, m, T8.out⟩
      · skip
        go_simp
        refine hK.out _ _ (by (exact ⟨cell_p ((Below.heap_alloc _ _ _ hp3).trans (S3.1.trans P2)) 2, (Below.heap_alloc _ _ _ hx3).trans S3.2⟩)) (fun hHeld3 => ?_)
        clear hK K
        (try simp only [Act.put, sA, sB, sC])
        refine tt_ready (rs := [5]) (by decide +kernel) (allT_cons (by rfl) (fun K hK => ?_) allT_nil)
        go_simp
        refine hK.out _ _ (by (assumption)) (fun hHeld4 => ?_)
        clear hK K
        (try simp only [Act.put, sA, sB, sC])
        refine tt_ready (rs := [9]) (by decide +kernel) (allT_cons (by rfl) (fun K hK => ?_) allT_nil)
        refine step_append_C (by rfl) (.tmp 37) (.tmp 40) (by rfl) Tryz.underlying49 hn hn0 hn1 hn2 rfl (by decide) (by rfl) (by rfl) (OC.out.alloc _) (Src.lit (CellsF.lit (us := [.int .i64 op, .string nm, .bool ng, .slice a3 nu.length c3, .slice b3 de.length d3, .slice g3 args.length e3, .int .i64 so]) rfl) rfl) node_one (by unfold maxLen; omega) (by omega) (by simp; omega) ?_
        intro v' w4 ho hg hl
        have G4 := Lib.hid (grown_alloc hg)
        have L4 := Lib.hid (loc_alloc hl)
        have O4 := Lib.hid (OwnR.push (R := repN) (S := DatX T.X w3) (x := ⟨op, nm, ⟨ng, nu, de⟩, args, so⟩) OL.out OE.out (repN_rd.2 ⟨a3, c3, b3, d3, g3, e3, rfl, N3.out⟩) ho (fun b hlt hb => (grown_alloc hg).block b hlt (fun e => DatB.ne hb.2 (by decide) (by decide) (OC.out.ty b e.symm))) (grown_alloc hg).size)
        obtain ⟨a4, c4, rfl, _, _⟩ := ho.slice
        have S4 : w4.heap[p]? = w2.heap[p]? ∧ w4.heap[w.heap.size]? = w2.heap[w.heap.size]? := ⟨(G4.out.block p hp3 (fun e => hv1p.out e.symm)).trans S3.1, (G4.out.block _ hx3 (fun e => hv1x.out e.symm)).trans S3.2⟩
        have D4 := Lib.hid (fun (k : Nat) (hk : DatB w k) => (G4.out.block k (Nat.lt_of_lt_of_le hk.lt (Nat.le_trans (Nat.le_of_lt hx2) B3.size)) (fun e => DatB.ne (hk.same ((B3.block k (Nat.lt_trans hk.lt hx2)).trans (B2.out.block k hk.lt))) (by decide) (by decide) (OC.out.ty k e.symm))).trans ((B3.block k (Nat.lt_trans hk.lt hx2)).trans (B2.out.block k hk.lt)))
        have M4 := Lib.hid (T3.out.nums.keep (w' := w4) (fun _ _ h => h.elim) (fun k hk => G4.out.block k (T3.out.nums.lt k hk).2 (fun e => own_ty_ne T3.out.nums T3.out.nodes (by decide) hk e.symm)) G4.out.size)
        have hs4 : w.heap.size ≤ w4.heap.size := Nat.le_trans (Nat.le_of_lt hx3) G4.out.size
        have P4 := cell_p (S4.1.trans P2) 2
        have hnum := Lib.hid (number_any p T ⟨op, nm, ⟨ng, nu, de⟩, args, so⟩ a b g c d e w4 ⟨B, a2, c2, P4, M4.out, Nat.lt_of_lt_of_le hp3 G4.out.size⟩ (hxa'.out.keep (fun k _ hk => D4.out k hk) hs4).toI hi'.out (Nat.lt_of_le_of_lt hk'.out.args (by decide)) hne'.out hs'.out.nn)
        clear ho hg hl P4
        refine hK.out _ _ (by (exact ⟨cell_p (S4.1.trans P2) 2, S4.2⟩)) (fun hHeld5 => ?_)
        clear hK K
        (try simp only [Act.put, sA, sB, sC])
        refine tt_ready (rs := [16]) (by decide +kernel) (allT_cons (by rfl) (fun K hK => ?_) allT_nil)
        go_simp
        go_at_call 137
        refine hnum.out.mono ?_
        rintro ee w5 ⟨rfl, hb5⟩
        generalize hR : numberD T ⟨op, nm, ⟨ng, nu, de⟩, args, so⟩ = R
        have hR' := Lib.hid hR
        clear hR
        obtain ⟨r0, r1⟩ := R
        have M5 := Lib.hid (M4.out.below hb5 (Nat.le_refl _))
        have O5 := Lib.hid ((O4.out.keep (fun b hlt hb => hb5.block b hlt) (fun k hk => hb5.block k (O4.out.lt k hk).2) hb5.size))
        have B5 := Lib.hid hb5
        obtain ⟨css2, oc2, ol2, oe2⟩ := M5.out
        have OC2 := Lib.hid oc2
        have OL2 := Lib.hid ol2
        have OE2 := Lib.hid oe2
        have hs5 := Nat.le_trans hs4 hb5.size
        have hB5 : B ≤ w5.heap.size := Nat.le_trans hB3 (Nat.le_trans G4.out.size hb5.size)
        have hp5 : p < w5.heap.size := Nat.lt_of_lt_of_le hp3 (Nat.le_trans G4.out.size hb5.size)
        have S5 := And.intro ((hb5.block p (Nat.lt_of_lt_of_le hp3 G4.out.size)).trans S4.1) ((hb5.block _ (Nat.lt_of_lt_of_le hx3 G4.out.size)).trans S4.2)
        clear hb5 oc2 ol2 oe2
        dsimp only
        refine hK.out _ _ (by (exact ⟨cell_p (S5.1.trans P2) 2, S5.2⟩)) (fun hHeld6 => ?_)
        clear hK K
        (try simp only [Act.put, sA, sB, sC])
        refine tt_ready (rs := [17]) (by decide +kernel) (allT_cons (by rfl) (fun K hK => ?_) allT_nil)
        go_simp
        refine hK.out _ _ (by (exact ⟨cell_p ((Below.heap_alloc _ _ _ hp5).trans (S5.1.trans P2)) 2, (Below.heap_alloc _ _ _ (Nat.lt_of_lt_of_le hx3 (Nat.le_trans G4.out.size B5.out.size))).trans S5.2⟩)) (fun hHeld7 => ?_)
        clear hK K
        (try simp only [Act.put, sA, sB, sC])
        refine tt_ready (rs := [18]) (by decide +kernel) (allT_cons (by rfl) (fun K hK => ?_) allT_nil)
        refine step_append_C (by rfl) (.tmp 45) (.tmp 49) (by rfl) Tryz.underlying127 hm hm0 hm1 hm2 rfl (by decide) (by rfl) (by rfl) (OC2.out.alloc _) (Src.lit (CellsF.lit (us := [.bool r0, .bool r1]) rfl) rfl) two_one (by unfold maxLen; omega) (by omega) (by simp; omega) ?_
        intro v' w6 ho hg hl
        have G6 := Lib.hid (grown_alloc hg)
        have L6 := Lib.hid (loc_alloc hl)
        have O6 := Lib.hid (OwnR.push (R := repP) (S := fun _ => False) (x := (r0, r1)) OL2.out OE2.out (repP_rd.2 rfl) ho (fun _ _ h => h.elim) (grown_alloc hg).size)
        obtain ⟨a6, c6, rfl, _, _⟩ := ho.slice
        have S6 : w6.heap[p]? = w2.heap[p]? ∧ w6.heap[w.heap.size]? = w2.heap[w.heap.size]? := ⟨(G6.out.block p hp5 (fun e => hv2p.out e.symm)).trans S5.1, (G6.out.block _ (Nat.lt_of_lt_of_le hx3 (Nat.le_trans G4.out.size B5.out.size)) (fun e => hv2x.out e.symm)).trans S5.2⟩
        have k16 : w6.cell? ⟨p, 1, none⟩ = some (.slice a1 T.nodes.length c1) := cell_p (S6.1.trans P2) 1
        have k26 : w6.cell? ⟨p, 2, none⟩ = some (.slice a2 T.nums.length c2) := cell_p (S6.1.trans P2) 2
        have f26 : w6.frozen? ⟨p, 2, none⟩ = false := frz_p (S6.1.trans P2) 2
        have f16 : w6.frozen? ⟨p, 1, none⟩ = false := frz_p (S6.1.trans P2) 1
        clear ho hg hl
        refine hK.out _ _ (by (exact ⟨cell_p (S6.1.trans P2) 2, S6.2⟩)) (fun hHeld8 => ?_)
        clear hK K
        (try simp only [Act.put, sA, sB, sC])
        refine tt_take (i := 19) (v := _) (by rfl) (by decide +kernel) (by exact fun _ _ _ h => h) (Or.inl ⟨by rfl, by (intro W hSw; (try dsimp only at hSw); go_simp <;> with_reducible rfl)⟩) (by assumption) ?_
        (try simp only [Act.put, sA, sB, sC])
        refine tt_take (i := 20) (v := _) (by rfl) (by decide +kernel) (by exact fun _ _ _ h => h) (Or.inl ⟨by rfl, by (intro W hSw; (try dsimp only at hSw); go_simp <;> with_reducible rfl)⟩) (by assumption) ?_
        (try simp only [Act.put, sA, sB, sC])
        refine tt_ready (rs := [21]) (by decide +kernel) (allT_cons (by rfl) (fun K hK => ?_) allT_nil)
        go_simp
        refine hK.out _ _ (by (exact ⟨(World.cell?_setCell_other _ _ _ _ (show (⟨p, 1, none⟩ : Addr) ≠ ⟨p, 2, none⟩ by simp)).trans (cell_p (S6.1.trans P2) 2), by rw [Below.heap_setCell _ _ _ _ (by simp; omega)]; exact S6.2⟩)) (fun hHeld9 => ?_)
        clear hK K
        (try simp only [Act.put, sA, sB, sC])
        refine tt_tail (by decide +kernel) ?_
        simp only [List.drop_succ_cons, List.drop_zero]
        have h36 := Lib.hid (fun (k : Nat) (hk : k < w3.heap.size) (e1 : Value.ownBlock (.slice a1 T.nodes.length c1) ≠ some k) (e2 : Value.ownBlock (.slice a2 T.nums.length c2) ≠ some k) => ((G6.out.block k (Nat.lt_of_lt_of_le hk (Nat.le_trans G4.out.size B5.out.size)) (fun e => e2 e.symm)).trans ((B5.out.block k (Nat.lt_of_lt_of_le hk G4.out.size)).trans (G4.out.block k hk (fun e => e1 e.symm))) : w6.heap[k]? = w3.heap[k]?))
        have D36 := Lib.hid (fun (k : Nat) (hk : DatB w3 k) => h36.out k hk.lt (fun e => DatB.ne hk (by decide) (by decide) (T3.out.nodes.ty k e)) (fun e => DatB.ne hk (by decide) (by decide) (T3.out.nums.ty k e)))
        have O56 := Lib.hid ((O5.out.keep (w' := w6) (fun b _ hb => by
          have hbl := hb.2.lt
          exact (D36.out b hb.2).trans ((B5.out.block b (Nat.lt_of_lt_of_le hbl G4.out.size)).trans (G4.out.block b hbl (fun e => DatB.ne hb.2 (by decide) (by decide) (T3.out.nodes.ty b e.symm)))).symm) (fun k hk => G6.out.block k (O5.out.lt k hk).2 (fun e => own_ty_ne O5.out M5.out (by decide) hk e.symm)) G6.out.size).mono (S' := DatX T.X w6) (fun b _ hb => hb.same (D36.out b hb.2)))
        obtain ⟨tV, sV⟩ := H2.out.put (W := w6) (v1' := .slice a4 (T.nodes.length + 1) c4) (v2' := .slice a6 (T.nums.length + 1) c6) (G6.out.os.trans (B5.out.os.trans (G4.out.os.trans B3.os))) (G6.out.tape.trans (B5.out.tape.trans (G4.out.tape.trans B3.tape))) (G6.out.output.trans (B5.out.output.trans (G4.out.output.trans B3.output))) (Nat.le_trans B3.size (Nat.le_trans G4.out.size (Nat.le_trans B5.out.size G6.out.size)))
          (fun k hk e1 e2 => (h36.out k (Nat.lt_of_lt_of_le hk B3.size) e1 e2).trans (B3.block k hk)) (L4.out.imp id fun hh k hk => Nat.le_trans B3.size (hh k hk)) (L6.out.imp id fun hh k hk => Nat.le_trans B3.size (Nat.le_trans G4.out.size (Nat.le_trans B5.out.size (hh k hk)))) O56.out O6.out
        have TV := Lib.hid tV
        have SV := Lib.hid ((TStep.of_below hplt B2.out).trans sV)
        clear tV sV
        go_wp2
        clear k16 f16 k26 f26 h36 D36 O56 O6 L6 G6 S6 B5 O5 M5 S5 OC2 OL2 OE2 S4 O4 L4 G4 D4 M4 hnum S3 B3 N3 T3 OC OL OE k13 k1d hHeld H2 X2 P2 hown hv1p hv2p hv1x hv2x
        generalize (w6.setCell ⟨p, 1, none⟩ (.slice a4 (T.nodes.length + 1) c4)).setCell ⟨p, 2, none⟩ (.slice a6 (T.nums.length + 1) c6) = V at *
        refine wp_tail 11 (by kernel_rfl) (by kernel_rfl) ?_
        intro W hW
        have TW : TermAt B p { T with nodes := T.nodes ++ [⟨op, nm, ⟨ng, nu, de⟩, args, so⟩], nums := T.nums ++ [(r0, r1)] } W q (.slice a4 (T.nodes.length + 1) c4) (.slice a6 (T.nums.length + 1) c6) m := by rw [hW]; exact TV.out.all (keep_drew V)
        have SW : TStep p w W := by rw [hW]; exact SV.out.trans (.of_below TV.out.plt (keep_drew V))
        have n3 : W.cell? ⟨p, 3, none⟩ = some (.map (some m)) := cell_p TW.blk 3
        have n1 : W.cell? ⟨p, 1, none⟩ = some (.slice a4 (T.nodes.length + 1) c4) := cell_p TW.blk 1
        have TW' := Lib.hid TW
        have SW' := Lib.hid SW
        clear hW TW SW TV SV
        simp only [List.take_succ_cons, List.take_zero, List.drop_succ_cons, List.drop_zero]
        repeat still_step
        refine wpStill_nil ?_
        obtain ⟨w8, hst, m8, mt8⟩ := TW'.out.ids.store Tryz.underlying9 Tryz.underlying128 (by have := hs'.out.cn; show T.cnt < _; unfold maxLen; omega) hkey'.out (.int .i64 (T.nodes.length : Int))
        have m9 : MapS Tryz.prog 9 m (T.cnt + 1) (mapF fun k => if k = kb then some (T.nodes.length : Int) else T.ids k) w8 := by
          have e : updS (mapF T.ids) kb (some (.int .i64 (T.nodes.length : Int))) = mapF fun k => if k = kb then some (T.nodes.length : Int) else T.ids k := by
            funext k
            unfold updS mapF
            by_cases hkk : k = kb
            · simp [hkk]
            · simp [hkk]
          rw [← e]
          have e2 : (mapF T.ids kb).isSome = false := by unfold mapF; rw [hid'.out]; rfl
          have m8' := m8
          dsimp only at m8'
          rw [e2] at m8'
          exact m8'
        obtain ⟨t8, s8⟩ := TW'.out.setIds mt8 m9
        have lk8 := t8.ids.look Tryz.underlying9 Tryz.underlying128 (zero_int w8) hkey'.out
        have e8 : mapF (fun k => if k = kb then some (T.nodes.length : Int) else T.ids k) kb = some (.int .i64 (T.nodes.length : Int)) := by simp [mapF]
        rw [e8] at lk8
        simp only [Option.getD_some] at lk8
        have k83 : w8.cell? ⟨p, 3, none⟩ = some (.map (some m)) := cell_p t8.blk 3
        have T8 := Lib.hid t8
        have S8 := Lib.hid (SW'.out.trans s8)
        clear m8 mt8 m9 t8 s8 e8 n3 n1 TW' SW'
        go_wp2
        go_ret2
        refine ⟨by rw [hv.out]; rfl, ?_, S8.out⟩
        rw [hv.out, hR'.out]
        exact ⟨q, _, _, m, T8.out⟩
end Go.Proofs.YtgoojkiccdjplaaGreatDoor
