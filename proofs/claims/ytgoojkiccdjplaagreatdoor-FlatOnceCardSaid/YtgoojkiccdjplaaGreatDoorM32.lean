/-
  Parts of this claim's texts, one behind the other: CR CS DE DF UD. No condition.
-/
import Derived.Test.YtgoojkiccdjplaaGreatDoorM17
import Derived.Test.YtgoojkiccdjplaaGreatDoorM30
import Derived.Test.YtgoojkiccdjplaaGreatDoorM23
import Derived.Test.YtgoojkiccdjplaaGreatDoorM27
import Derived.Test.YtgoojkiccdjplaaGreatDoorM29
set_option linter.unusedVariables false
set_option linter.unusedSimpArgs false
set_option maxRecDepth 100000
set_option maxHeartbeats 16000000
namespace Go.Proofs.YtgoojkiccdjplaaGreatDoor
open Go.RowKit Go.Sort Go.Lib
inductive Reach (T:TermD):Int→Int→Prop
 | refl (i:Int):Reach T i i
 | arg {i a x:Int}:a∈(nodeAt T i).args→Reach T a x→Reach T i x
theorem Reach.step {T:TermD} {i x a:Int} (h:Reach T i x) (ha:a∈(nodeAt T x).args):Reach T i a:=by
 induction h with
 | refl i=>exact .arg ha (.refl a)
 | arg h1 _ ih=>exact .arg h1 (ih ha)
theorem ord_at {T : TermD} (ho : OrdT T) {i a : Int} (h : a ∈ (nodeAt T i).args) : 0 ≤ a ∧ (0 ≤ i → a < i) := by
  unfold nodeAt at h
  rw [List.getD_eq_getElem?_getD] at h
  cases hh : T.nodes[i.toNat]? with
  | none => rw [hh] at h; exact absurd h (by simp [noNode])
  | some x =>
    rw [hh] at h
    have := ho _ x hh a h
    exact ⟨this.1, fun h0 => by omega⟩
def PostO (T:TermD) (L:List Int):Prop:=∀l1 x l2,L=l1++x :: l2→∀a∈(nodeAt T x).args,a∈l1
theorem PostO.snoc {T:TermD} {L:List Int} {k:Int} (h:PostO T L) (hk:∀a∈(nodeAt T k).args,a∈L):PostO T (L ++ [k]):=by
 intro l1 x l2 e
 rcases List.eq_nil_or_concat l2 with h2 | ⟨m,y,h2⟩
 ·subst h2
  have:=List.append_inj' e rfl
  obtain ⟨e1,e2⟩:=this
  obtain rfl:k=x:=by simpa using e2
  subst e1
  exact hk
 ·rw [h2,List.concat_eq_append,←List.cons_append,←List.append_assoc] at e
  have:=List.append_inj' e rfl
  exact h l1 x m this.1
structure WkR (T:TermD) (i0:Int→Prop) (Pd:List Int) (st:List Int × List Int):Prop where
 met:∀x∈st.2,x∈st.1
 args:∀x∈st.2,∀a∈(nodeAt T x).args,a∈st.2
 pend:∀x∈st.1,x∈st.2∨x∈Pd
 from_:∀x∈st.2,∃i,i0 i∧Reach T i x
 po:PostO T st.2
 nd:st.2.Nodup
theorem walkN_reach {T : TermD} (ho : OrdT T) (i0 : Int → Prop) : ∀ (f : Nat) (k : Int) (Pd : List Int) (st : List Int × List Int), 0 ≤ k → k < (f : Int) → (∀ y ∈ Pd, k < y) → (∃ i, i0 i ∧ Reach T i k) → WkR T i0 Pd st →
    WkR T i0 Pd (walkN T f st k) ∧ k ∈ (walkN T f st k).2 ∧ (∀ x ∈ st.2, x ∈ (walkN T f st k).2) ∧ ∀ x ∈ (walkN T f st k).2, x ∈ st.2 ∨ x ≤ k
  | 0, k, _, _, h0, h1, _, _, _ => by omega
  | f + 1, k, Pd, st, h0, h1, hp, hr, hw => by
    unfold walkN
    by_cases hc : st.1.contains k = true
    · rw [if_pos hc]
      have hm : k ∈ st.1 := by simpa using hc
      refine ⟨hw, ?_, fun x hx => hx, fun x hx => .inl hx⟩
      rcases hw.pend k hm with h | h
      · exact h
      · have := hp k h; omega
    · rw [if_neg hc]
      have hfold : ∀ (l : List Int), (∀ a ∈ l, a ∈ (nodeAt T k).args) → ∀ st' : List Int × List Int, WkR T i0 (k :: Pd) st' →
          WkR T i0 (k :: Pd) (l.foldl (walkN T f) st') ∧ (∀ a ∈ l, a ∈ (l.foldl (walkN T f) st').2) ∧ (∀ x ∈ st'.2, x ∈ (l.foldl (walkN T f) st').2) ∧ ∀ x ∈ (l.foldl (walkN T f) st').2, x ∈ st'.2 ∨ x < k := by
        intro l
        induction l with
        | nil => exact fun _ st' h => ⟨h, fun a ha => by simp at ha, fun x hx => hx, fun x hx => .inl hx⟩
        | cons a l ih =>
          intro hl st' h
          have ha := hl a (by simp)
          obtain ⟨g0, g1⟩ := ord_at ho ha
          have g1 := g1 h0
          obtain ⟨i, hi, hik⟩ := hr
          obtain ⟨w1, w2, w3, w4⟩ := walkN_reach ho i0 f a (k :: Pd) st' g0 (by omega) (fun y hy => by
            rcases List.mem_cons.1 hy with rfl | hy
            · exact g1
            · have := hp y hy; omega) ⟨i, hi, hik.step ha⟩ h
          obtain ⟨v1, v2, v3, v4⟩ := ih (fun b hb => hl b (by simp [hb])) _ w1
          refine ⟨v1, fun b hb => ?_, fun x hx => v3 x (w3 x hx), fun x hx => by
            rcases v4 x hx with h5 | h5
            · rcases w4 x h5 with h6 | h6
              · exact .inl h6
              · exact .inr (by omega)
            · exact .inr h5⟩
          rcases List.mem_cons.1 hb with rfl | hb
          · exact v3 _ w2
          · exact v2 b hb
      obtain ⟨v1, v2, v3, v4⟩ := hfold _ (fun a ha => ha) (k :: st.1, st.2) ⟨fun x hx => List.mem_cons_of_mem _ (hw.met x hx), hw.args, fun x hx => by
        rcases List.mem_cons.1 hx with rfl | hx
        · exact .inr (by simp)
        · exact (hw.pend x hx).imp id fun h => List.mem_cons_of_mem _ h, hw.from_, hw.po, hw.nd⟩
      have hkm : k ∈ ((nodeAt T k).args.foldl (walkN T f) (k :: st.1, st.2)).1 ∨ True := .inr trivial
      refine ⟨⟨fun x hx => ?_, fun x hx a ha => ?_, fun x hx => ?_, fun x hx => ?_, v1.po.snoc v2, ?_⟩, by simp, fun x hx => List.mem_append_left _ (v3 x hx), fun x hx => ?_⟩
      · rcases List.mem_append.1 hx with hx | hx
        · exact v1.met x hx
        · obtain rfl := List.mem_singleton.1 hx
          have hmono : ∀ (l : List Int) (st' : List Int × List Int), x ∈ st'.1 → x ∈ (l.foldl (walkN T f) st').1 := by
            intro l
            induction l with
            | nil => exact fun _ h => h
            | cons a l ih => exact fun st' h => ih _ (walkN_met f a st' h)
          exact hmono _ _ (by simp)
      · rcases List.mem_append.1 hx with hx | hx
        · exact List.mem_append_left _ (v1.args x hx a ha)
        · obtain rfl := List.mem_singleton.1 hx
          exact List.mem_append_left _ (v2 a ha)
      · rcases v1.pend x hx with h | h
        · exact .inl (List.mem_append_left _ h)
        · rcases List.mem_cons.1 h with rfl | h
          · exact .inl (by simp)
          · exact .inr h
      · rcases List.mem_append.1 hx with hx | hx
        · exact v1.from_ x hx
        · obtain rfl := List.mem_singleton.1 hx; exact hr
      · rw [List.nodup_append]
        refine ⟨v1.nd, by simp, fun a ha b hb e => ?_⟩
        obtain rfl := List.mem_singleton.1 hb
        subst e
        rcases v4 _ ha with h | h
        · exact hc (by simpa using hw.met _ h)
        · omega
      · rcases List.mem_append.1 hx with hx | hx
        · exact (v4 x hx).imp id fun h => by omega
        · obtain rfl := List.mem_singleton.1 hx; exact .inr (Int.le_refl _)
where walkN_met {T : TermD} {x : Int} : ∀ (f : Nat) (k : Int) (st : List Int × List Int), x ∈ st.1 → x ∈ (walkN T f st k).1
  | 0, _, _, h => h
  | f + 1, k, st, h => by
    unfold walkN
    by_cases hc : st.1.contains k = true
    · rw [if_pos hc]; exact h
    · rw [if_neg hc]
      have hmono : ∀ (l : List Int) (st' : List Int × List Int), x ∈ st'.1 → x ∈ (l.foldl (walkN T f) st').1 := by
        intro l
        induction l with
        | nil => exact fun _ h => h
        | cons a l ih => exact fun st' h => ih _ (walkN_met f a st' h)
      exact hmono _ _ (List.mem_cons_of_mem _ h)
theorem walkT_wkr {T : TermD} (ho : OrdT T) (ids : List Int) : WkR T (fun i => i ∈ ids ∧ hasT T i = true) [] (walkT T ids) ∧ ∀ i ∈ ids, hasT T i = true → i ∈ (walkT T ids).2 := by
  have hmain : ∀ (l : List Int), (∀ i ∈ l, i ∈ ids) → ∀ st : List Int × List Int, WkR T (fun i => i ∈ ids ∧ hasT T i = true) [] st →
      WkR T (fun i => i ∈ ids ∧ hasT T i = true) [] (l.foldl (walkAt T) st) ∧ (∀ i ∈ l, hasT T i = true → i ∈ (l.foldl (walkAt T) st).2) ∧ ∀ x ∈ st.2, x ∈ (l.foldl (walkAt T) st).2 := by
    intro l
    induction l with
    | nil => exact fun _ st h => ⟨h, fun i hi => by simp at hi, fun x hx => hx⟩
    | cons i l ih =>
      intro hl st h
      have hi := hl i (by simp)
      have hstep : WkR T (fun i => i ∈ ids ∧ hasT T i = true) [] (walkAt T st i) ∧ (hasT T i = true → i ∈ (walkAt T st i).2) ∧ ∀ x ∈ st.2, x ∈ (walkAt T st i).2 := by
        unfold walkAt
        by_cases hh : hasT T i = true
        · rw [if_pos hh]
          have h2 := hh
          unfold hasT at h2
          simp only [Bool.and_eq_true, decide_eq_true_eq] at h2
          obtain ⟨w1, w2, w3, _⟩ := walkN_reach ho (fun i => i ∈ ids ∧ hasT T i = true) (T.nodes.length + 1) i [] st h2.1 (by omega) (by simp) ⟨i, ⟨hi, hh⟩, .refl i⟩ h
          exact ⟨w1, fun _ => w2, w3⟩
        · rw [if_neg hh]
          exact ⟨h, fun e => absurd e hh, fun x hx => hx⟩
      obtain ⟨s1, s2, s3⟩ := hstep
      obtain ⟨v1, v2, v3⟩ := ih (fun j hj => hl j (by simp [hj])) _ s1
      refine ⟨v1, fun j hj hh => ?_, fun x hx => v3 x (s3 x hx)⟩
      rcases List.mem_cons.1 hj with rfl | hj
      · exact v3 _ (s2 hh)
      · exact v2 j hj hh
  obtain ⟨w1, w2, _⟩ := hmain ids (fun i hi => hi) ([], []) ⟨fun x hx => by simp at hx, fun x hx => by simp at hx, fun x hx => by simp at hx, fun x hx => by simp at hx, fun l1 x l2 e => by simp at e, List.nodup_nil⟩
  exact ⟨w1, w2⟩
theorem walkT_nodup {T:TermD} (ho:OrdT T) (ids:List Int):(walkT T ids).2.Nodup:=(walkT_wkr ho ids).1.nd
theorem walkT_post {T:TermD} (ho:OrdT T) (ids:List Int):PostO T (walkT T ids).2:=(walkT_wkr ho ids).1.po
theorem walkT_reach {T:TermD} (ho:OrdT T) (ids:List Int) (x:Int):x∈(walkT T ids).2↔∃i∈ids,hasT T i=true∧Reach T i x:=by
 obtain ⟨w1,w2⟩:=walkT_wkr ho ids
 constructor
 ·intro hx
  obtain ⟨i,⟨h1,h2⟩,h3⟩:=w1.from_ x hx
  exact⟨i,h1,h2,h3⟩
 ·rintro ⟨i,h1,h2,h3⟩
  have h4:=w2 i h1 h2
  change i∈(walkT T ids).2 at h4
  have hcl:∀x∈(walkT T ids).2,∀a∈(nodeAt T x).args,a∈(walkT T ids).2:=w1.args
  generalize (walkT T ids).2=L at *
  clear w1 w2 h1 h2
  induction h3 with
  | refl i=>exact h4
  | arg ha _ ih=>exact ih (hcl _ h4 _ ha)
def szA (L:List Int) (s:Int) (l:List Int):Int:=l.foldl (fun s a=>min (s+nth L a.toNat) 1000000) s
def sizF (L:List Int) (n:NodeD):List Int:=L ++ [szA L 1 n.args]
def szs (M:List NodeD):List Int:=M.foldl sizF []
theorem szs_snoc (M:List NodeD) (n:NodeD):szs (M ++ [n])=szs M ++ [szA (szs M) 1 n.args]:=by unfold szs;rw [List.foldl_append];rfl
theorem szA_snoc (L:List Int) (s:Int) (l:List Int) (a:Int):szA L s (l ++ [a])=min (szA L s l+nth L a.toNat) 1000000:=by unfold szA;rw [List.foldl_append];rfl
theorem szA_bd {L : List Int} (hL : ∀ x ∈ L, 0 ≤ x ∧ x ≤ 1000000) : ∀ (l : List Int) (s : Int), 0 ≤ s → s ≤ 1000000 → 0 ≤ szA L s l ∧ szA L s l ≤ 1000000
  | [], s, h0, h1 => ⟨h0, h1⟩
  | a :: l, s, h0, h1 => by
    have hn : 0 ≤ nth L a.toNat ∧ nth L a.toNat ≤ 1000000 := by
      by_cases h : a.toNat < L.length
      · exact hL _ (nth_mem h)
      · unfold nth; rw [List.getD_eq_getElem?_getD, List.getElem?_eq_none (by omega)]; simp
    exact szA_bd hL l (min (s + nth L a.toNat) 1000000) (by omega) (by omega)
theorem szs_go : ∀ (M : List NodeD) (L : List Int), (∀ x ∈ L, 0 ≤ x ∧ x ≤ 1000000) → (∀ x ∈ M.foldl sizF L, 0 ≤ x ∧ x ≤ 1000000) ∧ (M.foldl sizF L).length = L.length + M.length
  | [], L, h => ⟨h, rfl⟩
  | n :: M, L, h => by
    have h2 : ∀ x ∈ sizF L n, 0 ≤ x ∧ x ≤ 1000000 := fun x hx => by
      rcases List.mem_append.1 hx with hx | hx
      · exact h x hx
      · obtain rfl := List.mem_singleton.1 hx
        exact szA_bd h _ _ (by omega) (by omega)
    have := szs_go M (sizF L n) h2
    refine ⟨this.1, ?_⟩
    show (M.foldl sizF (sizF L n)).length = _
    rw [this.2]
    unfold sizF
    rw [List.length_append, List.length_singleton, List.length_cons]; omega
theorem szs_bd (M:List NodeD):(∀x∈szs M,0≤x∧x≤1000000)∧(szs M).length=M.length:=by
 have:=szs_go M [] (fun x hx=>by simp at hx)
 exact⟨this.1,by have:=this.2;simpa [szs] using this⟩
def SizesP (T:TermD) (w:World) (e:Ending) (w':World):Prop:=
 ∃a c,e = .returned (.slice a T.nodes.length c)∧OwnC w' w.heap.size 3 1 (.slice a T.nodes.length c) T.nodes.length ((szs T.nodes).map (Value.int .i64))∧Below w.heap.size w w'
theorem RRd.argsRow {r:Nat} {T:TermD} {w:World} (h:RRd r T.nodes w) {k:Nat} (hk:k<T.nodes.length):∃b o cL g e,w.cell? ⟨r,1,none⟩=some (.slice (some ⟨b,o,none⟩) T.nodes.length cL)∧w.cell? ⟨b,o+k * 7+5,none⟩=some (.slice g (nodeAt T k).args.length e)∧RdI w g (nodeAt T k).args.length (nodeAt T k).args:=by
 obtain ⟨aL,cL,h1,h2⟩:=h.len
 obtain ⟨b,o,_,_,_,_,g,e,rfl,hn,hc⟩:=h2.nodeAt (nodeAt_nat hk)
 exact⟨b,o,cL,g,e,h1,hc 5 _ rfl,hn.args.toI⟩
theorem sizes_any (r:Nat) (T:TermD) (w:World) (h:RRd r T.nodes w) (ho:OrdT T) (hle:T.nodes.length≤16384) (hg:∀x∈T.nodes,x.args.length≤64) :
  Calls Tryz.prog 68 #[.pointer (some ⟨r,0,none⟩)] w fun e w'=>SizesP T w e w':=by
 have h':=hid h
 have ho':=hid ho
 have hg':=hid hg
 clear h ho hg
 go_enter Tryz.func68,Tryz.ntmps68
 go_wp2
 go_loopw [3,4,5,6] (fun v3 v4 _ _ wr=>∃(i:Nat) (a3:Option Addr) (c3:Nat),i≤T.nodes.length∧v4 = .int .i64 i∧v3 = .slice a3 i c3∧Hid (OwnC wr w.heap.size 3 1 (.slice a3 i c3) i ((szs (T.nodes.take i)).map (Value.int .i64)))∧Hid (Below w.heap.size w wr)) (fun _ v4 _ _ _=>T.nodes.length - (intOf v4).toNat)
 case atStart=>exact⟨0,none,0,Nat.zero_le _,rfl,rfl,OwnC.nil _ _ _ _,Below.refl _ _⟩
 case round=>
  obtain ⟨i,a3,c3,hi,rfl,rfl,hO,hB⟩:=hrel
  obtain ⟨wa,rfl⟩:∃wa,wa=wr:=⟨_,rfl⟩
  by_cases hiN:i<T.nodes.length
  case neg=>
   obtain rfl:i=T.nodes.length:=by omega
   obtain ⟨aL,cL,hc1,_⟩:=(h'.out.all hB.out).len
   have hni:¬(T.nodes.length:Int)<T.nodes.length:=by omega
   have hO2:=hid hO.out
   rw [List.take_length] at hO2
   clear hO
   go_wp2
   go_ret
   exact⟨_,_,rfl,hO2.out,hB.out⟩
  case pos=>
   have hiNi:(i:Int)<T.nodes.length:=by omega
   obtain ⟨b9,o9,cL,g9,e9,y1,y2,hR⟩:=(h'.out.all hB.out).argsRow hiN
   have hsn:=@hid (szs (T.nodes.take (i+1))=szs (T.nodes.take i) ++ [szA (szs (T.nodes.take i)) 1 (nodeAt T i).args]) (by
    have:=nodeAt_nat hiN
    rw [List.getElem?_eq_getElem hiN] at this
    injection this with this
    rw [List.take_succ_eq_append_getElem hiN,szs_snoc,this])
   have hsl:=hid (szs_bd (T.nodes.take i))
   have hlt:=hid (show(T.nodes.take i).length=i by rw [List.length_take];omega)
   have hR':=hid hR
   have hal:=hg'.out _ (List.mem_of_getElem? (nodeAt_nat hiN))
   have har:=hid (ho'.out i _ (nodeAt_nat hiN))
   clear hR
   generalize (nodeAt T i).args=args at *
   generalize szs (T.nodes.take i)=L at *
   go_wp2
   go_loopw [5,6] (fun v5 v6 wr=>∃j:Nat,j≤args.length∧v6 = .int .i64 j∧v5 = .int .i64 (szA L 1 (args.take j))∧wa=wr) (fun _ v6 _=>args.length - (intOf v6).toNat)
   case atStart=>exact⟨0,Nat.zero_le _,rfl,rfl,rfl⟩
   case round=>
    obtain ⟨j,hj,rfl,rfl,rfl⟩:=hrel
    by_cases hja:j<args.length
    case pos=>
     have hjai:(j:Int)<args.length:=by omega
     obtain ⟨b8,o8,rfl,k8⟩:=hR'.out.at j hja
     obtain ⟨g0,g1⟩:=har.out (nth args j) (nth_mem hja)
     have hss:=@hid (szA L 1 (args.take (j+1))=min (szA L 1 (args.take j)+nth L (nth args j).toNat) 1000000) (by rw [List.take_succ_eq_append_getElem hja,szA_snoc,nth_eq hja])
     obtain ⟨t,ht⟩:=Int.eq_ofNat_of_zero_le g0
     rw [ht] at k8 g1 hss
     rw [Int.toNat_natCast] at hss
     have hti:t<i:=by omega
     have htii:(t:Int)<i:=g1
     have htL:t<L.length:=by rw [hsl.out.2,hlt.out];exact hti
     obtain ⟨g3,c3',hv3,_,_⟩:=hO.out.form (by omega)
     cases hv3
     have hct:=hO.out.cells (g:=g3) rfl t (.int .i64 (nth L t)) (by rw [List.getElem?_map,List.getElem?_eq_getElem htL,nth_eq htL];rfl)
     have hb1:=szA_bd hsl.out.1 (args.take j) 1 (by omega) (by omega)
     have hb2:=hsl.out.1 _ (nth_mem htL)
     clear g0 ht
     generalize szA L 1 (args.take j)=s at *
     generalize nth L t=z at *
     go_wp2
     go_roundw
     case rel=>exact⟨j+1,by omega,by go_num,by rw [hss.out] <;> rfl,by first | rfl | trivial⟩
     case measure=>first | (simp [intOf];done) | (simp [intOf];omega)
    case neg=>
     obtain rfl:j=args.length:=by omega
     have hni:¬(args.length:Int)<args.length:=by omega
     rw [List.take_length]
     obtain ⟨i0,hi0,hz0,hz1,hz2⟩:=info_parts info_int
     generalize szA L 1 args=s at *
     go_wp2_with (at_builtin;refine wpList_append_C rfl (.tmp 46) (.tmp 48) rfl Tryz.underlying23 hi0 hz0 hz1 hz2 rfl (by decide) rfl rfl (hO.out.alloc _) (Src.one (b:=wa.heap.size) (news:=[.int .i64 s]) rfl ?c1) ?c2 ?c3 ?c4 ?c5 ?_)
     (try case c1=>intro j u hu;rw [World.cell?_alloc_new];simpa using hu)
     (try case c2=>first | rfl | (intro u hu;simp at hu;subst hu;rfl))
     (try case c3=>unfold maxLen;omega)
     (try case c4=>omega)
     (try case c5=>have:=hB.out.size;first | omega | (simp;omega))
     intro v' w6 ho6 hg6 hl6
     have hzS:=hB.out.size
     have B6:=hid (show Below w.heap.size w w6 from(hB.out.alloc hB.out.size _).trans ((Below.refl _ _).grown hg6 (by simp;omega) (fun k hk=>(hO.out.lt k hk).1)))
     have O6:=hid (show OwnC w6 w.heap.size 3 1 v' (i+1) ((szs (T.nodes.take (i+1))).map (Value.int .i64)) from by rw [hsn.out,List.map_append];exact ho6)
     obtain ⟨a6,c6,rfl,_,_⟩:=O6.out.slice
     clear ho6 hg6 hl6 hzS
     go_wp2
     go_roundw
     case rel=>exact⟨i+1,a6,c6,by omega,by go_num,rfl,O6.out,B6.out⟩
     case measure=>first | (simp [intOf];done) | (simp [intOf];omega)
theorem small_any (r:Nat) (T:TermD) (w:World) (h:RRd r T.nodes w) (ho:OrdT T) (hle:T.nodes.length≤16384) (hg:∀x∈T.nodes,x.args.length≤64) :
  Calls Tryz.prog 17 #[.pointer (some ⟨r,0,none⟩)] w fun e w'=>e = .returned (.bool ((szs T.nodes).all fun x=>decide (x≤1000)))∧Below w.heap.size w w':=by
 have hs:=hid (sizes_any r T w h ho hle hg)
 have hbd:=hid (szs_bd T.nodes)
 clear h ho hg
 go_enter Tryz.func17,Tryz.ntmps17
 go_wp2_with fail
 refine hs.out.mono ?_;rintro e w1 ⟨a,c,rfl,hO,hb⟩
 have R1:=hid (OwnC.rdX hO (fun x hx=>by have:=hbd.out.1 x hx;unfold okI;omega))
 have B1:=hid hb
 clear hO hb hs
 generalize hL:szs T.nodes=L at *
 have hL':=hid hL
 clear hL
 go_wp2
 go_loopw [4] (fun v4 wr=>∃k:Nat,k≤T.nodes.length∧v4 = .int .i64 k∧Hid (∀j,j<k→nth L j≤1000)∧wr=w1) (fun v4 _=>T.nodes.length - (intOf v4).toNat)
 case atStart=>exact⟨0,Nat.zero_le _,rfl,fun j hj=>absurd hj (by omega),rfl⟩
 case round=>
  obtain ⟨k,hk,rfl,hA,rfl⟩:=hrel
  by_cases hkn:k<T.nodes.length
  case neg=>
   obtain rfl:k=T.nodes.length:=by omega
   have hni:¬(T.nodes.length:Int)<T.nodes.length:=by omega
   have hv:=hid (show true=L.all (fun x=>decide (x≤1000)) from(List.all_eq_true.2 fun x hx=>by
    obtain ⟨j,hj,rfl⟩:=List.getElem_of_mem hx
    have:=hA.out j (by rw [hbd.out.2] at hj;exact hj)
    rw [nth_eq hj] at this
    exact decide_eq_true this).symm)
   go_wp2
   go_ret
   exact⟨ret_bool (by rw [hL'.out];exact hv.out),B1.out⟩
  case pos=>
   have hki:(k:Int)<T.nodes.length:=by omega
   have hkL:=hid (show k<L.length by rw [hbd.out.2];exact hkn)
   obtain ⟨b,o,rfl,k0⟩:=R1.out.at k hkn
   by_cases hs:nth L k≤1000
   case pos=>
    have hA2:=hid (show ∀j,j<k+1→nth L j≤1000 from fun j hj=>by
     by_cases e:j=k
     ·rw [e];exact hs
     ·exact hA.out j (by omega))
    have hsi:¬1000<nth L k:=by omega
    clear hA
    go_wp2
    go_roundw
    case rel=>exact⟨k+1,by omega,by go_num,hA2.out,by first | rfl | trivial⟩
    case measure=>first | (simp [intOf];done) | (simp [intOf];omega)
   case neg=>
    have hv:=hid (show false=L.all (fun x=>decide (x≤1000)) from by
     symm
     rw [Bool.eq_false_iff]
     intro h
     have:=List.all_eq_true.1 h _ (nth_mem hkL.out)
     exact hs (of_decide_eq_true this))
    have hsi:1000<nth L k:=by omega
    go_wp2
    go_ret
    exact⟨ret_bool (by rw [hL'.out];exact hv.out),B1.out⟩
def BoolsP (T:TermD) (w:World) (e:Ending) (w':World):Prop:=
 ∃(L:List Int) (a:Option Addr) (c:Nat),e = .returned (.slice a L.length c)∧OwnC w' w.heap.size 3 1 (.slice a L.length c) L.length (L.map (Value.int .i64))∧Below w.heap.size w w'∧L.length≤8∧∀x∈L,hasT T x=true∧(nodeAt T x).sort=0
theorem idxG_any (P:Int→Bool) (fv:Nat) (caps:List Value) (a:Option Addr) (n c:Nat) (xs:List Int) (w:World) (h:RdI w a n xs) (hn:n<1099511627776)
  (hen:∀args w,(callFunc fv args).run Tryz.prog w = .ok (.enter fv args) w)
  (hc:∀w1,Below w.heap.size w w1→∀x∈xs,Calls Tryz.prog fv (Value.int .i64 x :: caps).toArray w1 fun e w'=>e = .returned (.bool (P x))∧Below w1.heap.size w1 w') :
  Calls Tryz.prog 124 #[.slice a n c,.func (.func fv) #[] caps.toArray] w fun e w'=>e = .returned (.int .i64 (idxP P xs 0))∧Below w.heap.size w w':=by
 have h':=hid h
 have lx:=hid h.len
 have hc':=hid hc
 clear h hc
 go_enter Tryz.func124,Tryz.ntmps124
 go_wp2
 go_loopw [4,5,8] (fun _ _ i wr=>∃k:Nat,k≤n∧i = .int .i64 k∧Hid (∀j x,j<k→xs[j]? = some x→P x=false)∧Hid (Below w.heap.size w wr)) (fun _ _ i _=>n - (intOf i).toNat)
 case atStart=>exact⟨0,Nat.zero_le _,rfl,fun j f hj=>absurd hj (Nat.not_lt_zero _),Below.refl _ _⟩
 case round=>
  obtain ⟨k,hk,rfl,hne,hB⟩:=hrel
  by_cases hlt2:k<n
  ·have hkx:k<xs.length:=by rw [lx.out];exact hlt2
   have hf:=List.getElem?_eq_getElem hkx
   obtain ⟨b,o,rfl,k0⟩:=(h'.out.below hB.out (Nat.le_refl _)).at k hlt2
   have hcl:=hid (hc'.out wr hB.out xs[k] (List.getElem_mem hkx))
   rw [nth_eq hkx] at k0
   have hf':=hid hf
   clear hf
   cases he:P xs[k]
   case true=>
    have hv:=hid (idxP_hit (p:=P) (fun j f hj hf=>hne.out j f hj hf) hf'.out he)
    rw [he] at hcl
    generalize xs[k]=f at *
    clear he
    go_wp2_with fail
    refine hcl.out.mono ?_;rintro e w1 ⟨rfl,hb⟩
    have hb':=hid (hB.out.trans (hb.mono hB.out.size))
    clear hb
    go_wp2
    go_ret
    exact⟨ret_int hv.out.symm,hb'.out⟩
   case false=>
    have hs:=@hid (∀j f,j<k+1→xs[j]? = some f→P f=false) (fun j f hj hf=>by
     by_cases hjk:j<k
     ·exact hne.out j f hjk hf
     ·obtain rfl:j=k:=by omega
      rw [hf'.out] at hf
      cases hf
      exact he)
    rw [he] at hcl
    generalize xs[k]=f at *
    clear he
    go_wp2_with fail
    refine hcl.out.mono ?_;rintro e w1 ⟨rfl,hb⟩
    have hb':=hid (hB.out.trans (hb.mono hB.out.size))
    clear hb
    go_wp2
    go_roundw
    case rel=>exact⟨k+1,by omega,by go_num,hs.out,hb'.out⟩
    case measure=>simp [intOf];omega
  ·have hv:=hid (idxP_miss (p:=P) (xs:=xs) (fun j f hj hf=>hne.out j f (by have:=lx.out;omega) hf))
   go_wp2
   go_ret
   exact⟨ret_int hv.out.symm,hB.out⟩
theorem hasG_any (P : Int → Bool) (fv : Nat) (caps : List Value) (a : Option Addr) (n c : Nat) (xs : List Int) (w : World) (h : RdI w a n xs) (hn : n < 1099511627776)
    (hen : ∀ args w, (callFunc fv args).run Tryz.prog w = .ok (.enter fv args) w)
    (hc : ∀ w1, Below w.heap.size w w1 → ∀ x ∈ xs, Calls Tryz.prog fv (Value.int .i64 x :: caps).toArray w1 fun e w' => e = .returned (.bool (P x)) ∧ Below w1.heap.size w1 w') :
    Calls Tryz.prog 80 #[.slice a n c, .func (.func fv) #[] caps.toArray] w fun e w' => e = .returned (.bool (xs.any P)) ∧ Below w.heap.size w w' := by
  have hi := hid (idxG_any P fv caps a n c xs w h hn hen hc)
  clear h hc
  have hidx := idxP_find (p := P) xs 0
  cases hf : xs.find? P with
  | none =>
    rw [hf] at hidx
    dsimp only at hidx
    have hv := @hid (xs.any P = false) (by rw [List.any_eq_false]; rw [List.find?_eq_none] at hf; exact hf)
    rw [hidx] at hi
    clear hidx hf
    go_enter Tryz.func80, Tryz.ntmps80
    go_wp2_with fail
    refine hi.out.mono ?_; rintro e w1 ⟨rfl, hb⟩
    have hb' := hid hb
    clear hb
    go_wp2
    go_ret
    exact ⟨ret_bool hv.out.symm, hb'.out⟩
  | some f =>
    rw [hf] at hidx
    dsimp only at hidx
    obtain ⟨k, hk1, hk2⟩ := hidx
    have hv := @hid (xs.any P = true) (by rw [List.any_eq_true]; exact ⟨f, List.mem_of_find?_eq_some hf, by have := List.find?_some hf; exact this⟩)
    rw [hk1] at hi
    clear hk1 hf
    go_enter Tryz.func80, Tryz.ntmps80
    go_wp2_with fail
    refine hi.out.mono ?_; rintro e w1 ⟨rfl, hb⟩
    have hb' := hid hb
    clear hb
    go_wp2
    go_ret
    exact ⟨ret_bool hv.out.symm, hb'.out⟩
def boolT (T:TermD) (i:Int):Bool:=(sortOf T i).2 && decide ((sortOf T i).1=0)
def boolsT (T:TermD) (ids:List Int):Bool:=!ids.any fun i=>!boolT T i
theorem bools1_any (B p:Nat) (T:TermD) (i:Int) (x:Nat) (w:World) (h:TermX B p T w) (hx:w.cell? ⟨x,0,none⟩=some (.pointer (some ⟨p,0,none⟩))) :
  Calls Tryz.prog 121 #[.int .i64 i,.pointer (some ⟨x,0,none⟩)] w fun e w'=>e = .returned (.bool (!boolT T i))∧Below w.heap.size w w':=by
 have hs:=hid (tsort_any B p T i w h)
 have hd:=@hid (boolT T i=((sortOf T i).2 && decide ((sortOf T i).1=0))) rfl
 generalize sortOf T i=r at *
 obtain ⟨s,ok⟩:=r
 dsimp only at *
 clear h
 cases ok
 case false=>
  have hv:=@hid (true = !boolT T i) (by rw [hd.out];rfl)
  clear hd
  go_enter Tryz.func121,Tryz.ntmps121
  go_wp2_with fail
  refine hs.out.mono ?_;rintro e w' ⟨rfl,rfl⟩
  go_wp2
  go_ret
  exact⟨ret_bool hv.out,Below.refl _ _⟩
 case true=>
  have hv:=@hid ((!decide (s=0)) = !boolT T i) (by rw [hd.out];rfl)
  clear hd
  go_enter Tryz.func121,Tryz.ntmps121
  go_wp2_with fail
  refine hs.out.mono ?_;rintro e w' ⟨rfl,rfl⟩
  go_wp2
  go_ret
  exact⟨ret_bool hv.out,Below.refl _ _⟩
theorem bools_any (B p:Nat) (T:TermD) (a:Option Addr) (n c:Nat) (ids:List Int) (w:World) (h:TermX B p T w) (hx:RdI w a n ids) (hn:n<1099511627776) :
  Calls Tryz.prog 71 #[.pointer (some ⟨p,0,none⟩),.slice a n c] w fun e w'=>e = .returned (.bool (boolsT T ids))∧Below w.heap.size w w':=by
 have hB:Below w.heap.size w (w.alloc (.cells #[.pointer (some ⟨p,0,none⟩)] 26)):=(Below.refl _ _).alloc (Nat.le_refl _) _
 have hhas:=hid (hasG_any (fun i=>!boolT T i) 121 [.pointer (some ⟨w.heap.size,0,none⟩)] a n c ids _ (hx.below hB (Nat.le_refl _)) hn
  (enters_of Tryz.func121 (by kernel_rfl) rfl) (fun w1 hw x _=>bools1_any B p T x w.heap.size w1 ((h.all hB).all hw) (cell_p ((hw.block w.heap.size (by simp)).trans (heap_alloc_new w _)) 0)))
 have hv:=@hid ((!ids.any fun i=>!boolT T i)=boolsT T ids) rfl
 have hB':=hid hB
 clear h hx hB
 go_enter Tryz.func71,Tryz.ntmps71
 go_wp2_with fail
 refine hhas.out.mono ?_;rintro e w1 ⟨rfl,hb⟩
 have hb':=hid (hB'.out.trans (hb.mono hB'.out.size))
 clear hb
 go_wp2
 go_ret
 exact⟨ret_bool hv.out,hb'.out⟩
def mk1 (T:TermD) (op a:Int):(Int × Int) × TermD:=makeD T op ⟨#[]⟩ noRat [a]
def mk2 (T:TermD) (op a b:Int):(Int × Int) × TermD:=makeD T op ⟨#[]⟩ noRat [a,b]
def halfD (T:TermD) (k by' x:Int):(Int × Int) × TermD:=
 if (mk2 T 8 k x).1.2=0 then mk2 (mk2 T 8 k x).2 6 by' (mk2 T 8 k x).1.1 else(mk2 T 8 k x)
def choiceL (T:TermD) (k:Int):List (Int × Int)→List Int→(List Int × Int) × TermD
 | [],out=>((out,0),T)
 | (b,x) :: l,out=>if (halfD T k b x).1.2=0 then choiceL (halfD T k b x).2 k l (out ++ [(halfD T k b x).1.1]) else(([],(halfD T k b x).1.2),(halfD T k b x).2)
def choiceD (T:TermD) (k:Int) (args:List Int):(List Int × Int) × TermD:=
 if (mk1 T 3 (nth args 0)).1.2=0 then choiceL (mk1 T 3 (nth args 0)).2 k [(nth args 0,nth args 1),((mk1 T 3 (nth args 0)).1.1,nth args 2)] [] else(([],(mk1 T 3 (nth args 0)).1.2),(mk1 T 3 (nth args 0)).2)
def liftF:OtherF (List Int):=fun T s _ n=>
 if n.op=10∧n.sort≠0 then
  if (freshD T n.sort).1.2=0 then
   (((freshD T n.sort).1.1,true,(choiceD (freshD T n.sort).2 (freshD T n.sort).1.1 n.args).1.2),(choiceD (freshD T n.sort).2 (freshD T n.sort).1.1 n.args).2,s++(choiceD (freshD T n.sort).2 (freshD T n.sort).1.1 n.args).1.1)
  else((0,false,(freshD T n.sort).1.2),(freshD T n.sort).2,s)
 else((0,false,0),T,s)
def allLift (T:TermD) (ids:List Int):(List Int × List Int × Int) × TermD:=
 if boolsT T ids then
  if (turnD liftF T [] ids).1.2=0 then(((turnD liftF T [] ids).1.1,(turnD liftF T [] ids).2.2,0),(turnD liftF T [] ids).2.1)
  else(([],[],(turnD liftF T [] ids).1.2),(turnD liftF T [] ids).2.1)
 else(([],[],1),T)
end Go.Proofs.YtgoojkiccdjplaaGreatDoor
