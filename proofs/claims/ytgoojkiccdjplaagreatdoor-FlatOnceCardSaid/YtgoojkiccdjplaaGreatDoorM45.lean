/-
  Parts of this claim's texts, one behind the other: DJ DK. No condition.
-/
import Derived.Test.YtgoojkiccdjplaaGreatDoorM44
import Derived.Test.YtgoojkiccdjplaaGreatDoorM39
import Derived.Test.YtgoojkiccdjplaaGreatDoorM32
set_option linter.unusedVariables false
set_option linter.unusedSimpArgs false
set_option maxRecDepth 100000
set_option maxHeartbeats 16000000
namespace Go.Proofs.YtgoojkiccdjplaaGreatDoor
open Go.RowKit Go.Sort Go.Lib
theorem nodup_le : ∀ (K L : List Int), K.Nodup → (∀ x ∈ K, x ∈ L) → K.length ≤ L.length
  | [], _, _, _ => Nat.zero_le _
  | x :: K, L, hn, hs => by
    have hx := hs x (by simp)
    obtain ⟨h1, h2⟩ := List.nodup_cons.1 hn
    have := nodup_le K (L.erase x) h2 fun y hy => (List.mem_erase_of_ne fun e => h1 (by rw [← e]; exact hy)).2 (hs y (by simp [hy]))
    rw [List.length_erase_of_mem hx] at this
    have : 0 < L.length := List.length_pos_of_mem hx
    simp only [List.length_cons]
    omega
def CleanB (B:NodeD→Bool) (T:TermD) (i:Int):Prop:=∀z,Reach T i z→B (nodeAt T z)=false
section
variable {T T0 T' : TermD} {B : NodeD → Bool}
theorem CleanB.ext (h:Ext T T') (ho:OrdT T) {i:Int} (hi:hasT T i=true) (hc:CleanB B T i):CleanB B T' i:=fun z hz=>by
 have h1:=reach_ext h ho hi hz
 rw [h.node (reach_has ho hi h1)]
 exact hc z h1
theorem CleanB.arg {i a:Int} (h:CleanB B T i) (ha:a∈(nodeAt T i).args):CleanB B T a:=fun z hz=>h z (.arg ha hz)
theorem CleanB.of {i:Int} (h1:B (nodeAt T i)=false) (h2:∀a∈(nodeAt T i).args,CleanB B T a):CleanB B T i:=fun z hz=>by
 cases hz with
 | refl=>exact h1
 | arg ha hr=>exact h2 _ ha z hr
structure ConstI (T:TermD) (i:Int):Prop where
 has:hasT T i=true
 op:(nodeAt T i).op=12
 ar:(nodeAt T i).args = []
theorem ConstI.ext {i:Int} (h:ConstI T i) (he:Ext T T'):ConstI T' i:=⟨he.has h.has,by rw [he.node h.has];exact h.op,by rw [he.node h.has];exact h.ar⟩
theorem ConstI.clean {i:Int} (h:ConstI T i):CleanB appliedN T i:=.of (by unfold appliedN;rw [h.ar];simp) fun a ha=>by rw [h.ar] at ha;cases ha
theorem num_app (h:TInv T) {i:Int} (hi:hasT T i=true) (ho:(nodeAt T i).op=12):numAt T i=(false,false):=by
 obtain ⟨g0,g1⟩:=hasT_iff.1 hi
 obtain ⟨k,rfl⟩:=Int.eq_ofNat_of_zero_le g0
 rw [h.nu.nums k _ (nodeAt_nat (by omega))]
 unfold numberD
 rw [ho]
 rfl
structure NmI (N F:Nat) (I:List Int) (T:TermD) (s:FlS):Prop where
 iv:InvT T
 ln:T.nodes.length≤N+2 * s.cnt
 fr:T.fresh≤F+s.cnt
 ks:∃K:List Int,K.Nodup∧K.length=s.cnt∧(∀x∈K,x∈I)∧∀x,s.named x=none→x∉K
 nm:∀i k,s.named i=some k→hasT T i=true∧ConstI T k∧(nodeAt T k).sort=(nodeAt T i).sort
 md:∀m∈s.made,ConstI T m.var∧(nodeAt T m.var).sort=(lookF T.S m.fn).res∧m.args ≠ []∧(∀a∈m.args,ConstI T a)∧m.args.length≤64
 ds:s.made.Pairwise fun a b=>a.var≠b.var∧¬(a.fn=b.fn∧a.args=b.args)
theorem NmI.mono {N N' F F':Nat} {I I':List Int} {s:FlS} (h:NmI N F I T s) (hn:N≤N') (hf:F≤F') (hi:∀x∈I,x∈I'):NmI N' F' I' T s:=by
 obtain ⟨K,k1,k2,k3,k4⟩:=h.ks
 exact⟨h.iv,by have:=h.ln;omega,by have:=h.fr;omega,⟨K,k1,k2,fun x hx=>hi x (k3 x hx),k4⟩,h.nm,h.md,h.ds⟩
theorem NmI.grow {N F a b:Nat} {I:List Int} {s:FlS} (h:NmI N F I T s) (hx:Ext T T') (hv:InvT T') (hl:T'.nodes.length≤T.nodes.length+a) (hf:T'.fresh≤T.fresh+b):NmI (N+a) (F+b) I T' s:=
 ⟨hv,by have:=h.ln;omega,by have:=h.fr;omega,h.ks,fun i k e=>by
  obtain ⟨h1,h2,h3⟩:=h.nm i k e
  exact⟨hx.has h1,h2.ext hx,by rw [hx.node h1,hx.node h2.has];exact h3⟩,fun m hm=>by
  obtain ⟨h1,h2,h3,h4,h5⟩:=h.md m hm
  exact⟨h1.ext hx,by rw [hx.node h1.has,hx.s];exact h2,h3,fun a ha=>(h4 a ha).ext hx,h5⟩,h.ds⟩
theorem name_step {N F : Nat} {I : List Int} {s : FlS} (h : NmI N F I T s) (hI : I.length ≤ 600) (hN : N ≤ 2000) (hF : F ≤ 1300) {y : Int} (hy : hasT T y = true) (hyI : y ∈ I) :
    ∃ (k : Int) (T2 : TermD) (s2 : FlS), nameD T s y = ((k, 0), T2, s2) ∧ NmI N F I T2 s2 ∧ Ext T T2 ∧ ConstI T2 k ∧ (nodeAt T2 k).sort = (nodeAt T y).sort ∧ s2.made = s.made := by
  have hX : nodeX T y = nodeAt T y := by unfold nodeX; rw [if_pos hy]
  unfold nameD
  rw [hX]
  by_cases hc : (nodeAt T y).op = 12 ∧ (nodeAt T y).args.length = 0
  · rw [if_pos hc]
    exact ⟨y, T, s, rfl, h, .refl T, ⟨hy, hc.1, List.eq_nil_of_length_eq_zero hc.2⟩, rfl, rfl⟩
  · rw [if_neg hc]
    cases hn : s.named y with
    | some k =>
      obtain ⟨_, h2, h3⟩ := h.nm y k hn
      exact ⟨k, T, s, rfl, h, .refl T, h2, h3, rfl⟩
    | none =>
      obtain ⟨K, k1, k2, k3, k4⟩ := h.ks
      have hyK := k4 y hn
      have hcnt : s.cnt + 1 ≤ I.length := by
        have := nodup_le (y :: K) I (List.nodup_cons.2 ⟨hyK, k1⟩) fun x hx => by
          rcases List.mem_cons.1 hx with rfl | hx
          · exact hyI
          · exact k3 x hx
        rw [List.length_cons] at this
        omega
      have hln := h.ln
      have hfr := h.fr
      have hsb := h.iv.si.node y
      obtain ⟨T1, e1, e2, x1, t1, f1, r1⟩ := fresh_ok2 h.iv.ti h.iv.fi hsb (by omega) (by omega)
      have I1 := (h.iv.fresh (nodeAt T y).sort (by omega)).1
      rw [e1] at I1
      change InvT T1 at I1
      have hk : T1.nodes[T.nodes.length]? = some (freshNode T (nodeAt T y).sort) := by rw [e2, List.getElem?_append_right (Nat.le_refl _), Nat.sub_self]; rfl
      obtain ⟨n1, n2⟩ := nodeAt_of hk
      have hck : ConstI T1 (T.nodes.length : Int) := ⟨n2, by rw [n1]; rfl, by rw [n1]; rfl⟩
      have hl1 : T1.nodes.length = T.nodes.length + 1 := by rw [e2, List.length_append]; rfl
      have hso : sortedD T1 8 ⟨#[]⟩ [(T.nodes.length : Int), y] = (0, true) := by
        have e : sortedD T1 8 ⟨#[]⟩ [(T.nodes.length : Int), y] = (0, alikeD T1 [(T.nodes.length : Int), y]) := rfl
        rw [e]
        have : alikeD T1 [(T.nodes.length : Int), y] = true := by
          unfold alikeD
          rw [allD_of fun z hz => ?_]
          · rfl
          · simp only [List.mem_cons, List.not_mem_nil, or_false] at hz
            rcases hz with rfl | rfl
            · rfl
            · show _ = (nodeAt T1 (T.nodes.length : Int)).sort
              rw [n1, x1.node hy]; rfl
        rw [this]
      obtain ⟨j, T2, m1, m2, x2, t2, l2, r2⟩ := make_ok t1 (op := 8) (nm := ⟨#[]⟩) (val := noRat) (args := [(T.nodes.length : Int), y]) (s := 0) (Nat.zero_le _) (Nat.zero_le _) (by unfold badHead; simp) (badVal_none (by decide)) (fun z hz => by
        simp only [List.mem_cons, List.not_mem_nil, or_false] at hz
        rcases hz with rfl | rfl
        · exact n2
        · exact x1.has hy) hso (by omega)
      have I2 := I1.make 8 ⟨#[]⟩ noRat [(T.nodes.length : Int), y] (Nat.zero_le _) (Nat.zero_le _)
      rw [m1] at I2
      change InvT T2 at I2
      have x12 := x1.trans x2
      have hm : mk2 T1 8 (T.nodes.length : Int) y = (((j : Int), 0), T2) := m1
      simp only [e1, hm, if_true]
      refine ⟨_, _, _, rfl, ?_, x12, hck.ext x2, by rw [x2.node n2, n1]; rfl, rfl⟩
      have hg := h.grow (a := 2) (b := 1) x12 I2 (by omega) (by omega)
      refine ⟨I2, by have := hg.ln; show T2.nodes.length ≤ N + 2 * (s.cnt + 1); omega, by have := hg.fr; show T2.fresh ≤ ((F : Nat) : Int) + ((s.cnt + 1 : Nat) : Int); omega, ⟨y :: K, List.nodup_cons.2 ⟨hyK, k1⟩, by rw [List.length_cons, k2], fun x hx => ?_, fun x hx => ?_⟩, fun i k e => ?_, hg.md, hg.ds⟩
      · rcases List.mem_cons.1 hx with rfl | hx
        · exact hyI
        · exact k3 x hx
      · change (if x = y then some (T.nodes.length : Int) else s.named x) = none at hx
        split at hx
        · cases hx
        · rename_i hxy
          intro hm2
          rcases List.mem_cons.1 hm2 with e | e
          · exact hxy e
          · exact k4 x hx e
      · change (if i = y then some (T.nodes.length : Int) else s.named i) = some k at e
        split at e
        · rename_i e3
          injection e with e
          subst e e3
          exact ⟨x12.has hy, hck.ext x2, by rw [x2.node n2, n1, x12.node hy]; rfl⟩
        · exact hg.nm i k e
theorem args_step {N F : Nat} {I : List Int} (hI : I.length ≤ 600) (hN : N ≤ 2000) (hF : F ≤ 1300) : ∀ (l out : List Int) (T : TermD) (s : FlS), NmI N F I T s → (∀ y ∈ l, hasT T y = true ∧ y ∈ I) →
    ∃ (ks : List Int) (T2 : TermD) (s2 : FlS), argsD l out T s = ((out ++ ks, 0), T2, s2) ∧ NmI N F I T2 s2 ∧ Ext T T2 ∧ ks.length = l.length ∧ (∀ k ∈ ks, ConstI T2 k) ∧ s2.made = s.made
  | [], out, T, s, h, _ => ⟨[], T, s, by show ((out, (0 : Int)), T, s) = _; rw [List.append_nil], h, .refl T, rfl, fun k hk => (by cases hk), rfl⟩
  | y :: l, out, T, s, h, hl => by
    obtain ⟨hy, hyI⟩ := hl y (by simp)
    obtain ⟨k, T1, s1, e1, n1, x1, c1, _, m1⟩ := name_step h hI hN hF hy hyI
    obtain ⟨ks, T2, s2, e2, n2, x2, l2, c2, m2⟩ := args_step hI hN hF l (out ++ [k]) T1 s1 n1 fun z hz => ⟨x1.has (hl z (by simp [hz])).1, (hl z (by simp [hz])).2⟩
    refine ⟨k :: ks, T2, s2, ?_, n2, x1.trans x2, by simp [l2], fun z hz => ?_, m2.trans m1⟩
    · show (if (nameD T s y).1.2 = 0 then _ else _) = _
      rw [e1]
      show argsD l (out ++ [k]) T1 s1 = _
      rw [e2, List.append_assoc]
      rfl
    · rcases List.mem_cons.1 hz with rfl | hz
      · exact c1.ext x2
      · exact c2 z hz
structure FVal (T0 T:TermD) (i y:Int):Prop where
 has:hasT T y=true
 so:(nodeAt T y).sort=(nodeAt T0 i).sort
 nu:numAt T y=numAt T0 i
 cl:CleanB appliedN T y
 id:CleanB appliedN T0 i→y=i
theorem FVal.ext {i y:Int} (h:FVal T0 T i y) (ho:OrdT T) (he:Ext T T'):FVal T0 T' i y:=
 ⟨he.has h.has,by rw [he.node h.has];exact h.so,by rw [he.num h.has];exact h.nu,h.cl.ext he ho h.has,h.id⟩
def imgs (tm:Int→Option Int) (done:List Int):List Int:=done.map fun i=>(tm i).getD 0
structure FvI (T0:TermD) (done:List Int) (st:TS FlS):Prop where
 ext:Ext T0 st.T
 n:NmI (T0.nodes.length+done.length) (T0.fresh.toNat+done.length) (imgs st.tm done) st.T st.s
 v:∀i∈done,∃y,st.tm i=some y∧FVal T0 st.T i y
theorem FvI.val {done:List Int} {st:TS FlS} (h:FvI T0 done st) {i:Int} (hi:i∈done):FVal T0 st.T i ((st.tm i).getD 0):=by
 obtain ⟨y,h1,h2⟩:=h.v i hi
 rw [h1];exact h2
theorem imgs_next {tm:Int→Option Int} {done:List Int} {id y:Int} (hd:id∉done):∀x∈imgs tm done,x∈imgs (setTo tm id y) (done ++ [id]):=fun x hx=>by
 obtain ⟨i,hi,rfl⟩:=List.mem_map.1 hx
 refine List.mem_map.2 ⟨i,List.mem_append_left _ hi,?_⟩
 show(setTo tm id y i).getD 0=_
 unfold setTo
 rw [if_neg fun e=>hd (by rw [←e];exact hi)]
theorem FvI.next {done:List Int} {st:TS FlS} (h:FvI T0 done st) {id y:Int} {T2:TermD} {s2:FlS} (hd:id∉done) (hx:Ext st.T T2) (hn:NmI (T0.nodes.length+(done.length+1)) (T0.fresh.toNat+(done.length+1)) (imgs st.tm done) T2 s2) (hv:FVal T0 T2 id y) :
  FvI T0 (done ++ [id]) ⟨setTo st.tm id y,T2,s2⟩:=by
 refine⟨h.ext.trans hx,?_,fun i hi=>?_⟩
 ·have:=hn.mono (Nat.le_refl _) (Nat.le_refl _) (imgs_next (y:=y) hd)
  rw [show(done ++ [id]).length=done.length+1 from by simp]
  exact this
 ·show ∃z,setTo st.tm id y i=some z∧_
  unfold setTo
  by_cases e:i=id
  ·rw [if_pos e,e];exact⟨y,rfl,hv⟩
  ·rw [if_neg e]
   rcases List.mem_append.1 hi with hi | hi
   ·obtain ⟨z,h1,h2⟩:=h.v i hi
    exact⟨z,h1,h2.ext h.n.iv.ti.ok.ord hx⟩
   ·exact absurd (List.mem_singleton.1 hi) e
theorem alikeM_iff {nm:ByteArray} {args:List Int} {o:MadeD}:alikeM nm args o=true↔o.fn=nm∧o.args=args:=by unfold alikeM;simp
theorem flat_step {done : List Int} {st : TS FlS} (h0 : InvT T0) (h : FvI T0 done st) {id : Int} (hd : id ∉ done) (hid : hasT T0 id = true) (ha : ∀ a ∈ (nodeAt T0 id).args, a ∈ done) (hdl : done.length ≤ 550) (hl : T0.nodes.length ≤ 600) (hf : T0.fresh ≤ 600) :
    ∃ st', turn1 flatF st id = (0, st') ∧ FvI T0 (done ++ [id]) st' := by
  have hnd := h.ext.node hid
  have hf0 := h0.ti.ok.sm.fr.1
  have hmem : nodeAt T0 id ∈ T0.nodes := by
    obtain ⟨g0, g1⟩ := hasT_iff.1 hid
    obtain ⟨k, rfl⟩ := Int.eq_ofNat_of_zero_le g0
    exact List.mem_of_getElem? (nodeAt_nat (by omega))
  have hnum0 : numAt T0 id = numberD T0 (nodeAt T0 id) := by
    obtain ⟨g0, g1⟩ := hasT_iff.1 hid
    obtain ⟨k, rfl⟩ := Int.eq_ofNat_of_zero_le g0
    exact h0.ti.nu.nums k _ (nodeAt_nat (by omega))
  have hd16 := h0.ti.nu.div _ hmem
  have hself : CleanB appliedN T0 id → ∀ a ∈ (nodeAt T0 id).args, CleanB appliedN T0 a := fun hc a haa => hc.arg haa
  have hcself : CleanB appliedN T0 id → appliedN (nodeAt T0 id) = false := fun hc => hc id (.refl id)
  have hso := fun hne => h0.si.so _ hmem hne
  have hvl := h0.si.vl _ hmem
  have hvals : ∀ a ∈ (nodeAt T0 id).args, FVal T0 st.T a ((st.tm a).getD 0) := fun a haa => h.val (ha a haa)
  have hn0 := h.n
  have hIl : (imgs st.tm done).length ≤ 600 := by unfold imgs; rw [List.length_map]; omega
  have hn1 : NmI (T0.nodes.length + (done.length + 1)) (T0.fresh.toNat + (done.length + 1)) (imgs st.tm done) st.T st.s := hn0.mono (by omega) (by omega) fun x hx => hx
  unfold turn1
  rw [hnd]
  generalize hx0 : nodeAt T0 id = x at *
  obtain ⟨op, nm, val, args, so⟩ := x
  dsimp only at *
  have hmap : toA st.tm args = args.map fun a => (st.tm a).getD 0 := rfl
  have hlen : (toA st.tm args).length = args.length := by rw [hmap, List.length_map]
  cases hap : appliedN ⟨op, nm, val, args, so⟩ with
  | true =>
    obtain ⟨hop, hal⟩ : op = 12 ∧ 0 < args.length := by unfold appliedN at hap; simpa using hap
    subst hop
    obtain ⟨hs1, hbh, _⟩ := hso (.inl fun e => by rw [e] at hal; simp at hal)
    have hal64 : args.length ≤ 64 := by unfold badHead at hbh; simp at hbh; omega
    have hres : so = (lookF T0.S nm).res := by
      have e : sortedD T0 12 nm args = callD T0 nm args := rfl
      rw [e] at hs1
      unfold callD at hs1
      split at hs1
      · split at hs1
        · injection hs1 with hs1 _; exact hs1.symm
        · cases hs1
      · cases hs1
    have hap2 : appliedN (withArgs ⟨12, nm, val, args, so⟩ (toA st.tm args)) = true := by
      unfold appliedN withArgs
      rw [hlen]
      simpa using hal
    obtain ⟨ks, T2, s2, e2, n2, x2, l2, c2, m2⟩ := args_step hIl (by omega) (by omega) (toA st.tm args) [] st.T st.s hn0 fun y hy => by
      rw [hmap] at hy
      obtain ⟨a, haa, rfl⟩ := List.mem_map.1 hy
      exact ⟨(hvals a haa).has, List.mem_map.2 ⟨a, ha a haa, rfl⟩⟩
    rw [List.nil_append] at e2
    have hks : ks ≠ [] := fun e => by rw [e, hlen] at l2; simp at l2; omega
    have hE : flatF st.T st.s id (withArgs ⟨12, nm, val, args, so⟩ (toA st.tm args)) = flatR nm so ((ks, 0), T2, s2) := by
      unfold flatF
      rw [hap2, if_pos rfl, ← e2]
      rfl
    rw [hE]
    unfold flatR
    rw [if_pos rfl]
    dsimp only
    have hnum12 : numAt T0 id = (false, false) := by rw [hnum0]; rfl
    cases hfd : s2.made.find? (alikeM nm ks) with
    | some o =>
      obtain ⟨o1, o2⟩ := alikeM_iff.1 (List.find?_some hfd)
      obtain ⟨q1, q2, _, _, _⟩ := n2.md o (List.mem_of_find?_eq_some hfd)
      refine ⟨⟨setTo st.tm id o.var, T2, s2⟩, rfl, h.next hd x2 (n2.mono (by omega) (by omega) fun x hx => hx) ⟨q1.has, ?_, ?_, q1.clean, fun hc => ?_⟩⟩
      · rw [q2, x2.s, h.ext.s, o1, ← hres, hx0]
      · rw [num_app n2.iv.ti q1.has q1.op, hnum12]
      · have := hcself hc; rw [hap] at this; cases this
    | none =>
      have hsb : isB T2.S.sorts.length so = true := by rw [x2.s, h.ext.s]; exact h0.si.sb _ hmem
      have hln := n2.ln
      have hfr := n2.fr
      obtain ⟨K, k1, k2, k3, k4⟩ := n2.ks
      have hcnt : s2.cnt ≤ 600 := by
        have := nodup_le K _ k1 k3
        omega
      obtain ⟨T3, e3, g3, x3, t3, f3, r3⟩ := fresh_ok2 n2.iv.ti n2.iv.fi hsb (by omega) (by omega)
      have I3 := (n2.iv.fresh so (by omega)).1
      rw [e3] at I3
      change InvT T3 at I3
      have hk : T3.nodes[T2.nodes.length]? = some (freshNode T2 so) := by rw [g3, List.getElem?_append_right (Nat.le_refl _), Nat.sub_self]; rfl
      obtain ⟨v1, v2⟩ := nodeAt_of hk
      have hck : ConstI T3 (T2.nodes.length : Int) := ⟨v2, by rw [v1]; rfl, by rw [v1]; rfl⟩
      have hl3 : T3.nodes.length = T2.nodes.length + 1 := by rw [g3, List.length_append]; rfl
      simp only [e3, if_true]
      refine ⟨⟨setTo st.tm id (T2.nodes.length : Int), T3, pushM s2 ⟨(T2.nodes.length : Int), nm, ks⟩⟩, rfl, h.next hd (x2.trans x3) ?_ ⟨v2, ?_, ?_, hck.clean, fun hc => ?_⟩⟩
      · have hg := (n2.grow (a := 1) (b := 1) x3 I3 (by omega) (by omega)).mono (N' := T0.nodes.length + (done.length + 1)) (F' := T0.fresh.toNat + (done.length + 1)) (by omega) (by omega) fun x hx => hx
        refine ⟨hg.iv, hg.ln, hg.fr, hg.ks, hg.nm, fun m hm => ?_, ?_⟩
        · rcases List.mem_append.1 hm with hm | hm
          · exact hg.md m hm
          · obtain rfl := List.mem_singleton.1 hm
            exact ⟨hck, by show (nodeAt T3 (T2.nodes.length : Int)).sort = (lookF T3.S nm).res; rw [v1, x3.s, x2.s, h.ext.s, ← hres]; rfl, hks, fun a haa => (c2 a haa).ext x3, by show ks.length ≤ 64; rw [l2, hlen]; exact hal64⟩
        · show (s2.made ++ [(⟨(T2.nodes.length : Int), nm, ks⟩ : MadeD)]).Pairwise _
          rw [List.pairwise_append]
          refine ⟨n2.ds, by simp, fun a haa b hb => ?_⟩
          obtain rfl := List.mem_singleton.1 hb
          refine ⟨fun e => ?_, fun e => ?_⟩
          · have h1 := (n2.md a haa).1.has
            have h2 := hasT_iff.1 h1
            change a.var = (T2.nodes.length : Int) at e
            omega
          · have := List.find?_eq_none.1 hfd a haa
            rw [alikeM_iff.2 ⟨e.1, e.2⟩] at this
            exact this rfl
      · rw [v1, hx0]; rfl
      · rw [num_app t3 v2 (by rw [v1]; rfl), hnum12]
      · have := hcself hc; rw [hap] at this; cases this
  | false =>
    have hap2 : appliedN (withArgs ⟨op, nm, val, args, so⟩ (toA st.tm args)) = false := by
      unfold appliedN withArgs at *
      rw [hlen]
      exact hap
    have hF : flatF st.T st.s id (withArgs ⟨op, nm, val, args, so⟩ (toA st.tm args)) = ((0, false, 0), st.T, st.s) := by
      unfold flatF
      rw [hap2]
      rfl
    rw [hF]
    unfold turnR
    rw [if_neg (by simp), if_neg (by simp)]
    by_cases hsame : sameA st.tm args = true
    · rw [if_pos hsame]
      have hid2 : ∀ a ∈ args, (st.tm a).getD 0 = a := fun a haa => by
        have := List.all_eq_true.1 hsame a haa
        simpa using this
      exact ⟨_, rfl, h.next hd (.refl _) hn1 ⟨h.ext.has hid, by rw [h.ext.node hid], h.ext.num hid, .of (by rw [hnd]; exact hap) (fun a haa => by rw [hnd] at haa; have := (hvals a haa).cl; rw [hid2 a haa] at this; exact this), fun _ => rfl⟩⟩
    · rw [if_neg hsame]
      have hne : args ≠ [] := fun e => hsame (by subst e; rfl)
      obtain ⟨hs1, hb1, hv1⟩ := hso (.inl hne)
      have hln := hn0.ln
      obtain ⟨K, k1, k2, k3, k4⟩ := hn0.ks
      have hcnt : st.s.cnt ≤ 600 := by
        have := nodup_le K _ k1 k3
        omega
      obtain ⟨j, T2, e1, e2, x2, t2, l2, f2⟩ := make_ok h.n.iv.ti (op := op) (nm := nm) (val := val) (args := toA st.tm args) (s := so) hvl.1 hvl.2 (by rw [hmap, badHead_map]; exact hb1) hv1 (fun y hy => by
        rw [hmap] at hy
        obtain ⟨a, haa, rfl⟩ := List.mem_map.1 hy
        exact (hvals a haa).has) (by
        rw [hmap, sortedD_map h.ext.s _ op nm fun a haa => ⟨(hvals a haa).so, (hvals a haa).nu⟩]; exact hs1) (by omega)
      have I2 := h.n.iv.make op nm val (toA st.tm args) hvl.1 hvl.2
      rw [e1] at I2 ⊢
      change InvT T2 at I2
      obtain ⟨n1, n2⟩ := nodeAt_of e2
      have o := h.n.iv.ti.ok.ord
      have hnu : numAt T2 (j : Int) = numAt T0 id := by
        rw [hnum0, t2.nu.nums j _ e2]
        exact numberD_map (x := ⟨op, nm, val, args, so⟩) (y := ⟨op, nm, val, toA st.tm args, so⟩) (fun a => (st.tm a).getD 0) rfl rfl hmap hd16 fun a haa => by rw [x2.num (hvals a haa).has]; exact (hvals a haa).nu
      refine ⟨_, rfl, h.next hd x2 ((hn0.grow (a := 1) (b := 0) x2 I2 l2 (by omega)).mono (by omega) (by omega) fun x hx => hx) ⟨n2, by rw [n1, hx0], hnu, .of (by rw [n1]; exact hap2) (fun a haa => ?_), fun hc => absurd (List.all_eq_true.2 fun a haa => ?_) hsame⟩⟩
      · rw [n1] at haa
        change a ∈ toA st.tm args at haa
        rw [hmap] at haa
        obtain ⟨b, hb, rfl⟩ := List.mem_map.1 haa
        exact (hvals b hb).cl.ext x2 o (hvals b hb).has
      · have := (hvals a haa).id (hself hc a haa)
        simpa using this
theorem flat_list (h0 : InvT T0) (hf : T0.fresh ≤ 600) (hn : T0.nodes.length ≤ 600) : ∀ (l done : List Int) (st : TS FlS), FvI T0 done st → PostO T0 (done ++ l) → (done ++ l).Nodup → (∀ x ∈ done ++ l, hasT T0 x = true) → (done ++ l).length ≤ 550 →
    ∃ st', turnL flatF l st = (0, st') ∧ FvI T0 (done ++ l) st'
  | [], done, st, h, _, _, _, _ => ⟨st, rfl, by rw [List.append_nil]; exact h⟩
  | id :: l, done, st, h, hp, hnd, hh, hl => by
    have hl2 : done.length ≤ 550 := by rw [List.length_append] at hl; omega
    have hd : id ∉ done := fun e => by
      rw [List.nodup_append] at hnd
      exact hnd.2.2 id e id (by simp) rfl
    obtain ⟨st1, e1, h1⟩ := flat_step h0 h hd (hh id (by simp)) (hp done id l rfl) hl2 hn hf
    have e : done ++ id :: l = (done ++ [id]) ++ l := by simp
    rw [e] at hp hh hl hnd ⊢
    obtain ⟨st', e2, h2⟩ := flat_list h0 hf hn l (done ++ [id]) st1 h1 hp hnd hh hl
    refine ⟨st', ?_, h2⟩
    show (if _ then _ else _) = _
    rw [if_pos (by rw [e1]), e1]
    exact e2
structure FlatR (T0:TermD) (ids out:List Int) (made:List MadeD) (more:List Int) (T':TermD):Prop where
 len:out.length=ids.length
 id:∀k,k<ids.length→CleanB appliedN T0 (nth ids k)→nth out k=nth ids k
 md:∀m∈made,ConstI T' m.var∧m.args ≠ []∧(∀a∈m.args,ConstI T' a)∧m.args.length≤64
 ml:made.length≤T'.nodes.length
 ds:made.Pairwise fun a b=>a.var≠b.var∧¬(a.fn=b.fn∧a.args=b.args)
 iv:InvT T'
 ext:Ext T0 T'
theorem choice_none (ho:OrdT T) {i:Int} (hi:hasT T i=true) (hc:Clean T i):anyT T choiceN i=false:=by
 unfold anyT
 rw [List.any_eq_false]
 intro x hx
 obtain ⟨j,hj,h2,h3⟩:=(walkT_reach ho [i] x).1 hx
 obtain rfl:=List.mem_singleton.1 hj
 have h4:=hc x h3
 have h5:nodeX T x=nodeAt T x:=by unfold nodeX;rw [if_pos (reach_has ho hi h3)]
 rw [h5]
 have:choiceN (nodeAt T x)=nbN (nodeAt T x):=rfl
 rw [this,h4]
 simp
theorem flat_once (h0:InvT T0) (hf:T0.fresh≤600) (hn:T0.nodes.length≤550) {ids:List Int} (hi:∀x∈ids,Fact T0 x) :
  ∃out made more T',allFlat T0 ids=((out,made,more,0),T')∧FlatR T0 ids out made more T':=by
 have ho:=h0.ti.ok.ord
 have hb:=boolsT_of fun x hx=>⟨(hi x hx).has,(hi x hx).so⟩
 have hc:ids.any (anyT T0 choiceN)=false:=by
  rw [List.any_eq_false]
  intro x hx
  rw [choice_none ho (hi x hx).has (hi x hx).cl]
  simp
 have hw:(walkT T0 ids).2.length≤T0.nodes.length:=pigeon _ _ (walkT_nodup ho ids) fun x hx=>hasT_iff.1 (walk_has ho ids x hx)
 have hst:FvI T0 [] ⟨fun _=>none,T0,flS0⟩:=⟨.refl _,⟨h0,by show T0.nodes.length≤T0.nodes.length+0+2 * 0;omega,by have:=h0.ti.ok.sm.fr.1;show T0.fresh≤((T0.fresh.toNat+0:Nat):Int)+((0:Nat):Int);omega,⟨[],List.nodup_nil,rfl,fun x hx=>(by cases hx),fun x _ hx=>(by cases hx)⟩,fun i k e=>(by cases e),fun m hm=>(by cases hm),List.Pairwise.nil⟩,fun i hi=>(by cases hi)⟩
 obtain ⟨st,e1,h1⟩:=flat_list h0 hf (by omega) (walkT T0 ids).2 [] ⟨fun _=>none,T0,flS0⟩ hst (walkT_post ho ids) (walkT_nodup ho ids) (walk_has ho ids) (by rw [List.nil_append];omega)
 rw [List.nil_append] at h1
 have hval:∀i∈ids,FVal T0 st.T i ((st.tm i).getD 0):=fun i hi'=>h1.val ((walkT_reach ho ids i).2 ⟨i,hi',(hi i hi').has,.refl i⟩)
 refine⟨ids.map fun i=>(st.tm i).getD 0,st.s.made,st.s.more,st.T,?_,⟨by simp,fun k hk hc=>?_,fun m hm=>?_,?_,h1.n.ds,h1.n.iv,h1.ext⟩⟩
 ·unfold allFlat turnD outT
  rw [hb,hc,e1]
  rfl
 ·rw [nth_map hk]
  exact(hval _ (nth_mem hk)).id hc
 ·obtain ⟨q1,_,q3,q4,q5⟩:=h1.n.md m hm
  exact⟨q1,q3,q4,q5⟩
 ·have:=pigeon st.T.nodes.length (st.s.made.map (·.var)) (by
   show(st.s.made.map (·.var)).Pairwise (· ≠ ·)
   rw [List.pairwise_map]
   exact h1.n.ds.imp fun h=>h.1) fun x hx=>by
   obtain ⟨m,hm,rfl⟩:=List.mem_map.1 hx
   exact hasT_iff.1 (h1.n.md m hm).1.has
  rwa [List.length_map] at this
theorem clean_plain (he:Ext T T') (ho:OrdT T) (ho':OrdT T') {i:Int} (hi:hasT T i=true) (h:plainT T' i=true):CleanB appliedN T i:=fun z hz=>by
 have hz':Reach T' i z:=by
  clear h
  induction hz with
  | refl i=>exact .refl i
  | arg ha _ ih=>exact .arg (by rw [he.node hi];exact ha) (ih (has_arg ho hi ha))
 have hi':=he.has hi
 unfold plainT anyT at h
 rw [hi',Bool.true_and,Bool.not_eq_true',List.any_eq_false] at h
 have h1:=h z ((walkT_reach ho' [i] z).2 ⟨i,by simp,hi',hz'⟩)
 have hz2:=reach_has ho hi hz
 have h5:nodeX T' z=nodeAt T z:=by unfold nodeX;rw [if_pos (he.has hz2),he.node hz2]
 rw [h5] at h1
 simpa using h1
end
theorem bools17_any (r:Nat) (T:TermD) (ids picks:List Int) (ai ap:Option Addr) (ni n ci cp:Nat) (w:World) (h:RRd r T.nodes w) (hi:RdI w ai ni ids) (hni:ni≤60) (hr:∀i∈ids,-1≤i∧i<(T.nodes.length:Int)) (hp:RdI w ap n picks) (hn:n≤8) :
  Calls Tryz.prog 28 #[.pointer (some ⟨r,0,none⟩),.slice ai ni ci,.slice ap n cp] w fun e w'=>BoolsP T w e w':=by
 have h':=hid h
 have hi':=hid hi
 have hp':=hid hp
 have hr':=hid hr
 have hlp:=hid hp.len
 have hli:=hid hi.len
 clear h hi hp hr
 go_enter Tryz.func28,Tryz.ntmps28
 go_wp2
 go_loopw [7,8,9] (fun v7 v8 _ wr=>∃(k:Nat) (L:List Int) (a7:Option Addr) (c7:Nat),k≤n∧v8 = .int .i64 k∧v7 = .slice a7 L.length c7∧L.length≤k∧Hid (OwnC wr w.heap.size 3 1 (.slice a7 L.length c7) L.length (L.map (Value.int .i64)))∧Hid (Below w.heap.size w wr)∧Hid (∀x∈L,hasT T x=true∧(nodeAt T x).sort=0)) (fun _ v8 _ _=>n - (intOf v8).toNat)
 case atStart=>exact⟨0,[],none,0,Nat.zero_le _,rfl,rfl,Nat.le_refl _,OwnC.nil _ _ _ _,Below.refl _ _,fun x hx=>by simp at hx⟩
 case round=>
  obtain ⟨k,L,a7,c7,hk,rfl,rfl,hLk,hO,hB,hL⟩:=hrel
  by_cases hkn:k<n
  case neg=>
   have hkni:¬(k:Int)<n:=by omega
   have hknd:decide ((k:Int)<n)=false:=decide_eq_false hkni
   go_wp2
   go_ret
   exact⟨L,a7,c7,rfl,hO.out,hB.out,by omega,hL.out⟩
  case pos=>
   have hkni:(k:Int)<n:=by omega
   by_cases hn0:0<ni
   case neg=>
    have hn0i:¬(0:Int)<ni:=by omega
    have hn0d:decide ((0:Int)<ni)=false:=decide_eq_false hn0i
    go_wp2
    go_ret
    exact⟨L,a7,c7,rfl,hO.out,hB.out,by omega,hL.out⟩
   case pos=>
    have hn0i:(0:Int)<ni:=by omega
    obtain ⟨bp,op,rfl,kp⟩:=(hp'.out.below hB.out (Nat.le_refl _)).at k hkn
    have hrn:=hid (rnd_any (nth picks k) ni wr hn0i (by omega))
    have hbd:=rndZ_bd (nth picks k) ni hn0i
    obtain ⟨t,ht⟩:=Int.eq_ofNat_of_zero_le hbd.1
    rw [ht] at hrn hbd
    have htn:t<ni:=by omega
    have hti:(t:Int)<ni:=hbd.2
    obtain ⟨bi,oi,rfl,ki⟩:=(hi'.out.below hB.out (Nat.le_refl _)).at t htn
    have hrg:=hr'.out _ (nth_mem (show t<ids.length by rw [hli.out];exact htn))
    clear hbd ht
    generalize nth picks k=pk at *
    generalize nth ids t=x at *
    go_wp2_with fail
    refine hrn.out.mono ?_;rintro e w2 ⟨rfl,rfl⟩
    clear hrn
    by_cases hx0:0≤x
    case neg=>
     have hx0d:decide (0≤x)=false:=decide_eq_false hx0
     go_wp2
     go_roundw
     case rel=>exact⟨k+1,L,a7,c7,by omega,by go_num,rfl,by omega,hO.out,hB.out,hL.out⟩
     case measure=>first | (simp [intOf];done) | (simp [intOf];omega)
    case pos=>
     obtain ⟨j,rfl⟩:=Int.eq_ofNat_of_zero_le hx0
     have hjN:j<T.nodes.length:=by omega
     have hjNi:(j:Int)<T.nodes.length:=hrg.2
     obtain ⟨b9,o9,cL,y1,y2⟩:=(h'.out.all hB.out).sortCell hjN
     have hhas:hasT T (j:Int)=true:=hasT_iff.2 ⟨by omega,by omega⟩
     by_cases hs:(nodeAt T (j:Int)).sort=0
     case neg=>
      have hsd:decide ((nodeAt T (j:Int)).sort=0)=false:=decide_eq_false hs
      have hsb:((nodeAt T (j:Int)).sort == 0)=false:=by simpa using hs
      generalize (nodeAt T (j:Int)).sort=s at *
      clear hhas
      go_wp2
      go_roundw
      case rel=>exact⟨k+1,L,a7,c7,by omega,by go_num,rfl,by omega,hO.out,hB.out,hL.out⟩
      case measure=>first | (simp [intOf];done) | (simp [intOf];omega)
     case pos=>
      have hL2:=hid (show ∀x∈L ++ [(j:Int)],hasT T x=true∧(nodeAt T x).sort=0 from fun x hx=>by
       rcases List.mem_append.1 hx with hx | hx
       ·exact hL.out x hx
       ·obtain rfl:=List.mem_singleton.1 hx;exact⟨hhas,hs⟩)
      rw [hs] at y2
      obtain ⟨i0,hi0,hz0,hz1,hz2⟩:=info_parts info_int
      clear hs hhas hL
      go_wp2_with (at_builtin;refine wpList_append_C rfl (.tmp 44) (.tmp 46) rfl Tryz.underlying23 hi0 hz0 hz1 hz2 rfl (by decide) rfl rfl (hO.out.alloc _) (Src.one (b:=wr.heap.size) (news:=[.int .i64 j]) rfl ?c1) ?c2 ?c3 ?c4 ?c5 ?_)
      (try case c1=>intro j u hu;rw [World.cell?_alloc_new];simpa using hu)
      (try case c2=>first | rfl | (intro u hu;simp at hu;subst hu;rfl))
      (try case c3=>unfold maxLen;omega)
      (try case c4=>omega)
      (try case c5=>have:=hB.out.size;first | omega | (simp;omega))
      intro v' w6 ho6 hg6 hl6
      have hzS:=hB.out.size
      have B6:=hid (show Below w.heap.size w w6 from(hB.out.alloc hB.out.size _).trans ((Below.refl _ _).grown hg6 (by simp;omega) (fun k hk=>(hO.out.lt k hk).1)))
      have O6:=hid (show OwnC w6 w.heap.size 3 1 v' (L ++ [(j:Int)]).length ((L ++ [(j:Int)]).map (Value.int .i64)) from by rw [List.length_append,List.length_singleton,List.map_append];exact ho6)
      obtain ⟨a6,c6,rfl,_,_⟩:=O6.out.slice
      clear ho6 hg6 hl6 hzS
      go_wp2
      go_roundw
      case rel=>exact⟨k+1,L ++ [(j:Int)],a6,c6,by omega,by go_num,by first | rfl | (congr 1;simp),by simp;omega,O6.out,B6.out,hL2.out⟩
      case measure=>first | (simp [intOf];done) | (simp [intOf];omega)
end Go.Proofs.YtgoojkiccdjplaaGreatDoor
