/-
  Parts of this claim's texts, one behind the other: CN UN OP CO GC FP UB. No condition.
-/
import Derived.Test.YtgoojkiccdjplaaGreatDoorN27
import Derived.Test.YtgoojkiccdjplaaGreatDoorN24
import Derived.Test.YtgoojkiccdjplaaGreatDoorN1
import Derived.Deep.Slices
import Derived.OpenShut
set_option linter.unusedVariables false
set_option linter.unusedSimpArgs false
set_option maxRecDepth 100000
set_option maxHeartbeats 16000000
namespace Go.Proofs.YtgoojkiccdjplaaGreatDoor
open Go.RowKit Go.Sort Go.Lib
def rndZ (k n:Int):Int:=k.tmod n % n
theorem rnd_any (k n:Int) (w:World) (h0:0<n) (h1:n<4611686018427387904) :
  Calls Tryz.prog 37 #[.int .i64 k,.int .i64 n] w fun e w'=>e = .returned (.int .i64 (rndZ k n))∧w=w':=by
 have h3:(n == 0)=false:=by simp;omega
 have h2:=Int.tmod_lt_of_pos k h0
 have h4:-n<k.tmod n:=by
  have:=Int.lt_tmod_of_pos k h0
  omega
 have e:=@hid (rndZ k n=k.tmod n % n) rfl
 generalize hq:k.tmod n=q at *
 go_enter Tryz.func37,Tryz.ntmps37
 go_wp2
 go_ret
 exact⟨ret_int (by rw [e.out,Int.add_emod_right]),rfl⟩
theorem sameV_num {m n d : Int} (hd : 0 < d) : sameV (numV m d) (numV n d) = decide (m = n) := by
  show (decide ((1 : Int) = 1) && (if (1 : Int) = 0 then _ else if (1 : Int) = 1 then alikeR (ofR m d) (ofR n d) else _)) = _
  rw [decide_eq_true rfl, if_neg (by decide), if_pos rfl, Bool.true_and]
  by_cases h : m = n
  · subst h
    rw [decide_eq_true rfl]
    exact alikeR_iff.2 rfl
  · rw [decide_eq_false h]
    cases ha : alikeR (ofR m d) (ofR n d) with
    | false => rfl
    | true =>
      have h2 := alikeR_iff.1 ha
      rw [ofR_fr hd, ofR_fr hd] at h2
      exact absurd ((frat_eq (by omega)).1 (ofQ_inj h2)) h
def tellRow (rows values:List Int) (i:Nat):RowD:=⟨[numV (rndZ (nth rows i) 6) 3],numV (rndZ (nth values i) 100) 1⟩
def tellRows (rows values:List Int) (k:Nat):List RowD:=(List.range k).map (tellRow rows values)
def tellWant (rows values:List Int) (q:Int):Nat→Int
 | 0=>-1
 | k+1=>if rndZ (nth rows k) 6=q∧tellWant rows values q k<0 then rndZ (nth values k) 100 else tellWant rows values q k
def tellT (rows values:List Int) (k:Nat):TbD:=⟨sf,tellRows rows values k,numV (-1) 1⟩
theorem tellRows_succ (rows values:List Int) (k:Nat):tellRows rows values (k+1)=tellRows rows values k ++ [tellRow rows values k]:=by
 unfold tellRows
 rw [List.range_succ,List.map_append];rfl
theorem tellRows_len (rows values:List Int) (k:Nat):(tellRows rows values k).length=k:=by unfold tellRows;simp
theorem rnd_bd (k:Int) {n:Int} (h:0<n):0≤rndZ k n∧rndZ k n<n:=⟨Int.emod_nonneg _ (by omega),Int.emod_lt_of_pos _ h⟩
theorem tell_is (rows values:List Int) (q:Int) (i:Nat):rowIs [numV q 3] (tellRow rows values i)=decide (rndZ (nth rows i) 6=q):=by
 unfold rowIs tellRow sameL
 rw [sameV_num (by decide)]
 show(decide _ && true)=_
 rw [Bool.and_true]
theorem tell_find (rows values : List Int) (q : Int) : ∀ k, (tellWant rows values q k = -1 ∧ (tellRows rows values k).find? (rowIs [numV q 3]) = none) ∨ (0 ≤ tellWant rows values q k ∧ tellWant rows values q k < 100 ∧ ∃ r, (tellRows rows values k).find? (rowIs [numV q 3]) = some r ∧ r.val = numV (tellWant rows values q k) 1)
  | 0 => .inl ⟨rfl, rfl⟩
  | k + 1 => by
    rw [tellRows_succ, List.find?_append]
    have hb := rnd_bd (nth values k) (n := 100) (by decide)
    have hs := tell_is rows values q k
    rcases tell_find rows values q k with ⟨h1, h2⟩ | ⟨h1, h3, r, h4, h5⟩
    · rw [h2]
      by_cases hq : rndZ (nth rows k) 6 = q
      · right
        have e : tellWant rows values q (k + 1) = rndZ (nth values k) 100 := by
          show (if _ then _ else _) = _
          rw [if_pos ⟨hq, by omega⟩]
        rw [e]
        refine ⟨hb.1, hb.2, tellRow rows values k, ?_, rfl⟩
        rw [List.find?_cons_of_pos (by rw [hs, decide_eq_true hq])]
        rfl
      · left
        have e : tellWant rows values q (k + 1) = tellWant rows values q k := by
          show (if _ then _ else _) = _
          rw [if_neg fun h => hq h.1]
        rw [e]
        refine ⟨h1, ?_⟩
        rw [List.find?_cons_of_neg (by rw [hs, decide_eq_false hq]; decide)]
        rfl
    · right
      have e : tellWant rows values q (k + 1) = tellWant rows values q k := by
        show (if _ then _ else _) = _
        rw [if_neg fun h => by have := h.2; omega]
      rw [e]
      exact ⟨h1, h3, r, by rw [h4]; rfl, h5⟩
theorem tell_1 (rows values:List Int) (q:Int) (k:Nat):applyT (tellT rows values k) [numV q 3]=numV (tellWant rows values q k) 1:=by
 unfold applyT tellT
 dsimp only
 rcases tell_find rows values q k with ⟨h1,h2⟩ | ⟨_,_,r,h4,h5⟩
 ·rw [h2,h1]
 ·rw [h4];exact h5
theorem tell_none {rows values:List Int} {k:Nat} {args:List ValD} (h:∀i,rowIs args (tellRow rows values i)=false):applyT (tellT rows values k) args=numV (-1) 1:=by
 unfold applyT tellT
 dsimp only
 have:(tellRows rows values k).find? (rowIs args)=none:=by
  rw [List.find?_eq_none]
  intro r hr
  unfold tellRows at hr
  obtain ⟨i,_,rfl⟩:=List.mem_map.1 hr
  rw [h i];decide
 rw [this]
theorem tell_2 (rows values:List Int) (k:Nat):applyT (tellT rows values k) []=numV (-1) 1:=tell_none fun _=>rfl
theorem tell_3 (rows values:List Int) (k:Nat) (q:Int):applyT (tellT rows values k) [⟨2,false,noRat,q⟩]=numV (-1) 1:=tell_none fun _=>rfl
theorem want_bd (rows values:List Int) (q:Int) (k:Nat):-1≤tellWant rows values q k∧tellWant rows values q k<100:=by
 rcases tell_find rows values q k with ⟨h1,_⟩ | ⟨h1,h2,_⟩ <;> omega
theorem tell_small (rows values:List Int) {k:Nat} (hk:k≤12):smallT (tellT rows values k):=by
 refine⟨fun r hr=>?_,small_numV (by decide) (by decide) (by decide),by show(tellRows rows values k).length≤_;rw [tellRows_len];omega⟩
 obtain ⟨i,_,rfl⟩:=List.mem_map.1 (show r∈(List.range k).map (tellRow rows values) from hr)
 have h1:=rnd_bd (nth rows i) (n:=6) (by decide)
 have h2:=rnd_bd (nth values i) (n:=100) (by decide)
 exact⟨fun v hv=>by obtain rfl:=List.mem_singleton.1 hv;exact small_numV (by decide) ⟨by omega,by omega⟩ (by decide),small_numV (by decide) ⟨by omega,by omega⟩ (by decide),(by show(1:Nat)≤_;decide)⟩
theorem declared10_any (w:World):Calls Tryz.prog 59 #[] w fun e w'=>DeclPost w e w':=by
 go_enter Tryz.func59,Tryz.ntmps59
 go_wp2
 go_ret
 have i1:=RdI.lit [1] 3 w (by simp)
 generalize h1:w.alloc (.cells #[.int .i64 1] 3)=w1 at *
 have i1':RdI w1 (some ⟨w.heap.size,0,none⟩) 1 [1]:=by rw [←h1];exact i1
 have s1:w1.heap.size=w.heap.size+1:=by rw [←h1];simp
 have b1:Below w.heap.size w w1:=by rw [←h1];exact(Below.refl _ _).alloc (Nat.le_refl _) _
 have i2:=RdI.lit [2,1] 3 w1 (by simp)
 generalize h2:w1.alloc (.cells #[.int .i64 2,.int .i64 1] 3)=w2 at *
 have i2':RdI w2 (some ⟨w.heap.size+1,0,none⟩) 2 [2,1]:=by rw [←h2,←s1];exact i2
 have s2:w2.heap.size=w.heap.size+1+1:=by rw [←h2];simp [s1]
 have b2:Below w1.heap.size w1 w2:=by rw [←h2];exact(Below.refl _ _).alloc (Nat.le_refl _) _
 have i3:=RdI.lit [2] 3 w2 (by simp)
 generalize h3:w2.alloc (.cells #[.int .i64 2] 3)=w3 at *
 have i3':RdI w3 (some ⟨w.heap.size+2,0,none⟩) 1 [2]:=by rw [←h3,show w.heap.size+2=w2.heap.size by omega];exact i3
 have s3:w3.heap.size=w.heap.size+1+1+1:=by rw [←h3];simp [s2]
 have b3:Below w2.heap.size w2 w3:=by rw [←h3];exact(Below.refl _ _).alloc (Nat.le_refl _) _
 have b4:Below w3.heap.size w3 (w3.alloc (.cells (declC w.heap.size).flatten.toArray 114)):=(Below.refl _ _).alloc (Nat.le_refl _) _
 have hg:=heap_alloc_new w3 (.cells (declC w.heap.size).flatten.toArray 114)
 rw [s3] at hg
 have b34:=b3.trans (b4.mono b3.size)
 have b24:=b2.trans (b34.mono b2.size)
 have hS:∀(k o:Nat) (n:Nat) (x:Addr),0<n→some (⟨w.heap.size+k,o,none⟩:Addr)=some x→w.heap.size≤x.block:=fun k o n x _ e=>by injection e with e;rw [←e];exact Nat.le_add_right _ _
 refine⟨rfl,SlR.ofCss (css:=declC w.heap.size) hg (by show w.heap.size≤_;omega) rfl (decl_rd (SlR.ofI (i1'.below b24 (Nat.le_refl _)) (fun x h e=>hS 0 0 1 x h e)) (SlR.ofI (i2'.below b34 (Nat.le_refl _)) (fun x h e=>hS 1 0 2 x h e)) (SlR.ofI (i3'.below b4 (Nat.le_refl _)) (fun x h e=>hS 2 0 1 x h e))),?_,?_⟩
 ·exact b1.trans (b24.mono b1.size)
 ·show(w3.heap.push _).size=_
  rw [Array.size_push,s3]
theorem tables10_any (w:World) (hE:Env w):Calls Tryz.prog 32 #[] w fun e w'=>TabsPost w e w':=by
 have hE':=hid hE
 have pos0:=hE.pos
 have htn:=hid (tnew_any w)
 clear hE
 go_enter Tryz.func32,Tryz.ntmps32
 go_wp2_with fail
 refine htn.out.mono ?_;rintro e w1 ⟨p,rfl,t1,b1⟩
 have I0:=hid (show Duo w p w1.heap.size ⟨[],[],[]⟩ (w1.alloc (.cells #[.slice none 0 0,.slice none 0 0,.slice none 0 0] 107)) from by
  have hB1:Below w1.heap.size w1 (w1.alloc (.cells #[.slice none 0 0,.slice none 0 0,.slice none 0 0] 107)):=(Below.refl _ _).alloc (Nat.le_refl _) _
  have hbq:=heap_alloc_new w1 (.cells #[.slice none 0 0,.slice none 0 0,.slice none 0 0] 107)
  refine⟨t1.all hB1,⟨b1.size,fun _ h=>h.elim,_,_,_,hbq,OwnR.nil _ _ _ _ _,OwnR.nil _ _ _ _ _,OwnR.nil _ _ _ _ _⟩,fun j hj=>?_,b1.trans (hB1.mono b1.size),hE'.out.all (b1.trans (hB1.mono b1.size))⟩
  have hjq:j=w1.heap.size:=by
   rcases (own3 hbq).1 hj with h | h | h | h
   ·exact h
   ·simp [Value.ownBlock] at h
   ·simp [Value.ownBlock] at h
   ·simp [Value.ownBlock] at h
  subst hjq
  refine⟨by simp,fun e=>?_⟩
  have:=(t1.ownB ((ownOf.same (hB1.block p t1.plt)).1 e)).2
  omega)
 clear t1 b1 htn
 go_wp2_with fail
 generalize (w1.alloc (.cells #[.slice none 0 0,.slice none 0 0,.slice none 0 0] 107))=w2 at *
 generalize w1.heap.size=q at *
 have hsp:=hid (sort_any w.heap.size p ⟨[],[],[]⟩ sU w2 I0.out.t I0.out.e (by decide))
 refine hsp.out.mono ?_;rintro e w3 h3
 obtain ⟨rfl,t3,s3⟩:=h3.yes bad7
 obtain ⟨r3,ap3,b3,e3⟩:=I0.out.step pos0 s3
 have J3:=hid (And.intro t3 (And.intro ap3 (And.intro b3 e3)))
 have R3:=hid r3
 have hrs:=hid (rsort_any w.heap.size q ⟨[],[],[]⟩ sU w3 r3 (by decide))
 clear h3 t3 s3 r3 ap3 b3 e3 hsp
 go_wp2_with fail
 refine hrs.out.mono ?_;rintro e w4 h4
 have h4y:e = .returned (.tuple #[.int .i64 2,.int .i64 0])∧RefX (fun _=>False) w.heap.size q (T7 0) w4∧PStep q w3 w4:=by
  unfold RSortPost at h4
  rw [if_neg (by rw [bad7];decide)] at h4
  exact⟨h4.1.1,h4.1.2,h4.2⟩
 obtain ⟨rfl,r4,s4⟩:=h4y
 have I4:=hid (Duo.step2 (T':=T7 0) pos0 J3.out.1 R3.out J3.out.2.1 J3.out.2.2.1 J3.out.2.2.2 r4 s4)
 have hdc:=hid (declared10_any w4)
 clear h4 r4 s4 J3 R3 hrs
 go_wp2_with fail
 refine hdc.out.mono ?_;rintro e w5 ⟨rfl,hl5,b5,z5⟩
 have I5:=hid (I4.out.all b5)
 have F5:=hid (show FreeS (fun k=>w4.heap.size≤k∧k<w5.heap.size) p q w5 from fun k hk=>⟨hk.2,fun e=>by
  have:=(I4.out.t.ownB ((ownOf.same (b5.block p I4.out.t.plt)).1 e)).2
  omega,fun e=>by
  have:=(I4.out.r.ownB ((ownOf.same (b5.block q I4.out.r.plt)).1 e)).2
  omega⟩)
 have L5:=hid (show SlR repF (fun k=>w4.heap.size≤k∧k<w5.heap.size) w5 (some ⟨w4.heap.size+3,0,none⟩) 10 declL from hl5.mono fun b hb hk=>⟨hk,hb⟩)
 clear hl5 b5 z5 hdc I0 I4
 go_wp2
 generalize w4.heap.size+3=g at *
 generalize hSS:(fun k=>w4.heap.size≤k∧k<w5.heap.size)=SS at *
 clear hSS
 go_loopw [5] (fun i wr=>∃k:Nat,k≤10∧i = .int .i64 k∧Hid (Duo w p q (T7 k) wr)∧Hid (FreeS SS p q wr)∧Hid (SlR repF SS wr (some ⟨g,0,none⟩) 10 declL)) (fun i _=>10 - (intOf i).toNat)
 case atStart=>exact⟨0,by omega,rfl,I5.out,F5.out,L5.out⟩
 case round=>
  obtain ⟨k,hk,rfl,hI,hF,hL⟩:=hrel
  by_cases hlt:k<10
  ·have hf:declL[k]? = some (declL[k]'(by show k<10;omega)):=List.getElem?_eq_getElem _
   generalize (declL[k]'(by show k<10;omega))=f at *
   obtain ⟨b,o,a',c',hgo,k0,k1,k2,ra,or,nc,_⟩:=hL.out.funAt hf
   cases hgo
   simp only [Nat.zero_add] at k0 k1 k2
   have hfa:f.args.length≤2:=by
    have:f∈declL:=List.mem_of_getElem? hf
    simp [declL] at this
    rcases this with rfl | rfl | rfl | rfl | rfl | rfl | rfl | rfl | rfl | rfl <;> decide
   obtain ⟨he,hadd⟩:=add7 hlt f hf
   have hki:(k:Int)<10:=by omega
   have hfn:=hid (fun_any w.heap.size p (T7 k) f a' c' wr hI.out.t (small7 k) hI.out.e ra.toI (by omega))
   have hadd':=hid hadd
   have he':=hid he
   have hf':=hid hf
   clear hf he hadd or
   go_wp2_with fail
   refine hfn.out.mono ?_;rintro e w6 ⟨rfl,t6,s6⟩
   rw [hadd'.out] at t6
   obtain ⟨r6,ap6,b6,e6⟩:=hI.out.step pos0 s6
   have hq6:=(s6.block q (hI.out.ap q (.inl rfl)).1 (hI.out.ap q (.inl rfl)).2).1
   obtain ⟨F6,K6⟩:=hF.out.stepP s6 hq6
   have L6:=hL.out.keep (fun b _ hb=>K6 b hb) s6.size
   obtain ⟨b',o',a6,c6,hgo,q0,q1,q2,ra6,_,nc6,_⟩:=L6.funAt hf'.out
   cases hgo
   simp only [Nat.zero_add] at q0 q1 q2
   have J6:=hid (And.intro t6 (And.intro ap6 (And.intro b6 e6)))
   have R6:=hid r6
   have F6':=hid F6
   have L6':=hid L6
   have hrf:=hid (rfun_any w.heap.size q (T7 k) f a6 c6 w6 r6 (small7 k) ra6.toI (by omega) nc6)
   clear t6 s6 r6 ap6 b6 e6 hq6 F6 K6 L6 hfn k0 k1 k2 ra
   go_wp2_with fail
   refine hrf.out.mono ?_;rintro e w7 ⟨rfl,r7,s7⟩
   rw [hadd'.out] at r7
   have I7:=hid (Duo.step2 (T':=T7 (k+1)) pos0 J6.out.1 R6.out J6.out.2.1 J6.out.2.2.1 J6.out.2.2.2 r7 s7)
   have hap:=J6.out.2.1.symm fun j hj=>(J6.out.1.ownB hj).2
   have hp7:=(s7.block p (hap p (.inl rfl)).1 (hap p (.inl rfl)).2).1
   obtain ⟨F7,K7⟩:=F6'.out.stepQ s7 hp7
   have F7':=hid F7
   have L7:=hid (L6'.out.keep (fun b _ hb=>K7 b hb) s7.size)
   clear r7 s7 hap hp7 F7 K7
   go_wp2
   go_roundw
   case rel=>exact⟨k+1,by omega,by go_num,I7.out,F7'.out,L7.out⟩
   case measure=>simp [intOf];omega
  ·have hk10:k=10:=by omega
   subst hk10
   have hnw:=hid (new_any w.heap.size p (T7 10) wr hI.out.t)
   go_wp2_with fail
   refine hnw.out.mono ?_;rintro e w8 ⟨rfl,hT8,b8⟩
   have T8:=hid hT8
   have B8:=hid (hI.out.b.trans (b8.mono hI.out.b.size))
   have hsz:=hI.out.b.size
   clear hT8 b8
   go_wp2
   go_ret2
   have hBA:Below w8.heap.size w8 (w8.alloc (.cells #[.pointer (some ⟨q,0,none⟩),.slice none 0 0,.int .i64 0] 51)):=(Below.refl _ _).alloc (Nat.le_refl _) _
   exact⟨_,_,rfl,(T8.out.lower hsz).all hBA,B8.out.trans (hBA.mono B8.out.size)⟩
theorem walkT_ok {T : TermD} (ho : OrdT T) (ids : List Int) : WkOk T (walkT T ids) ∧ ∀ x ∈ (walkT T ids).2, 0 ≤ x ∧ x < (T.nodes.length : Int) := by
  have : ∀ (l : List Int) (st : List Int × List Int), WkOk T st → (∀ x ∈ st.2, 0 ≤ x ∧ x < (T.nodes.length : Int)) → WkOk T (l.foldl (walkAt T) st) ∧ ∀ x ∈ (l.foldl (walkAt T) st).2, 0 ≤ x ∧ x < (T.nodes.length : Int) := by
    intro l
    induction l with
    | nil => exact fun st h1 h2 => ⟨h1, h2⟩
    | cons i l ih =>
      intro st h1 h2
      refine ih _ (h1.at ho i) ?_
      unfold walkAt
      split
      · rename_i hi
        obtain ⟨g0, g1⟩ := hasT_iff.1 hi
        obtain ⟨k, rfl⟩ := Int.eq_ofNat_of_zero_le g0
        exact walkN_out ho _ k _ (by omega) h2
      · exact h2
  exact this ids _ (WkOk.nil T) (by simp)
theorem RdI.hold {w w':World} {a:Option Addr} {n:Nat} {xs:List Int} (h:RdI w a n xs) (hk:0<n→∀x,a=some x→w'.heap[x.block]? = w.heap[x.block]?) (hs:w.heap.size≤w'.heap.size):RdI w' a n xs:=
 ⟨h.len,h.wf,fun hn=>by
  obtain ⟨b,o,ha,hlt,hc⟩:=h.cells hn
  refine⟨b,o,ha,Nat.lt_of_lt_of_le hlt hs,fun j hj=>?_⟩
  have hq:=hk hn _ ha
  rw [World.cell?_of_block (w:=w) (a:=⟨b,o+j,none⟩) (by exact hq)]
  exact hc j hj⟩
end Go.Proofs.YtgoojkiccdjplaaGreatDoor
