/-
  Parts of this claim's texts, one behind the other: VC. No condition.
-/
import Derived.Test.YtgoojkiccdjplaaGreatDoorM39
import Derived.WideKeyEntry
set_option linter.unusedVariables false
set_option linter.unusedSimpArgs false
set_option maxRecDepth 100000
set_option maxHeartbeats 16000000
namespace Go.Proofs.YtgoojkiccdjplaaGreatDoor
open Go.RowKit Go.Sort Go.Lib Go.Maps
theorem MapV.entry {P:Program} {k t e:TypeId} {b n:Nat} {F:Int→Option Value} {w:World} (h:MapV P k b n F w) (hk:P.underlying k=some (.int .i64)) (ht:P.underlying t=some (.map k e)) (hn:n<maxLen) {z:Value} (hz:(zeroValue e).run P w = .ok z w) {x:Int} (hx:okI x) (val:Value) :
  ∃(v0:Value) (st:Nat) (w1:World),(Instr.mapEntry t (.map (some b)) (.int .i64 x)).run P w = .ok (.tuple #[v0,.int .i64 st]) w1∧w.mapTurned w1 b ∧
   ∃w3,(Instr.entryStore t (.map (some b)) (.int .i64 st) val).run P w1 = .ok () w3∧w1.mapTurned w3 b∧MapV P k b (if (F x).isSome then n else n+1) (upd F x (some val)) w3:=by
 obtain ⟨w',hrun',hm',hg'⟩:=h.store hk ht hn hx val
 obtain ⟨D,⟨es,clock,hb,Fi,hs,hD⟩,h2,h3⟩:=h
 have K:=int_keyed hk
 have hkey:keyOf P k (.int .i64 x)=some (keyI x):=keyOf_int_mk hk (wf_key hx)
 obtain ⟨s1,s2,_⟩:=Fi.stamped
 have key:∃(v0:Value) (st:Nat) (es1:Array MapEntry) (clock1:Nat),(Instr.mapEntry t (.map (some b)) (.int .i64 x)).run P w = .ok (.tuple #[v0,.int .i64 st]) (ChangeMaps.setBlock w b (.map es1 clock1)) ∧
   ∃es' clock',(Instr.entryStore t (.map (some b)) (.int .i64 st) val).run P (ChangeMaps.setBlock w b (.map es1 clock1)) = .ok () (ChangeMaps.setBlock (ChangeMaps.setBlock w b (.map es1 clock1)) b (.map es' clock')) ∧
    (Instr.mapUpdate t (.map (some b)) (.int .i64 x) val).run P w = .ok () (ChangeMaps.setBlock w b (.map es' clock')):=by
  rcases K.find w hkey es.toList Fi.keys with ⟨h1,h2⟩ | ⟨j,e0,h1,h2,h3⟩
  ·have hw2:(ChangeMaps.setBlock w b (.map (es.push ⟨.int .i64 x,z,clock⟩) (clock+1))).heap[b]? = some (.map (es.push ⟨.int .i64 x,z,clock⟩) (clock+1)):=ChangeMaps.heap_setBlock_same hb _
   refine⟨z,clock,es.push ⟨.int .i64 x,z,clock⟩,clock+1,?_,es.push ⟨.int .i64 x,val,clock⟩,clock+1,?_,?_⟩
   ·simp [Instr.mapEntry,run_underlying ht,MapKept.run_getObj_map hb,K.check w false hkey,h1,hz,MapKept.run_setObj_map _ hb,Result.andThen,ChangeMaps.setBlock,goInt]
   ·have hidx:(es.push ⟨.int .i64 x,z,clock⟩).findIdx? (fun e=>((e.born:Nat):Int) == ((clock:Nat):Int))=some es.size:=by
     rw [WideElems.findIdx_arr]
     refine WideElems.findIdx_born (l:=(es.push ⟨.int .i64 x,z,clock⟩).toList) (j:=es.size) (e0:=⟨.int .i64 x,z,clock⟩) ?_ (by simp)
     simp only [Array.toList_push,List.map_append,List.map_cons,List.map_nil]
     refine List.nodup_append.2 ⟨s2,by simp,fun a ha c hc e1=>?_⟩
     simp only [List.mem_singleton] at hc
     obtain ⟨y,hy,rfl⟩:=List.mem_map.1 ha
     have:=s1 y hy
     omega
    have hmod:(es.push ⟨.int .i64 x,z,clock⟩).modify es.size (fun e=>{ e with val:=val })=es.push ⟨.int .i64 x,val,clock⟩:=by
     apply Array.ext'
     rw [Array.toList_modify,Array.toList_push,Array.toList_push,←Array.length_toList,WideElems.modify_last]
    have hst:∀(w2:World),w2.heap[b]? = some (.map (es.push ⟨.int .i64 x,z,clock⟩) (clock+1))→(Instr.entryStore t (.map (some b)) (.int .i64 clock) val).run P w2 = .ok () (ChangeMaps.setBlock w2 b (.map (es.push ⟨.int .i64 x,val,clock⟩) (clock+1))):=fun w2 hw2=>by
     simp [Instr.entryStore,MapKept.run_getObj_map hw2,asInt,asIntOf,hidx,hmod,MapKept.run_setObj_map _ hw2,Result.andThen,ChangeMaps.setBlock]
    exact hst _ hw2
   ·simp [Instr.mapUpdate,run_underlying ht,MapKept.run_getObj_map hb,K.check w false hkey,h1,MapKept.run_setObj_map _ hb,Result.andThen,ChangeMaps.setBlock]
  ·have hj:es[j]? = some e0:=by simpa using h2
   have hsame:es.modify j (fun e=>{ e with key:=.int .i64 x })=es:=by
    apply Array.ext'
    rw [Array.toList_modify,ChangeMaps.modify_eq_set _ _ _ _ h2]
    have:({ e0 with key:=.int .i64 x }:MapEntry)=e0:=by rw [←h3]
    rw [this]
    exact WideElems.set_self _ _ _ h2
   have hw2:(ChangeMaps.setBlock w b (.map es clock)).heap[b]? = some (.map es clock):=ChangeMaps.heap_setBlock_same hb _
   refine⟨e0.val,e0.born,es,clock,?_,es.modify j (fun e'=>{ e' with key:=.int .i64 x,val:=val }),clock,?_,?_⟩
   ·simp [Instr.mapEntry,run_underlying ht,MapKept.run_getObj_map hb,K.check w false hkey,h1,hj,h3,K.stays w hkey,hsame,MapKept.run_setObj_map _ hb,Result.andThen,ChangeMaps.setBlock,goInt]
   ·have hidx:es.findIdx? (fun e=>((e.born:Nat):Int) == ((e0.born:Nat):Int))=some j:=by
     rw [WideElems.findIdx_arr]
     exact WideElems.findIdx_born s2 h2
    have hmod:es.modify j (fun e=>{ e with val:=val })=es.modify j (fun e'=>{ e' with key:=.int .i64 x,val:=val }):=by
     apply Array.ext'
     rw [Array.toList_modify,Array.toList_modify,ChangeMaps.modify_eq_set _ _ _ _ h2,ChangeMaps.modify_eq_set _ _ _ _ h2,←h3]
    have hst:∀(w2:World),w2.heap[b]? = some (.map es clock)→(Instr.entryStore t (.map (some b)) (.int .i64 e0.born) val).run P w2 = .ok () (ChangeMaps.setBlock w2 b (.map (es.modify j fun e'=>{ e' with key:=.int .i64 x,val:=val }) clock)):=fun w2 hw2=>by
     simp [Instr.entryStore,MapKept.run_getObj_map hw2,asInt,asIntOf,hidx,hmod,MapKept.run_setObj_map _ hw2,Result.andThen,ChangeMaps.setBlock]
    exact hst _ hw2
   ·simp [Instr.mapUpdate,run_underlying ht,MapKept.run_getObj_map hb,K.check w false hkey,h1,hj,h3,K.stays w hkey,MapKept.run_setObj_map _ hb,Result.andThen,ChangeMaps.setBlock]
 obtain ⟨v0,st,es1,clock1,r1,es',clock',r2,r3⟩:=key
 rw [hrun'] at r3
 injection r3 with _ r3
 have hb1:(ChangeMaps.setBlock w b (.map es1 clock1)).heap[b]? = some (.map es1 clock1):=ChangeMaps.heap_setBlock_same hb _
 refine⟨v0,st,_,r1,⟨es,clock,es1,clock1,hb,rfl⟩,_,r2,⟨es1,clock1,es',clock',hb1,rfl⟩,?_⟩
 refine hm'.same ?_
 rw [r3,ChangeMaps.heap_setBlock_same hb1,ChangeMaps.heap_setBlock_same hb]
def NamePost (w0:World) (p nb:Nat) (Y:Nat→Prop) (s:FlS) (R:(Int × Int) × TermD × FlS) (w:World) (e:Ending) (w':World):Prop:=
 e = .returned (.tuple #[.int .i64 R.1.1,.int .i64 R.1.2])∧Cx w0 p (FlatJ w0 p nb) (FlatD p nb) Y R.2.1 R.2.2 w'∧OStep p (FlatD p nb s w) (FlatD p nb R.2.2 w') w w'
theorem name_same {w0 w w3:World} {p nb:Nat} {Y:Nat→Prop} {T T':TermD} {s:FlS} (h:Cx w0 p (FlatJ w0 p nb) (FlatD p nb) Y T s w) (I:St w0 p { T' with X:=fun k=>FlatD p nb s w k∨Y k } w3) (S:TStep p w w3) (hD:∀k,FlatD p nb s w k→w3.heap[k]? = w.heap[k]?) :
  Cx w0 p (FlatJ w0 p nb) (FlatD p nb) Y T' s w3∧OStep p (FlatD p nb s w) (FlatD p nb s w3) w w3:=by
 obtain ⟨c,d⟩:=h.sameK (flat_keep w0 p nb) I hD S.size
 exact⟨c,OStep.ofT S fun k e=>(d k).1 e⟩
theorem name_push {w0 w w4 w6 w8:World} {p nb bm:Nat} {s:FlS} {vm vr v':Value} {id k is:Int} {T':TermD} {Y:Nat→Prop} (FD:FlatAt w0 p nb s w4 bm vm vr) (hi:∀j,FlatD p nb s w4 j↔FlatD p nb s w j)
  (I:St w0 p { T' with X:=fun k=>FlatD p nb s w k∨Y k } w4) (S:TStep p w w4) (hk:okI k) (his:okI is)
  (hg:w4.grownBy w6 vr.ownBlock) (hl:v'.ownBlock=vr.ownBlock∨∀j,v'.ownBlock=some j→w4.heap.size≤j) (ho:OwnC w6 w0.heap.size 3 1 v' (s.more.length+1) ((s.more ++ [is]).map (Value.int .i64))) (g8:w6.grownBy w8 (some bm))
  (hm:∃c,c≤s.cnt+1∧MapV Tryz.prog 3 bm c (mapI (setTo s.named id k)) w8) :
  Cx w0 p (FlatJ w0 p nb) (FlatD p nb) Y T' ⟨setTo s.named id k,s.cnt+1,s.made,s.more ++ [is]⟩ (w8.setCell ⟨nb,3,none⟩ v')∧OStep p (FlatD p nb s w) (FlatD p nb ⟨setTo s.named id k,s.cnt+1,s.made,s.more ++ [is]⟩ (w8.setCell ⟨nb,3,none⟩ v')) w (w8.setCell ⟨nb,3,none⟩ v'):=by
 obtain ⟨c0,hc0,hm0⟩:=FD.mp
 have hnl:nb<w4.heap.size:=(Array.getElem?_eq_some_iff.1 FD.blk).1
 have n1:vr.ownBlock≠some nb:=fun e=>ty_ne (by decide) (FD.mr.ty nb e) ⟨_,_,FD.blk⟩
 have n2:vr.ownBlock≠some bm:=fun e=>by obtain ⟨cs,f,ht⟩:=FD.mr.ty bm e;exact hm0.noCells ht
 have n3:bm≠nb:=fun e=>hm0.noCells (by rw [e];exact FD.blk)
 have e6:∀j,j<w4.heap.size→vr.ownBlock≠some j→w6.heap[j]? = w4.heap[j]?:=fun j h1 h2=>hg.block j h1 h2.symm
 have e8:∀j,j<w4.heap.size→vr.ownBlock≠some j→j≠bm→w8.heap[j]? = w4.heap[j]?:=fun j h1 h2 h3=>(g8.block j (Nat.lt_of_lt_of_le h1 hg.size) (fun e=>h3 (by injection e))).trans (e6 j h1 h2)
 have e9:∀j,j<w4.heap.size→j≠nb→j≠bm→vr.ownBlock≠some j→(w8.setCell ⟨nb,3,none⟩ v').heap[j]? = w4.heap[j]?:=fun j h1 h2 h3 h4=>(Below.heap_setCell _ _ _ _ (fun e=>h2 e)).trans (e8 j h1 h4 h3)
 have b8:=(e8 nb hnl n1 n3.symm).trans FD.blk
 have b9:(w8.setCell ⟨nb,3,none⟩ v').heap[nb]? = some (.cells #[.pointer (some ⟨p,0,none⟩),.map (some bm),vm,v'] 145 (0,0)):=by
  unfold World.setCell
  rw [Array.getElem?_modify,if_pos rfl,b8]
  rfl
 have hsz:w4.heap.size≤(w8.setCell ⟨nb,3,none⟩ v').heap.size:=by rw [size_set];exact Nat.le_trans hg.size g8.size
 have b6:=(e6 nb hnl n1).trans FD.blk
 have m6:w6.heap[bm]? = w4.heap[bm]?:=e6 bm hm0.lt n2
 have v1:v'.ownBlock≠some nb:=fun e=>ty_ne (by decide) (ho.ty nb e) ⟨_,_,b6⟩
 have v2:v'.ownBlock≠some bm:=fun e=>by obtain ⟨cs,f,ht⟩:=ho.ty bm e;exact(hm0.same m6).noCells ht
 have ho9:OwnC (w8.setCell ⟨nb,3,none⟩ v') w0.heap.size 3 1 v' (s.more.length+1) ((s.more ++ [is]).map (Value.int .i64)):=ho.same fun j e=>(Below.heap_setCell _ _ _ _ (fun e2=>v1 (by rw [show nb=j from e2.symm];exact e))).trans (g8.block j (ho.lt j e).2 (fun e2=>v2 (by injection e2 with e2;rw [←e2];exact e)))
 obtain ⟨c,hc,hm8⟩:=hm
 obtain ⟨zA,zD⟩:=FD.name (w':=w8.setCell ⟨nb,3,none⟩ v') hk his e9 hsz b9 ⟨c,hc,hm8.setCell (a:=⟨nb,3,none⟩) n3 v'⟩ ho9 hl
 have hi4:=FlatD.iff (s:=s) FD.blk
 have hB:Below w0.heap.size w4 (w8.setCell ⟨nb,3,none⟩ v'):=by
  refine⟨g8.os.trans hg.os,g8.tape.trans hg.tape,g8.output.trans hg.output,hsz,fun j hj=>e9 j (Nat.lt_of_lt_of_le hj I.b.size) (fun e=>?_) (fun e=>?_) (fun e=>?_)⟩
  ·have:=FD.lt.1;omega
  ·have:=FD.lt.2;omega
  ·have:=(FD.mr.lt j e).1;omega
 have hK:∀j,j<w4.heap.size→¬FlatD p nb s w j→(w8.setCell ⟨nb,3,none⟩ v').heap[j]? = w4.heap[j]?:=fun j h1 h2=>by
  have h3:¬FlatD p nb s w4 j:=fun e=>h2 ((hi j).1 e)
  rw [hi4 j] at h3
  exact e9 j h1 (fun e=>h3 (.inl e)) (fun e=>h3 (.inr (.inl e))) (fun e=>h3 (.inr (.inr (.inr (.inl e)))))
 have hx:∀j,FlatD p nb s w j→¬ownT p w4 j:=fun j hj=>by
  obtain ⟨q,u1,u2,m,ha⟩:=I.t
  exact(ha.xlt j (.inl hj)).2.1
 exact⟨cx_turn (D0:=FlatD p nb s w) I hB hK ⟨_,_,_,zA⟩ fun j hj=>⟨(zD j hj).1.imp (hi j).1 (fun h=>h),(zD j hj).2⟩,
  os_turn (D0:=FlatD p nb s w) (OStep.ofT S fun _ e=>e) ⟨I.t.plt,hx⟩ hB hK fun j hj=>(zD j hj).1.imp (hi j).1 (fun h=>h)⟩
theorem name_any {w0 : World} (hE : EnvT w0) (p nb : Nat) (Y : Nat → Prop) (T : TermD) (s : FlS) (w : World) (id : Int) (h : Cx w0 p (FlatJ w0 p nb) (FlatD p nb) Y T s w) (hG : TermG T) (hF : T.fresh < 1099511627776) (hZ : s.cnt ≤ 1000000000200) (hid : okI id) :
    Calls Tryz.prog 126 #[.pointer (some ⟨nb, 0, none⟩), .int .i64 id] w fun e w' => NamePost w0 p nb Y s (nameD T s id) w e w' := by
  have hE' := Lib.hid hE
  have hC := Lib.hid h
  have hG' := Lib.hid hG
  obtain ⟨bm, vm, vr, fa⟩ := h.j
  have FA := Lib.hid fa
  have hJ := Lib.hid h.j
  have q0 : w.cell? ⟨nb, 0, none⟩ = some (.pointer (some ⟨p, 0, none⟩)) := cell_p fa.blk 0
  have hnd := nodeX_any w0.heap.size p _ id w h.t hG.ok.sn
  rw [show nodeX { T with X := fun k => FlatD p nb s w k ∨ Y k } id = nodeX T id from rfl] at hnd
  have hnd' := Lib.hid hnd
  have hdef := @Lib.hid (nameD T s id = if (nodeX T id).op = 12 ∧ (nodeX T id).args.length = 0 then ((id, 0), T, s)
    else match s.named id with
    | some k => ((k, 0), T, s)
    | none =>
      if (freshD T (nodeX T id).sort).1.2 = 0 then
        if (mk2 (freshD T (nodeX T id).sort).2 8 (freshD T (nodeX T id).sort).1.1 id).1.2 = 0 then
          (((freshD T (nodeX T id).sort).1.1, 0), (mk2 (freshD T (nodeX T id).sort).2 8 (freshD T (nodeX T id).sort).1.1 id).2,
            ⟨setTo s.named id (freshD T (nodeX T id).sort).1.1, s.cnt + 1, s.made, s.more ++ [(mk2 (freshD T (nodeX T id).sort).2 8 (freshD T (nodeX T id).sort).1.1 id).1.1]⟩)
        else ((0, (mk2 (freshD T (nodeX T id).sort).2 8 (freshD T (nodeX T id).sort).1.1 id).1.2), (mk2 (freshD T (nodeX T id).sort).2 8 (freshD T (nodeX T id).sort).1.1 id).2, s)
      else ((0, (freshD T (nodeX T id).sort).1.2), (freshD T (nodeX T id).sort).2, s)) rfl
  generalize nodeX T id = n at *
  clear hE h hG fa hnd
  go_enter Tryz.func126, Tryz.ntmps126
  go_wp2_with fail
  refine hnd'.out.mono ?_; rintro e w1 ⟨a, c, b, d, g, e', rfl, hN, hb⟩
  obtain ⟨op, nm, ⟨ng, nu, de⟩, args, so⟩ := n
  dsimp only at hdef
  have hB2 : Below w.heap.size w (w1.alloc (.cells #[.int .i64 op, .string nm, .bool ng, .slice a nu.length c, .slice b de.length d, .slice g args.length e', .int .i64 so] 38)) := hb.alloc hb.size _
  have hX := heap_alloc_new w1 (.cells #[.int .i64 op, .string nm, .bool ng, .slice a nu.length c, .slice b de.length d, .slice g args.length e', .int .i64 so] 38)
  have hso := Lib.hid (show okI so from hN.sort)
  have B2 := Lib.hid hB2
  have B1 := Lib.hid hb
  clear hb hN hnd'
  generalize hw2 : w1.alloc (.cells #[.int .i64 op, .string nm, .bool ng, .slice a nu.length c, .slice b de.length d, .slice g args.length e', .int .i64 so] 38) = w2 at *
  have C2 := Lib.hid (hC.out.allK (flat_keep w0 p nb) hB2)
  have D2 := Lib.hid (show ∀ k, FlatD p nb s w k → w2.heap[k]? = w.heap[k]? from fun k hk => hB2.block k (hC.out.x (.inl hk)).1)
  have FB := Lib.hid (FA.out.keep D2.out hB2.size).1
  have X2 := Lib.hid hX
  have r0 := cell_p hX 0
  have r5 := cell_p hX 5
  have r6 := cell_p hX 6
  simp only [List.getElem?_toArray, List.getElem?_cons_succ, List.getElem?_cons_zero] at r0 r5 r6
  replace q0 : w2.cell? ⟨nb, 0, none⟩ = some (.pointer (some ⟨p, 0, none⟩)) := cell_p FB.out.blk 0
  have q1 : w2.cell? ⟨nb, 1, none⟩ = some (.map (some bm)) := cell_p FB.out.blk 1
  have S2 := Lib.hid (TStep.of_below hC.out.plt hB2)
  have I2 := Lib.hid (hC.out.st.all hB2)
  clear hB2 hX
  by_cases hc : op = 12 ∧ args.length = 0
  · obtain ⟨rfl, h0⟩ := hc
    have hd2 := hdef.out
    rw [if_pos ⟨rfl, h0⟩] at hd2
    have hv := Lib.hid hd2
    have hmn : (args.length : Int) = 0 := by omega
    have hmb : ((args.length : Int) == 0) = true := by simpa using hmn
    clear hdef hd2 h0
    go_wp2
    go_ret2
    obtain ⟨z1, z2⟩ := name_same hC.out I2.out S2.out D2.out
    exact ⟨by rw [hv.out]; rfl, by rw [hv.out]; exact z1, by rw [hv.out]; exact z2⟩
  have hd2 := hdef.out
  rw [if_neg hc] at hd2
  obtain ⟨cm, hcm, hm⟩ := FB.out.mp
  have hlk := hm.look_ok Tryz.underlying3 Tryz.underlying143 (zero_int w2) (x := id) hid
  unfold mapI at hlk
  clear hdef hm
  cases hnm : s.named id with
  | some k =>
    rw [hnm] at hd2 hlk
    have hv := Lib.hid (show nameD T s id = ((k, 0), T, s) from hd2)
    clear hd2 hnm
    simp only [Option.map_some, Option.getD_some, Option.isSome_some] at hlk
    by_cases hop : op = 12
    all_goals
      first
        | (subst hop; have hmn : ¬ (args.length : Int) = 0 := fun e => hc ⟨rfl, by omega⟩; have hmb : ((args.length : Int) == 0) = false := by simpa using hmn)
        | (have hopd : decide (op = 12) = false := decide_eq_false hop; have hopb : (op == 12) = false := by simpa using hop)
    all_goals
      clear hc
      go_wp2
      go_ret2
      obtain ⟨z1, z2⟩ := name_same hC.out I2.out S2.out D2.out
      exact ⟨by rw [hv.out]; rfl, by rw [hv.out]; exact z1, by rw [hv.out]; exact z2⟩
  | none =>
    rw [hnm] at hd2 hlk
    simp only [Option.map_none, Option.getD_none, Option.isSome_none] at hlk
    have hv := Lib.hid hd2
    have hnm' := Lib.hid hnm
    have I2x := hC.out.st.more (Y := fun k => (FlatD p nb s w k ∨ Y k) ∨ k = w1.heap.size) B2.out fun k hk => by
      rcases hk with hk | rfl
      · exact .inl hk
      · exact .inr ⟨B1.out.size, (Array.getElem?_eq_some_iff.1 X2.out).1⟩
    have I2d := Lib.hid (I2x.all (keep_drew w2))
    clear I2x
    have hfr := fresh_any w0.heap.size p { T with X := fun k => (FlatD p nb s w k ∨ Y k) ∨ k = w1.heap.size } so w2.drew I2d.out.t (hG'.out.ok.sm.X _) (I2d.out.env hE'.out) hso.out
    unfold FreshPost at hfr
    rw [freshD_X] at hfr
    dsimp only at hfr
    have hfr' := Lib.hid hfr
    have hG3 := Lib.hid (hG'.out.fresh so hF).g
    have hbd := Lib.hid (put_bdF hG'.out so)
    have S2d := Lib.hid (S2.out.trans (TStep.of_below I2.out.t.plt (keep_drew w2)))
    generalize freshD T so = M at *
    obtain ⟨⟨k, er⟩, T3⟩ := M
    dsimp only at hv hfr' hG3 hbd
    clear hd2 hnm hfr
    by_cases hop : op = 12
    all_goals
      first
        | (subst hop; have hmn : ¬ (args.length : Int) = 0 := fun e => hc ⟨rfl, by omega⟩; have hmb : ((args.length : Int) == 0) = false := by simpa using hmn)
        | (have hopd : decide (op = 12) = false := decide_eq_false hop; have hopb : (op == 12) = false := by simpa using hop)
    all_goals
      clear hc
      go_wp2
      have hS0 := Lib.hid (And.intro q0 r6)
      clear q0 r6
      refine wp_region_tt (S := fun W => W.cell? ⟨nb, 0, none⟩ = _ ∧ W.cell? ⟨w1.heap.size, 6, none⟩ = some (.int .i64 so)) 11 (by kernel_rfl) (by kernel_rfl) hS0.out (fun hHeld => ?_)
      refine tt_take (i := 0) (v := _) (by rfl) (by decide +kernel) (by exact fun _ _ _ h => h) (Or.inl ⟨by rfl, by (intro W hSw; (try dsimp only at hSw); go_simp <;> with_reducible rfl)⟩) (by assumption) ?_
      (try simp only [Act.put, sA, sB, sC])
      refine tt_take (i := 1) (v := _) (by rfl) (by decide +kernel) (by exact fun _ _ _ h => h) (Or.inl ⟨by rfl, by (intro W hSw; (try dsimp only at hSw); go_simp <;> with_reducible rfl)⟩) (by assumption) ?_
      (try simp only [Act.put, sA, sB, sC])
      refine tt_take (i := 2) (v := _) (by rfl) (by decide +kernel) (by exact fun _ _ _ h => h) (Or.inl ⟨by rfl, by (intro W hSw; (try dsimp only at hSw); go_simp <;> with_reducible rfl)⟩) (by assumption) ?_
      (try simp only [Act.put, sA, sB, sC])
      refine tt_take (i := 3) (v := _) (by rfl) (by decide +kernel) (by exact fun _ _ _ h => h) (Or.inl ⟨by rfl, by (intro W hSw; have hq1 := hSw.1; go_simp <;> with_reducible rfl)⟩) (by assumption) ?_
      (try simp only [Act.put, sA, sB, sC])
      refine tt_take (i := 4) (v := _) (by rfl) (by decide +kernel) (by exact fun _ _ _ h => h) (Or.inl ⟨by rfl, by (intro W hSw; (try dsimp only at hSw); go_simp <;> with_reducible rfl)⟩) (by assumption) ?_
      (try simp only [Act.put, sA, sB, sC])
      refine tt_take (i := 5) (v := _) (by rfl) (by decide +kernel) (by exact fun _ _ _ h => h) (Or.inl ⟨by rfl, by (intro W hSw; have hq1 := hSw.2; go_simp <;> with_reducible rfl)⟩) (by assumption) ?_
      (try simp only [Act.put, sA, sB, sC])
      refine tt_ready (rs := [6]) (by decide +kernel) (allT_cons (by rfl) (fun K hK => ?_) allT_nil)
      go_simp
      go_at_call 74
      refine hfr'.out.mono ?_; rintro e1 w3 ⟨rfl, t3, s3⟩
      have I3 := Lib.hid (I2d.out.step t3 s3)
      have S3 := Lib.hid (S2d.out.trans s3)
      have D3 := Lib.hid (show ∀ k, FlatD p nb s w k → w3.heap[k]? = w.heap[k]? from fun k hk => (I2d.out.own (.inl (.inl hk)) s3).trans (D2.out k hk))
      have X3 := Lib.hid ((I2d.out.own (.inr rfl) s3).trans X2.out)
      clear t3 s3 hfr'
      dsimp only
      refine hK.out _ _ (by (exact ⟨cell_p (FA.out.keep D3.out S3.out.size).1.blk 0, cell_p X3.out 6⟩)) (fun hHeld2 => ?_)
      clear hK K
      (try simp only [Act.put, sA, sB, sC])
      refine tt_take (i := 7) (v := _) (by rfl) (by decide +kernel) (by exact fun _ _ _ h => h) (Or.inl ⟨by rfl, by (intro W hSw; (try dsimp only at hSw); go_simp <;> with_reducible rfl)⟩) (by assumption) ?_
      (try simp only [Act.put, sA, sB, sC])
      refine tt_take (i := 8) (v := _) (by rfl) (by decide +kernel) (by exact fun _ _ _ h => h) (Or.inl ⟨by rfl, by (intro W hSw; (try dsimp only at hSw); go_simp <;> with_reducible rfl)⟩) (by assumption) ?_
      (try simp only [Act.put, sA, sB, sC])
      refine tt_take (i := 9) (v := _) (by rfl) (by decide +kernel) (by exact fun _ _ _ h => h) (Or.inl ⟨by rfl, by (intro W hSw; (try dsimp only at hSw); go_simp <;> with_reducible rfl)⟩) (by assumption) ?_
      (try simp only [Act.put, sA, sB, sC])
      refine tt_take (i := 10) (v := _) (by rfl) (by decide +kernel) (by exact fun _ _ _ h => h) (Or.inl ⟨by rfl, by (intro W hSw; (try dsimp only at hSw); go_simp <;> with_reducible rfl)⟩) (by assumption) ?_
      (try simp only [Act.put, sA, sB, sC])
      refine tt_tail (by decide +kernel) ?_
      simp only [List.drop_succ_cons, List.drop_zero]
      replace I3 := Lib.hid (I3.out.fewer (Y := fun k => FlatD p nb s w k ∨ Y k) fun k hk => .inl hk)
      clear I2 S2 r0 r5 q1 hlk hw2 hS0
      by_cases her : er = 0
      case neg =>
        have hv2 := hv.out
        rw [if_neg her] at hv2
        have hv3 := Lib.hid hv2
        clear hv2
        go_wp2
        go_ret2
        obtain ⟨z1, z2⟩ := name_same hC.out I3.out S3.out D3.out
        exact ⟨by rw [hv3.out]; rfl, by rw [hv3.out]; exact z1, by rw [hv3.out]; exact z2⟩
      case pos =>
        subst her
        have hv2 := hv.out
        rw [if_pos rfl] at hv2
        have hv3 := Lib.hid hv2
        have q0 : w3.cell? ⟨nb, 0, none⟩ = some (.pointer (some ⟨p, 0, none⟩)) := cell_p (FA.out.keep D3.out S3.out.size).1.blk 0
        have hmk := Lib.hid (mk2_call hE'.out I3.out hG3.out 8 k id ⟨by decide, by decide⟩ (by decide) hbd.out hid)
        have hbm := Lib.hid (mk2_bd hG3.out 8 k id)
        clear hv2 hv
        generalize mk2 T3 8 k id = M at *
        obtain ⟨⟨is, em⟩, T4⟩ := M
        dsimp only at hv3 hmk hbm
        go_wp2_with fail
        refine hmk.out.mono ?_; rintro e1 w4 ⟨rfl, i4, s4⟩
        have I4 := Lib.hid i4
        have S4 := Lib.hid (S3.out.trans s4)
        have D4 := Lib.hid (show ∀ k, FlatD p nb s w k → w4.heap[k]? = w.heap[k]? from fun k hk => (I3.out.own (.inl hk) s4).trans (D3.out k hk))
        clear i4 s4 hmk I3 S3 D3 q0
        by_cases hem : em = 0
        case neg =>
          have hv2 := hv3.out
          rw [if_neg hem] at hv2
          have hv4 := Lib.hid hv2
          clear hv2
          go_wp2
          go_ret2
          obtain ⟨z1, z2⟩ := name_same hC.out I4.out S4.out D4.out
          exact ⟨by rw [hv4.out]; rfl, by rw [hv4.out]; exact z1, by rw [hv4.out]; exact z2⟩
        case pos =>
          subst hem
          have hv2 := hv3.out
          rw [if_pos rfl] at hv2
          have hv4 := Lib.hid hv2
          clear hv2 hv3
          have FD := Lib.hid (FA.out.keep D4.out S4.out.size).1
          have q1 : w4.cell? ⟨nb, 1, none⟩ = some (.map (some bm)) := cell_p FD.out.blk 1
          obtain ⟨ar, cr, rfl, hcr1, hcr2⟩ := FD.out.mr.slice
          have q3 : w4.cell? ⟨nb, 3, none⟩ = some (.slice ar s.more.length cr) := cell_p FD.out.blk 3
          have hmo : s.more.length ≤ 1000000000200 := Nat.le_trans FD.out.ml hZ
          obtain ⟨i0, hi0, hz0, hz1, hz2⟩ := info_parts info_int
          have hsz4 : w0.heap.size ≤ w4.heap.size := I4.out.b.size
          go_wp2
          have B4 := FD.out.blk
          have hnl : nb < w4.heap.size := (Array.getElem?_eq_some_iff.1 B4).1
          refine wp_region_tt (S := fun W => W.heap[nb]? = some (.cells #[.pointer (some ⟨p, 0, none⟩), .map (some bm), vm, .slice ar s.more.length cr] 145 (0, 0))) 17 (by kernel_rfl) (by kernel_rfl) B4 (fun hHeld => ?_)
          refine tt_take (i := 0) (v := _) (by rfl) (by decide +kernel) (by exact fun _ _ _ h => h) (Or.inl ⟨by rfl, by (intro W hSw; (try dsimp only at hSw); go_simp <;> with_reducible rfl)⟩) (by assumption) ?_
          (try simp only [Act.put, sA, sB, sC])
          refine tt_take (i := 1) (v := _) (by rfl) (by decide +kernel) (by exact fun _ _ _ h => h) (Or.inl ⟨by rfl, by (intro W hSw; (try dsimp only at hSw); go_simp <;> with_reducible rfl)⟩) (by assumption) ?_
          (try simp only [Act.put, sA, sB, sC])
          refine tt_take (i := 2) (v := _) (by rfl) (by decide +kernel) (by exact fun _ _ _ h => h) (Or.inl ⟨by rfl, by (intro W hSw; (try dsimp only at hSw); go_simp <;> with_reducible rfl)⟩) (by assumption) ?_
          (try simp only [Act.put, sA, sB, sC])
          refine tt_take (i := 3) (v := _) (by rfl) (by decide +kernel) (by exact fun _ _ _ h => h) (Or.inl ⟨by rfl, by (intro W hSw; have hq1 : W.cell? ⟨nb, 1, none⟩ = some (.map (some bm)) := cell_p hSw 1; go_simp <;> with_reducible rfl)⟩) (by assumption) ?_
          (try simp only [Act.put, sA, sB, sC])
          refine tt_take (i := 4) (v := _) (by rfl) (by decide +kernel) (by exact fun _ _ _ h => h) (Or.inl ⟨by rfl, by (intro W hSw; (try dsimp only at hSw); go_simp <;> with_reducible rfl)⟩) (by assumption) ?_
          (try simp only [Act.put, sA, sB, sC])
          refine tt_take (i := 5) (v := _) (by rfl) (by decide +kernel) (by exact fun _ _ _ h => h) (Or.inl ⟨by rfl, by (intro W hSw; (try dsimp only at hSw); go_simp <;> with_reducible rfl)⟩) (by assumption) ?_
          (try simp only [Act.put, sA, sB, sC])
          refine tt_take (i := 6) (v := _) (by rfl) (by decide +kernel) (by exact fun _ _ _ h => h) (Or.inl ⟨by rfl, by (intro W hSw; (try dsimp only at hSw); go_simp <;> with_reducible rfl)⟩) (by assumption) ?_
          (try simp only [Act.put, sA, sB, sC])
          refine tt_take (i := 7) (v := _) (by rfl) (by decide +kernel) (by exact fun _ _ _ h => h) (Or.inl ⟨by rfl, by (intro W hSw; (try dsimp only at hSw); go_simp <;> with_reducible rfl)⟩) (by assumption) ?_
          (try simp only [Act.put, sA, sB, sC])
          refine tt_take (i := 8) (v := _) (by rfl) (by decide +kernel) (by exact fun _ _ _ h => h) (Or.inl ⟨by rfl, by (intro W hSw; (try dsimp only at hSw); go_simp <;> with_reducible rfl)⟩) (by assumption) ?_
          (try simp only [Act.put, sA, sB, sC])
          refine tt_take (i := 9) (v := _) (by rfl) (by decide +kernel) (by exact fun _ _ _ h => h) (Or.inl ⟨by rfl, by (intro W hSw; (try dsimp only at hSw); go_simp <;> with_reducible rfl)⟩) (by assumption) ?_
          (try simp only [Act.put, sA, sB, sC])
          refine tt_take (i := 10) (v := _) (by rfl) (by decide +kernel) (by exact fun _ _ _ h => h) (Or.inl ⟨by rfl, by (intro W hSw; have hq1 : W.cell? ⟨nb, 3, none⟩ = some (.slice ar s.more.length cr) := cell_p hSw 3; go_simp <;> with_reducible rfl)⟩) (by assumption) ?_
          (try simp only [Act.put, sA, sB, sC])
          refine tt_take (i := 11) (v := _) (by rfl) (by decide +kernel) (by exact fun _ _ _ h => h) (Or.inl ⟨by rfl, by (intro W hSw; (try dsimp only at hSw); go_simp <;> with_reducible rfl)⟩) (by assumption) ?_
          (try simp only [Act.put, sA, sB, sC])
          refine tt_ready (rs := [12]) (by decide +kernel) (allT_cons (by rfl) (fun K hK => ?_) allT_nil)
          go_simp
          refine hK.out _ _ (by (exact (Below.heap_alloc _ _ _ hnl).trans B4)) (fun hHeld2 => ?_)
          clear hK K
          (try simp only [Act.put, sA, sB, sC])
          refine tt_ready (rs := [13]) (by decide +kernel) (allT_cons (by rfl) (fun K hK => ?_) allT_nil)
          refine step_append_C (by rfl) (.tmp 81) (.tmp 83) (by rfl) Tryz.underlying23 hi0 hz0 hz1 hz2 rfl (by decide) (by rfl) (by rfl) ((FD.out.mr.alloc (.cells #[.int .i64 is] 3)).same (fun _ _ => rfl)) (Src.lit (CellsF.lit (us := [.int .i64 is]) (by first | rfl | simp)) rfl) (by intro u hu; simp at hu; subst hu; rfl) (by unfold maxLen; omega) (by omega) (by first | omega | (simp; omega)) ?_
          intro v' w6 ho6 hg6 hl6
          obtain ⟨a6, c6, rfl, _, _⟩ := ho6.slice
          have hg : w4.grownBy w6 (Value.slice ar s.more.length cr).ownBlock := grown_alloc (o := .cells #[.int .i64 is] 3) ⟨hg6.os, hg6.tape, hg6.output, hg6.size, hg6.block⟩
          have hl : (Value.slice a6 (s.more.length + 1) c6).ownBlock = (Value.slice ar s.more.length cr).ownBlock ∨ ∀ j, (Value.slice a6 (s.more.length + 1) c6).ownBlock = some j → w4.heap.size ≤ j := hl6.imp (fun h => h) fun h j e => Nat.le_of_succ_le (by have := h j e; first | exact this | simpa using this)
          obtain ⟨cm, hcm, hm0⟩ := FD.out.mp
          have n1 : (Value.slice ar s.more.length cr).ownBlock ≠ some nb := fun e => ty_ne (by decide) (FD.out.mr.ty nb e) ⟨_, _, FD.out.blk⟩
          have n2 : (Value.slice ar s.more.length cr).ownBlock ≠ some bm := fun e => by obtain ⟨cs, f, ht⟩ := FD.out.mr.ty bm e; exact hm0.noCells ht
          have n3 : bm ≠ nb := fun e => hm0.noCells (by rw [e]; exact FD.out.blk)
          have b6 := (hg.block nb (Array.getElem?_eq_some_iff.1 FD.out.blk).1 n1.symm).trans FD.out.blk
          have hm6 := hm0.same (hg.block bm hm0.lt n2.symm)
          obtain ⟨v0, st, w7, r7, t7, w8, r8, t8, m8⟩ := hm6.entry Tryz.underlying3 Tryz.underlying143 (by unfold maxLen; omega) (zero_int w6) hid (.int .i64 k)
          have g8 : w6.grownBy w8 (some bm) := ⟨t8.grown.os.trans t7.grown.os, t8.grown.tape.trans t7.grown.tape, t8.grown.output.trans t7.grown.output, Nat.le_trans t7.grown.size t8.grown.size, fun j h1 h2 => (t8.grown.block j (Nat.lt_of_lt_of_le h1 t7.grown.size) h2).trans (t7.grown.block j h1 h2)⟩
          have b7 := (t7.grown.block nb (Array.getElem?_eq_some_iff.1 b6).1 (fun e => n3 (by injection e with e; exact e.symm))).trans b6
          have b8 := (g8.block nb (Array.getElem?_eq_some_iff.1 b6).1 (fun e => n3 (by injection e with e; exact e.symm))).trans b6
          have q8 : w8.cell? ⟨nb, 3, none⟩ = some (.slice ar s.more.length cr) := cell_p b8 3
          have f8 : w8.frozen? ⟨nb, 3, none⟩ = false := frz_p b8 3
          have hmap : ∃ c, c ≤ s.cnt + 1 ∧ MapV Tryz.prog 3 bm c (mapI (setTo s.named id k)) w8 := ⟨if (mapI s.named id).isSome then cm else cm + 1, by split <;> omega, by rw [← mapI_upd]; exact m8⟩
          have Z := Lib.hid (name_push (T' := T4) (Y := Y) (v' := .slice a6 (s.more.length + 1) c6) FD.out (FA.out.keep D4.out S4.out.size).2 I4.out S4.out hbd.out hbm.out hg hl (by rw [List.map_append]; exact ho6) g8 hmap)
          clear hg hl n1 n2 n3 hm6 t7 t8 m8 g8 hmap hg6 hl6 ho6 hm0
          refine hK.out _ _ (by (exact b6)) (fun hHeld3 => ?_)
          clear hK K
          (try simp only [Act.put, sA, sB, sC])
          refine tt_ready (rs := [14]) (by decide +kernel) (allT_cons (by rfl) (fun K hK => ?_) allT_nil)
          go_simp
          refine hK.out _ _ (by (exact b7)) (fun hHeld4 => ?_)
          clear hK K
          (try simp only [Act.put, sA, sB, sC])
          refine tt_take (i := 15) (v := _) (by rfl) (by decide +kernel) (by exact fun _ _ _ h => h) (Or.inl ⟨by rfl, by (intro W hSw; (try dsimp only at hSw); go_simp <;> with_reducible rfl)⟩) (by assumption) ?_
          (try simp only [Act.put, sA, sB, sC])
          refine tt_ready (rs := [16]) (by decide +kernel) (allT_cons (by rfl) (fun K hK => ?_) allT_nil)
          go_simp
          refine hK.out _ _ (by (exact b8)) (fun hHeld5 => ?_)
          clear hK K
          (try simp only [Act.put, sA, sB, sC])
          refine tt_tail (by decide +kernel) ?_
          simp only [List.drop_succ_cons, List.drop_zero]
          go_wp2
          go_ret2
          exact ⟨by rw [hv4.out]; rfl, by rw [hv4.out]; exact Z.out.1, by rw [hv4.out]; exact Z.out.2⟩
end Go.Proofs.YtgoojkiccdjplaaGreatDoor
