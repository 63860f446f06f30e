/-
  Parts of this claim's texts, one behind the other: YR. No condition.
-/
import Derived.Test.YtgoojkiccdjplaaGreatDoorN11
set_option linter.unusedVariables false
set_option linter.unusedSimpArgs false
set_option maxRecDepth 100000
set_option maxHeartbeats 16000000
namespace Go.Proofs.YtgoojkiccdjplaaGreatDoor
open Go.RowKit Go.Sort Go.Lib
def MakePost (B p:Nat) (T:TermD) (op:Int) (nm:ByteArray) (val:RatD) (args:List Int) (w:World) (e:Ending) (w':World):Prop:=
 e = .returned (.tuple #[.int .i64 (makeD T op nm val args).1.1,.int .i64 (makeD T op nm val args).1.2])∧TermX B p (makeD T op nm val args).2 w'∧TStep p w w'
structure MArgs (w:World) (nm:ByteArray) (val:RatD) (args:List Int) (op:Int) (a b g:Option Addr) (c d e:Nat):Prop where
 rnum:SlR Rep.u64 (fun _=>True) w a val.num.length val.num
 rden:SlR Rep.u64 (fun _=>True) w b val.den.length val.den
 rargs:SlR Rep.int (DatB w) w g args.length args
 nc:val.num.length≤c∧c≤maxLen
 dc:val.den.length≤d∧d≤maxLen
 ac:args.length≤e∧e≤maxLen
 nl:val.num.length≤1000000
 nml:nm.size≤1000000
 opk:okI op
 one:op=11→val.den.length≤1000000
section
variable {w w' : World} {nm : ByteArray} {val : RatD} {args : List Int} {op : Int} {a b g : Option Addr} {c d e : Nat} {B p : Nat} {T : TermD}
theorem SlR.datB {α:Type} {R:Rep α} {n:Nat} {xs:List α} (h:SlR R (DatB w) w a n xs) (hb:Below w.heap.size w w'):SlR R (DatB w') w' a n xs:=
 (h.keep (fun b hl _=>hb.block b hl) hb.size).mono fun b _ hd=>hd.same (hb.block b hd.lt)
theorem MArgs.all (h:MArgs w nm val args op a b g c d e) (hb:Below w.heap.size w w'):MArgs w' nm val args op a b g c d e:=
 ⟨h.rnum.below hb (Nat.le_refl _),h.rden.below hb (Nat.le_refl _),h.rargs.datB hb,h.nc,h.dc,h.ac,h.nl,h.nml,h.opk,h.one⟩
theorem MakePost.err (h:TermX B p T w) (hb:Below w.heap.size w w') {z:Int} (hv:makeD T op nm val args=((0,z),T)):MakePost B p T op nm val args w (.returned (.tuple #[.int .i64 0,.int .i64 z])) w':=
 ⟨by rw [hv],by rw [hv];exact h.all hb,.of_below h.plt hb⟩
theorem MakePost.put (h:TermX B p T w) (hb:Below w.heap.size w w') {x:NodeD} {w2:World} {e:Ending} (hv:makeD T op nm val args=putD T x) (hp:PutPost B p T x w' e w2):MakePost B p T op nm val args w e w2:=by
 obtain ⟨h1,h2,h3⟩:=hp
 exact⟨by rw [hv];exact h1,by rw [hv];exact h2,(TStep.of_below h.plt hb).trans h3⟩
theorem MArgs.node (h:MArgs w nm val args op a b g c d e) {s:Int} (hs:okI s):NodeS (fun _=>True) w ⟨op,nm,val,args,s⟩ a c b d g e:=⟨h.rnum,h.nc,h.rden,h.dc,h.rargs.mono fun _ _ _=>trivial,h.ac,h.opk,hs⟩
theorem MArgs.key (h:MArgs w nm val args op a b g c d e) {s:Int} (hl:args.length≤64) (hd:val.den.length≤1000000):KeyOk ⟨op,nm,val,args,s⟩:=
 ⟨h.nml,h.nl,hd,Nat.le_trans hl (by decide),fun _=>⟨h.rnum.us,h.rden.us⟩⟩
theorem sorted_okI (hr:∀x∈T.nodes,okI x.sort) (hf:∀f∈T.S.funs,okI f.res):okI (sortedD T op nm args).1:=by
 have h0:okI 0:=by unfold okI;omega
 have h1:okI 1:=by unfold okI;omega
 have hn:∀i,okI (nodeAt T i).sort:=fun i=>by
  unfold nodeAt
  rw [List.getD_eq_getElem?_getD]
  cases hh:T.nodes[i.toNat]? with
  | none=>exact h0
  | some x=>exact hr x (List.mem_of_getElem? hh)
 unfold sortedD iteD callD
 repeat' split
 all_goals first | exact h0 | exact h1 | exact hn _ | skip
 all_goals
  unfold lookF
  cases hh:findF T.S nm with
  | none=>exact h0
  | some f=>exact hf f (List.mem_of_find?_eq_some hh)
theorem TermX.srts (h:TermX B p T w):(∀x∈T.nodes,okI x.sort)∧∀f∈T.S.funs,okI f.res:=by
 obtain ⟨q,a1,c1,a2,c2,m,ha⟩:=h.look
 constructor
 ·intro x hx
  obtain ⟨k,hk,rfl⟩:=List.getElem_of_mem hx
  have:=(ha.sortCell hk).choose_spec.choose_spec.2.2
  have e:=nodeAt_nat hk
  rw [List.getElem?_eq_getElem hk] at e
  injection e with e
  rw [e];exact this
 ·intro f hf
  obtain ⟨Bs,hq⟩:=ha.srt
  obtain ⟨k,hk,rfl⟩:=List.getElem_of_mem hf
  obtain ⟨_,_,_,_,_,_,_,_,o2,_⟩:=hq.look
  have hrd:=o2.read (S':=fun _=>True) (fun _ _ _=>trivial) (fun _ _=>trivial)
  obtain ⟨_,_,_,_,_,_,_,_,_,h6,_⟩:=hrd.funAt (List.getElem?_eq_getElem hk)
  exact h6
theorem sorted_div (h:(sortedD T 16 nm args).2=true):1≤args.length:=by
 have e:sortedD T 16 nm args=(1,numericD T 16 args):=rfl
 rw [e] at h
 simp only at h
 unfold numericD leastD at h
 simp at h
 omega
theorem sorted_div2 (h:(sortedD T op nm args).2=true) (e:op=16):1≤args.length:=by subst e;exact sorted_div h
end
theorem makeLow (B p:Nat) (T:TermD) (op:Int) (nm:ByteArray) (val:RatD) (args:List Int) (a b g:Option Addr) (c d e:Nat) (w:World) (h:TermX B p T w) (_hs:SmT T) (_hE:EnvT w) (_hx:MArgs w nm val args op a b g c d e) (h1:op<1) :
  Calls Tryz.prog 33 #[.pointer (some ⟨p,0,none⟩),.int .i64 op,.string nm,ratV val a c b d,.slice g args.length e] w fun e w'=>MakePost B p T op nm val args w e w':=by
 have hv:=@hid (makeD T op nm val args=((0,1),T)) (by unfold makeD;rw [if_pos (by unfold badHead;simp;omega)])
 have h':=hid h
 clear h _hs _hE _hx
 go_enter Tryz.func33,Tryz.ntmps33
 go_wp2
 go_ret2
 exact MakePost.err h'.out (below2 w _ _) hv.out
theorem makeHigh (B p:Nat) (T:TermD) (op:Int) (nm:ByteArray) (val:RatD) (args:List Int) (a b g:Option Addr) (c d e:Nat) (w:World) (h:TermX B p T w) (_hs:SmT T) (_hE:EnvT w) (_hx:MArgs w nm val args op a b g c d e) (h1:1≤op) (h2:20<op) :
  Calls Tryz.prog 33 #[.pointer (some ⟨p,0,none⟩),.int .i64 op,.string nm,ratV val a c b d,.slice g args.length e] w fun e w'=>MakePost B p T op nm val args w e w':=by
 have hv:=@hid (makeD T op nm val args=((0,1),T)) (by unfold makeD;rw [if_pos (by unfold badHead;simp;omega)])
 have h1d:decide (op<1)=false:=by simp;omega
 have h':=hid h
 clear h _hs _hE _hx
 go_enter Tryz.func33,Tryz.ntmps33
 go_wp2
 go_ret2
 exact MakePost.err h'.out (below2 w _ _) hv.out
theorem makeMany (B p:Nat) (T:TermD) (op:Int) (nm:ByteArray) (val:RatD) (args:List Int) (a b g:Option Addr) (c d e:Nat) (w:World) (h:TermX B p T w) (_hs:SmT T) (_hE:EnvT w) (_hx:MArgs w nm val args op a b g c d e) (h1:1≤op) (h2:op≤20) (h3:64<args.length) :
  Calls Tryz.prog 33 #[.pointer (some ⟨p,0,none⟩),.int .i64 op,.string nm,ratV val a c b d,.slice g args.length e] w fun e w'=>MakePost B p T op nm val args w e w':=by
 have hv:=@hid (makeD T op nm val args=((0,1),T)) (by unfold makeD;rw [if_pos (by unfold badHead;simp;omega)])
 have h1d:decide (op<1)=false:=by simp;omega
 have h2d:decide (20<op)=false:=by simp;omega
 have h3i:(64:Int)<args.length:=by omega
 have h':=hid h
 clear h _hs _hE _hx
 go_enter Tryz.func33,Tryz.ntmps33
 go_wp2
 go_ret2
 exact MakePost.err h'.out (below2 w _ _) hv.out
theorem makeApp (B p:Nat) (T:TermD) (op:Int) (nm:ByteArray) (val:RatD) (args:List Int) (a b g:Option Addr) (c d e:Nat) (w:World) (h:TermX B p T w) (hs:SmT T) (hE:EnvT w) (hx:MArgs w nm val args op a b g c d e) (h12:op=12) (hl64:args.length≤64) :
  Calls Tryz.prog 33 #[.pointer (some ⟨p,0,none⟩),.int .i64 op,.string nm,ratV val a c b d,.slice g args.length e] w fun e w'=>MakePost B p T op nm val args w e w':=by
 have h':=hid h
 have hs':=hid hs
 have hE':=hid hE
 have hx':=hid hx
 have hz:=hid (zero_any val a b c d ((w.alloc (.cells #[.pointer (some ⟨p,0,none⟩)] 26)).alloc (.cells #[.bool val.neg,.slice a val.num.length c,.slice b val.den.length d] 36)))
 subst h12
 have hli:¬(64:Int)<args.length:=by omega
 have hld:decide ((64:Int)<args.length)=false:=by simpa using hli
 have hd2:=@hid (makeD T 12 nm val args=if badVal 12 nm val then((0,1),T) else if args.any (fun i=>!hasT T i) then((0,1),T) else if (sortedD T 12 nm args).2 then putD T ⟨12,nm,val,args,(sortedD T 12 nm args).1⟩ else((0,3),T)) (by unfold makeD;rw [if_neg (by unfold badHead;simp;omega)])
 cases hzr:zeroR val
 case false=>
  have hv:=@hid (makeD T 12 nm val args=((0,1),T)) (by rw [hd2.out,if_pos (by unfold badVal;rw [hzr];simp)])
  rw [hzr] at hz
  clear hzr hd2 h hs hE hx
  go_enter Tryz.func33,Tryz.ntmps33
  go_wp2_with fail
  refine hz.out.mono ?_;rintro e1 w1 ⟨rfl,hb1⟩
  have B1:=hid ((below2 w (.cells #[.pointer (some ⟨p,0,none⟩)] 26) (.cells #[.bool val.neg,.slice a val.num.length c,.slice b val.den.length d] 36)).trans (hb1.mono (below2 w (.cells #[.pointer (some ⟨p,0,none⟩)] 26) (.cells #[.bool val.neg,.slice a val.num.length c,.slice b val.den.length d] 36)).size))
  clear hb1
  go_wp2
  go_ret2
  exact MakePost.err h'.out B1.out hv.out
 case true=>
  have hd3:=@hid (makeD T 12 nm val args=if args.any (fun i=>!hasT T i) then((0,1),T) else if (sortedD T 12 nm args).2 then putD T ⟨12,nm,val,args,(sortedD T 12 nm args).1⟩ else((0,3),T)) (by rw [hd2.out,if_neg (by unfold badVal;rw [hzr];simp)])
  have hden:=@hid (val.den.length≤1000000) (by unfold zeroR at hzr;simp at hzr;rw [hzr.2.2];simp)
  rw [hzr] at hz
  clear hzr hd2 h hs hE hx
  go_enter Tryz.func33,Tryz.ntmps33
  go_wp2_with fail
  refine hz.out.mono ?_;rintro e1 w1 ⟨rfl,hb1⟩
  have B1':=hid (Below.trans (below2 w (.cells #[.pointer (some ⟨p,0,none⟩)] 26) (.cells #[.bool val.neg,.slice a val.num.length c,.slice b val.den.length d] 36)) (hb1.mono (below2 w (.cells #[.pointer (some ⟨p,0,none⟩)] 26) (.cells #[.bool val.neg,.slice a val.num.length c,.slice b val.den.length d] 36)).size))
  have X0:=hid ((hb1.block w.heap.size (by simp;omega)).trans (heap2a w (.cells #[.pointer (some ⟨p,0,none⟩)] 26) (.cells #[.bool val.neg,.slice a val.num.length c,.slice b val.den.length d] 36)))
  have X1:=hid ((hb1.block (w.heap.size+1) (by simp)).trans (heap2b w (.cells #[.pointer (some ⟨p,0,none⟩)] 26) (.cells #[.bool val.neg,.slice a val.num.length c,.slice b val.den.length d] 36)))
  clear hb1
  have hcf:=hid (hasM_any (fun i=>!hasT T i) g args.length e w.heap.size args w1 (hx'.out.rargs.toI.below B1'.out (Nat.le_refl _)) (by omega) (fun w2 hw2 y _=>make1_any B p T y w.heap.size w2 ((h'.out.all B1'.out).all hw2) (cell_p ((hw2.block _ (Array.getElem?_eq_some_iff.1 X0.out).1).trans X0.out) 0)))
  cases hbad:args.any (fun i=>!hasT T i)
  case true=>
   have hv:=@hid (makeD T 12 nm val args=((0,1),T)) (by rw [hd3.out,hbad];rfl)
   rw [hbad] at hcf
   clear hbad
   go_wp2_with fail
   refine hcf.out.mono ?_;rintro e2 w2 ⟨rfl,hb2⟩
   have B2:=hid (B1'.out.trans (hb2.mono B1'.out.size))
   clear hb2
   go_wp2
   go_ret2
   exact MakePost.err h'.out B2.out hv.out
  case false=>
   rw [hbad] at hcf
   have hin:=hid (inT_of hbad)
   have hd4:=@hid (makeD T 12 nm val args=if (sortedD T 12 nm args).2 then putD T ⟨12,nm,val,args,(sortedD T 12 nm args).1⟩ else((0,3),T)) (by rw [hd3.out,hbad];rfl)
   clear hbad hd3
   go_wp2_with fail
   refine hcf.out.mono ?_;rintro e2 w2 ⟨rfl,hb2⟩
   have B2:=hid (B1'.out.trans (hb2.mono B1'.out.size))
   have Y0:=hid ((hb2.block w.heap.size (Array.getElem?_eq_some_iff.1 X0.out).1).trans X0.out)
   have Y1:=hid ((hb2.block (w.heap.size+1) (Array.getElem?_eq_some_iff.1 X1.out).1).trans X1.out)
   have y0:w2.cell? ⟨w.heap.size,0,none⟩=some (.pointer (some ⟨p,0,none⟩)):=cell_p Y0.out 0
   have hso:=hid (sorted_any B p T 12 nm g args.length e args w2 ⟨h'.out.all B2.out,hx'.out.rargs.toI.below B2.out (Nat.le_refl _),by omega,hx'.out.ac.1,hin.out,hs'.out.s,hs'.out.nn⟩ (by omega) (by omega))
   clear hb2 X0 X1 hcf B1'
   have hokI:=hid (sorted_okI (nm:=nm) (args:=args) (op:=12) h'.out.srts.1 h'.out.srts.2)
   have hdv:=@hid ((sortedD T 12 nm args).2=true→12=16→1≤args.length) (fun e1 e2=>sorted_div2 e1 e2)
   generalize hS:sortedD T 12 nm args=R at *
   obtain ⟨so,ok⟩:=R
   have hS':=hid hS
   clear hS
   dsimp only at *
   cases ok
   case false=>
    have hv:=@hid (makeD T 12 nm val args=((0,3),T)) (by rw [hd4.out];rfl)
    go_wp2_with fail
    refine hso.out.mono ?_;rintro e3 w3 ⟨rfl,hb3⟩
    rw [hS'.out]
    have B3:=hid (B2.out.trans (hb3.mono B2.out.size))
    clear hb3
    go_wp2
    go_ret2
    exact MakePost.err h'.out B3.out hv.out
   case true=>
    have hv:=@hid (makeD T 12 nm val args=putD T ⟨12,nm,val,args,so⟩) (by rw [hd4.out];rfl)
    go_wp2_with fail
    refine hso.out.mono ?_;rintro e3 w3 ⟨rfl,hb3⟩
    rw [hS'.out]
    have B3:=hid (B2.out.trans (hb3.mono B2.out.size))
    have Z0:=(hb3.block w.heap.size (Array.getElem?_eq_some_iff.1 Y0.out).1).trans Y0.out
    have Z1:=(hb3.block (w.heap.size+1) (Array.getElem?_eq_some_iff.1 Y1.out).1).trans Y1.out
    have z0:w3.cell? ⟨w.heap.size,0,none⟩=some (.pointer (some ⟨p,0,none⟩)):=cell_p Z0 0
    have z1:w3.cell? ⟨w.heap.size+1,0,none⟩=some (.bool val.neg):=cell_p Z1 0
    have z2:w3.cell? ⟨w.heap.size+1,1,none⟩=some (.slice a val.num.length c):=cell_p Z1 1
    have z3:w3.cell? ⟨w.heap.size+1,2,none⟩=some (.slice b val.den.length d):=cell_p Z1 2
    have hpt:=hid (put_any B p T ⟨12,nm,val,args,so⟩ a b g c d e w3 (h'.out.all B3.out) ((hx'.out.all B3.out).node hokI.out) (hx'.out.all B3.out).rargs (hx'.out.key hl64 hden.out) hs'.out hin.out (fun e=>hdv.out (by first | trivial | rfl) e) (hE'.out.all B3.out))
    clear hb3 Z0 Z1
    go_wp2_with fail
    refine hpt.out.mono ?_;rintro e4 w4 ⟨rfl,hT4,hS4⟩
    have P4:=@hid (PutPost B p T ⟨12,nm,val,args,so⟩ w3 (.returned (.tuple #[.int .i64 (putD T ⟨12,nm,val,args,so⟩).1.1,.int .i64 (putD T ⟨12,nm,val,args,so⟩).1.2])) w4) ⟨rfl,hT4,hS4⟩
    clear hT4 hS4
    go_wp2
    go_ret2
    exact MakePost.put h'.out B3.out hv.out P4.out
theorem makeOther (B p:Nat) (T:TermD) (op:Int) (nm:ByteArray) (val:RatD) (args:List Int) (a b g:Option Addr) (c d e:Nat) (w:World) (h:TermX B p T w) (hs:SmT T) (hE:EnvT w) (hx:MArgs w nm val args op a b g c d e) (h1:1≤op) (h2:op≤20) (h11:¬op=11) (h12:¬op=12) (hl64:args.length≤64) :
  Calls Tryz.prog 33 #[.pointer (some ⟨p,0,none⟩),.int .i64 op,.string nm,ratV val a c b d,.slice g args.length e] w fun e w'=>MakePost B p T op nm val args w e w':=by
 have h':=hid h
 have hs':=hid hs
 have hE':=hid hE
 have hx':=hid hx
 have hz:=hid (zero_any val a b c d ((w.alloc (.cells #[.pointer (some ⟨p,0,none⟩)] 26)).alloc (.cells #[.bool val.neg,.slice a val.num.length c,.slice b val.den.length d] 36)))
 have hli:¬(64:Int)<args.length:=by omega
 have hld:decide ((64:Int)<args.length)=false:=by simpa using hli
 have hd2:=@hid (makeD T op nm val args=if badVal op nm val then((0,1),T) else if args.any (fun i=>!hasT T i) then((0,1),T) else if (sortedD T op nm args).2 then putD T ⟨op,nm,val,args,(sortedD T op nm args).1⟩ else((0,3),T)) (by unfold makeD;rw [if_neg (by unfold badHead;simp;omega)])
 have h1d:decide (op<1)=false:=by simp;omega
 have h2d:decide (20<op)=false:=by simp;omega
 have h1n:¬op<1:=by omega
 have h2n:¬20<op:=by omega
 by_cases hnm:nm.size=0
 case neg=>
  have hv:=@hid (makeD T op nm val args=((0,1),T)) (by rw [hd2.out,if_pos (by unfold badVal;simp [hnm,h12])])
  have hnl:nm.toList.isEmpty=false:=by
   rw [Lib.toList_data]
   cases hh:nm.data.toList with
   | nil=>exact absurd (by rw [size_data,hh];rfl) hnm
   | cons _ _=>rfl
  clear hd2 h hs hE hx
  go_enter Tryz.func33,Tryz.ntmps33
  go_wp2
  go_ret2
  exact MakePost.err h'.out (below2 w _ _) hv.out
 have hne:nm=ByteArray.mk #[]:=by
  obtain ⟨l⟩:=nm
  have:l = #[]:=Array.eq_empty_of_size_eq_zero hnm
  rw [this]
 subst hne
 clear hnm
 cases hzr:zeroR val
 case false=>
  have hv:=@hid (makeD T op (ByteArray.mk #[]) val args=((0,1),T)) (by rw [hd2.out,if_pos (by unfold badVal;rw [hzr];simp [h11,show(ByteArray.mk #[]).size=0 from rfl])])
  rw [hzr] at hz
  clear hzr hd2 h hs hE hx
  go_enter Tryz.func33,Tryz.ntmps33
  go_wp2_with fail
  refine hz.out.mono ?_;rintro e1 w1 ⟨rfl,hb1⟩
  have B1:=hid ((below2 w (.cells #[.pointer (some ⟨p,0,none⟩)] 26) (.cells #[.bool val.neg,.slice a val.num.length c,.slice b val.den.length d] 36)).trans (hb1.mono (below2 w (.cells #[.pointer (some ⟨p,0,none⟩)] 26) (.cells #[.bool val.neg,.slice a val.num.length c,.slice b val.den.length d] 36)).size))
  clear hb1
  go_wp2
  go_ret2
  exact MakePost.err h'.out B1.out hv.out
 case true=>
  have hd3:=@hid (makeD T op (ByteArray.mk #[]) val args=if args.any (fun i=>!hasT T i) then((0,1),T) else if (sortedD T op (ByteArray.mk #[]) args).2 then putD T ⟨op,(ByteArray.mk #[]),val,args,(sortedD T op (ByteArray.mk #[]) args).1⟩ else((0,3),T)) (by rw [hd2.out,if_neg (by unfold badVal;rw [hzr];simp [h11,show(ByteArray.mk #[]).size=0 from rfl])])
  have hden:=@hid (val.den.length≤1000000) (by unfold zeroR at hzr;simp at hzr;rw [hzr.2.2];simp)
  rw [hzr] at hz
  clear hzr hd2 h hs hE hx
  go_enter Tryz.func33,Tryz.ntmps33
  go_wp2_with fail
  refine hz.out.mono ?_;rintro e1 w1 ⟨rfl,hb1⟩
  have B1':=hid (Below.trans (below2 w (.cells #[.pointer (some ⟨p,0,none⟩)] 26) (.cells #[.bool val.neg,.slice a val.num.length c,.slice b val.den.length d] 36)) (hb1.mono (below2 w (.cells #[.pointer (some ⟨p,0,none⟩)] 26) (.cells #[.bool val.neg,.slice a val.num.length c,.slice b val.den.length d] 36)).size))
  have X0:=hid ((hb1.block w.heap.size (by simp;omega)).trans (heap2a w (.cells #[.pointer (some ⟨p,0,none⟩)] 26) (.cells #[.bool val.neg,.slice a val.num.length c,.slice b val.den.length d] 36)))
  have X1:=hid ((hb1.block (w.heap.size+1) (by simp)).trans (heap2b w (.cells #[.pointer (some ⟨p,0,none⟩)] 26) (.cells #[.bool val.neg,.slice a val.num.length c,.slice b val.den.length d] 36)))
  clear hb1
  have hcf:=hid (hasM_any (fun i=>!hasT T i) g args.length e w.heap.size args w1 (hx'.out.rargs.toI.below B1'.out (Nat.le_refl _)) (by omega) (fun w2 hw2 y _=>make1_any B p T y w.heap.size w2 ((h'.out.all B1'.out).all hw2) (cell_p ((hw2.block _ (Array.getElem?_eq_some_iff.1 X0.out).1).trans X0.out) 0)))
  cases hbad:args.any (fun i=>!hasT T i)
  case true=>
   have hv:=@hid (makeD T op (ByteArray.mk #[]) val args=((0,1),T)) (by rw [hd3.out,hbad];rfl)
   rw [hbad] at hcf
   clear hbad
   go_wp2_with fail
   refine hcf.out.mono ?_;rintro e2 w2 ⟨rfl,hb2⟩
   have B2:=hid (B1'.out.trans (hb2.mono B1'.out.size))
   clear hb2
   go_wp2
   go_ret2
   exact MakePost.err h'.out B2.out hv.out
  case false=>
   rw [hbad] at hcf
   have hin:=hid (inT_of hbad)
   have hd4:=@hid (makeD T op (ByteArray.mk #[]) val args=if (sortedD T op (ByteArray.mk #[]) args).2 then putD T ⟨op,(ByteArray.mk #[]),val,args,(sortedD T op (ByteArray.mk #[]) args).1⟩ else((0,3),T)) (by rw [hd3.out,hbad];rfl)
   clear hbad hd3
   go_wp2_with fail
   refine hcf.out.mono ?_;rintro e2 w2 ⟨rfl,hb2⟩
   have B2:=hid (B1'.out.trans (hb2.mono B1'.out.size))
   have Y0:=hid ((hb2.block w.heap.size (Array.getElem?_eq_some_iff.1 X0.out).1).trans X0.out)
   have Y1:=hid ((hb2.block (w.heap.size+1) (Array.getElem?_eq_some_iff.1 X1.out).1).trans X1.out)
   have y0:w2.cell? ⟨w.heap.size,0,none⟩=some (.pointer (some ⟨p,0,none⟩)):=cell_p Y0.out 0
   have hso:=hid (sorted_any B p T op (ByteArray.mk #[]) g args.length e args w2 ⟨h'.out.all B2.out,hx'.out.rargs.toI.below B2.out (Nat.le_refl _),by omega,hx'.out.ac.1,hin.out,hs'.out.s,hs'.out.nn⟩ (by omega) (by omega))
   clear hb2 X0 X1 hcf B1'
   have hokI:=hid (sorted_okI (nm:=(ByteArray.mk #[])) (args:=args) (op:=op) h'.out.srts.1 h'.out.srts.2)
   have hdv:=@hid ((sortedD T op (ByteArray.mk #[]) args).2=true→op=16→1≤args.length) (fun e1 e2=>sorted_div2 e1 e2)
   generalize hS:sortedD T op (ByteArray.mk #[]) args=R at *
   obtain ⟨so,ok⟩:=R
   have hS':=hid hS
   clear hS
   dsimp only at *
   cases ok
   case false=>
    have hv:=@hid (makeD T op (ByteArray.mk #[]) val args=((0,3),T)) (by rw [hd4.out];rfl)
    go_wp2_with fail
    refine hso.out.mono ?_;rintro e3 w3 ⟨rfl,hb3⟩
    rw [hS'.out]
    have B3:=hid (B2.out.trans (hb3.mono B2.out.size))
    clear hb3
    go_wp2
    go_ret2
    exact MakePost.err h'.out B3.out hv.out
   case true=>
    have hv:=@hid (makeD T op (ByteArray.mk #[]) val args=putD T ⟨op,(ByteArray.mk #[]),val,args,so⟩) (by rw [hd4.out];rfl)
    go_wp2_with fail
    refine hso.out.mono ?_;rintro e3 w3 ⟨rfl,hb3⟩
    rw [hS'.out]
    have B3:=hid (B2.out.trans (hb3.mono B2.out.size))
    have Z0:=(hb3.block w.heap.size (Array.getElem?_eq_some_iff.1 Y0.out).1).trans Y0.out
    have Z1:=(hb3.block (w.heap.size+1) (Array.getElem?_eq_some_iff.1 Y1.out).1).trans Y1.out
    have z0:w3.cell? ⟨w.heap.size,0,none⟩=some (.pointer (some ⟨p,0,none⟩)):=cell_p Z0 0
    have z1:w3.cell? ⟨w.heap.size+1,0,none⟩=some (.bool val.neg):=cell_p Z1 0
    have z2:w3.cell? ⟨w.heap.size+1,1,none⟩=some (.slice a val.num.length c):=cell_p Z1 1
    have z3:w3.cell? ⟨w.heap.size+1,2,none⟩=some (.slice b val.den.length d):=cell_p Z1 2
    have hpt:=hid (put_any B p T ⟨op,(ByteArray.mk #[]),val,args,so⟩ a b g c d e w3 (h'.out.all B3.out) ((hx'.out.all B3.out).node hokI.out) (hx'.out.all B3.out).rargs (hx'.out.key hl64 hden.out) hs'.out hin.out (fun e=>hdv.out (by first | trivial | rfl) e) (hE'.out.all B3.out))
    clear hb3 Z0 Z1
    go_wp2_with fail
    refine hpt.out.mono ?_;rintro e4 w4 ⟨rfl,hT4,hS4⟩
    have P4:=@hid (PutPost B p T ⟨op,(ByteArray.mk #[]),val,args,so⟩ w3 (.returned (.tuple #[.int .i64 (putD T ⟨op,(ByteArray.mk #[]),val,args,so⟩).1.1,.int .i64 (putD T ⟨op,(ByteArray.mk #[]),val,args,so⟩).1.2])) w4) ⟨rfl,hT4,hS4⟩
    clear hT4 hS4
    go_wp2
    go_ret2
    exact MakePost.put h'.out B3.out hv.out P4.out
theorem makeNum (B p:Nat) (T:TermD) (op:Int) (nm:ByteArray) (val:RatD) (args:List Int) (a b g:Option Addr) (c d e:Nat) (w:World) (h:TermX B p T w) (hs:SmT T) (hE:EnvT w) (hx:MArgs w nm val args op a b g c d e) (h11:op=11) (hl64:args.length≤64) :
  Calls Tryz.prog 33 #[.pointer (some ⟨p,0,none⟩),.int .i64 op,.string nm,ratV val a c b d,.slice g args.length e] w fun e w'=>MakePost B p T op nm val args w e w':=by
 have h':=hid h
 have hs':=hid hs
 have hE':=hid hE
 have hx':=hid hx
 subst h11
 have hden:=@hid (val.den.length≤1000000) (hx.one rfl)
 have hz:=hid (ratValid_any val a b c d ((w.alloc (.cells #[.pointer (some ⟨p,0,none⟩)] 26)).alloc (.cells #[.bool val.neg,.slice a val.num.length c,.slice b val.den.length d] 36)) (hx.rnum.below (below2 w (.cells #[.pointer (some ⟨p,0,none⟩)] 26) (.cells #[.bool val.neg,.slice a val.num.length c,.slice b val.den.length d] 36)) (Nat.le_refl _)) (hx.rden.below (below2 w (.cells #[.pointer (some ⟨p,0,none⟩)] 26) (.cells #[.bool val.neg,.slice a val.num.length c,.slice b val.den.length d] 36)) (Nat.le_refl _)) hx.nl (hx.one rfl) hx.nc hx.dc)
 have hli:¬(64:Int)<args.length:=by omega
 have hld:decide ((64:Int)<args.length)=false:=by simpa using hli
 have hd2:=@hid (makeD T 11 nm val args=if badVal 11 nm val then((0,1),T) else if args.any (fun i=>!hasT T i) then((0,1),T) else if (sortedD T 11 nm args).2 then putD T ⟨11,nm,val,args,(sortedD T 11 nm args).1⟩ else((0,3),T)) (by unfold makeD;rw [if_neg (by unfold badHead;simp;omega)])
 by_cases hnm:nm.size=0
 case neg=>
  have hv:=@hid (makeD T 11 nm val args=((0,1),T)) (by rw [hd2.out,if_pos (by unfold badVal;simp [hnm])])
  have hnl:nm.toList.isEmpty=false:=by
   rw [Lib.toList_data]
   cases hh:nm.data.toList with
   | nil=>exact absurd (by rw [size_data,hh];rfl) hnm
   | cons _ _=>rfl
  clear hd2 h hs hE hx
  go_enter Tryz.func33,Tryz.ntmps33
  go_wp2
  go_ret2
  exact MakePost.err h'.out (below2 w _ _) hv.out
 have hne:nm=ByteArray.mk #[]:=by
  obtain ⟨l⟩:=nm
  have:l = #[]:=Array.eq_empty_of_size_eq_zero hnm
  rw [this]
 subst hne
 clear hnm
 cases hzr:okRat val
 case false=>
  have hv:=@hid (makeD T 11 (ByteArray.mk #[]) val args=((0,1),T)) (by rw [hd2.out,if_pos (by unfold badVal;rw [hzr];simp [show(ByteArray.mk #[]).size=0 from rfl])])
  rw [hzr] at hz
  clear hzr hd2 h hs hE hx
  go_enter Tryz.func33,Tryz.ntmps33
  go_wp2_with fail
  refine hz.out.mono ?_;rintro e1 w1 ⟨rfl,hb1⟩
  have B1:=hid ((below2 w (.cells #[.pointer (some ⟨p,0,none⟩)] 26) (.cells #[.bool val.neg,.slice a val.num.length c,.slice b val.den.length d] 36)).trans (hb1.mono (below2 w (.cells #[.pointer (some ⟨p,0,none⟩)] 26) (.cells #[.bool val.neg,.slice a val.num.length c,.slice b val.den.length d] 36)).size))
  clear hb1
  go_wp2
  go_ret2
  exact MakePost.err h'.out B1.out hv.out
 case true=>
  have hd3:=@hid (makeD T 11 (ByteArray.mk #[]) val args=if args.any (fun i=>!hasT T i) then((0,1),T) else if (sortedD T 11 (ByteArray.mk #[]) args).2 then putD T ⟨11,(ByteArray.mk #[]),val,args,(sortedD T 11 (ByteArray.mk #[]) args).1⟩ else((0,3),T)) (by rw [hd2.out,if_neg (by unfold badVal;rw [hzr];simp [show(ByteArray.mk #[]).size=0 from rfl])])
  rw [hzr] at hz
  clear hzr hd2 h hs hE hx
  go_enter Tryz.func33,Tryz.ntmps33
  go_wp2_with fail
  refine hz.out.mono ?_;rintro e1 w1 ⟨rfl,hb1⟩
  have B1':=hid (Below.trans (below2 w (.cells #[.pointer (some ⟨p,0,none⟩)] 26) (.cells #[.bool val.neg,.slice a val.num.length c,.slice b val.den.length d] 36)) (hb1.mono (below2 w (.cells #[.pointer (some ⟨p,0,none⟩)] 26) (.cells #[.bool val.neg,.slice a val.num.length c,.slice b val.den.length d] 36)).size))
  have X0:=hid ((hb1.block w.heap.size (by simp;omega)).trans (heap2a w (.cells #[.pointer (some ⟨p,0,none⟩)] 26) (.cells #[.bool val.neg,.slice a val.num.length c,.slice b val.den.length d] 36)))
  have X1:=hid ((hb1.block (w.heap.size+1) (by simp)).trans (heap2b w (.cells #[.pointer (some ⟨p,0,none⟩)] 26) (.cells #[.bool val.neg,.slice a val.num.length c,.slice b val.den.length d] 36)))
  clear hb1
  have hcf:=hid (hasM_any (fun i=>!hasT T i) g args.length e w.heap.size args w1 (hx'.out.rargs.toI.below B1'.out (Nat.le_refl _)) (by omega) (fun w2 hw2 y _=>make1_any B p T y w.heap.size w2 ((h'.out.all B1'.out).all hw2) (cell_p ((hw2.block _ (Array.getElem?_eq_some_iff.1 X0.out).1).trans X0.out) 0)))
  cases hbad:args.any (fun i=>!hasT T i)
  case true=>
   have hv:=@hid (makeD T 11 (ByteArray.mk #[]) val args=((0,1),T)) (by rw [hd3.out,hbad];rfl)
   rw [hbad] at hcf
   clear hbad
   go_wp2_with fail
   refine hcf.out.mono ?_;rintro e2 w2 ⟨rfl,hb2⟩
   have B2:=hid (B1'.out.trans (hb2.mono B1'.out.size))
   clear hb2
   go_wp2
   go_ret2
   exact MakePost.err h'.out B2.out hv.out
  case false=>
   rw [hbad] at hcf
   have hin:=hid (inT_of hbad)
   have hd4:=@hid (makeD T 11 (ByteArray.mk #[]) val args=if (sortedD T 11 (ByteArray.mk #[]) args).2 then putD T ⟨11,(ByteArray.mk #[]),val,args,(sortedD T 11 (ByteArray.mk #[]) args).1⟩ else((0,3),T)) (by rw [hd3.out,hbad];rfl)
   clear hbad hd3
   go_wp2_with fail
   refine hcf.out.mono ?_;rintro e2 w2 ⟨rfl,hb2⟩
   have B2:=hid (B1'.out.trans (hb2.mono B1'.out.size))
   have Y0:=hid ((hb2.block w.heap.size (Array.getElem?_eq_some_iff.1 X0.out).1).trans X0.out)
   have Y1:=hid ((hb2.block (w.heap.size+1) (Array.getElem?_eq_some_iff.1 X1.out).1).trans X1.out)
   have y0:w2.cell? ⟨w.heap.size,0,none⟩=some (.pointer (some ⟨p,0,none⟩)):=cell_p Y0.out 0
   have hso:=hid (sorted_any B p T 11 (ByteArray.mk #[]) g args.length e args w2 ⟨h'.out.all B2.out,hx'.out.rargs.toI.below B2.out (Nat.le_refl _),by omega,hx'.out.ac.1,hin.out,hs'.out.s,hs'.out.nn⟩ (by omega) (by omega))
   clear hb2 X0 X1 hcf B1'
   have hokI:=hid (sorted_okI (nm:=(ByteArray.mk #[])) (args:=args) (op:=11) h'.out.srts.1 h'.out.srts.2)
   have hdv:=@hid ((sortedD T 11 (ByteArray.mk #[]) args).2=true→11=16→1≤args.length) (fun e1 e2=>sorted_div2 e1 e2)
   generalize hS:sortedD T 11 (ByteArray.mk #[]) args=R at *
   obtain ⟨so,ok⟩:=R
   have hS':=hid hS
   clear hS
   dsimp only at *
   cases ok
   case false=>
    have hv:=@hid (makeD T 11 (ByteArray.mk #[]) val args=((0,3),T)) (by rw [hd4.out];rfl)
    go_wp2_with fail
    refine hso.out.mono ?_;rintro e3 w3 ⟨rfl,hb3⟩
    rw [hS'.out]
    have B3:=hid (B2.out.trans (hb3.mono B2.out.size))
    clear hb3
    go_wp2
    go_ret2
    exact MakePost.err h'.out B3.out hv.out
   case true=>
    have hv:=@hid (makeD T 11 (ByteArray.mk #[]) val args=putD T ⟨11,(ByteArray.mk #[]),val,args,so⟩) (by rw [hd4.out];rfl)
    go_wp2_with fail
    refine hso.out.mono ?_;rintro e3 w3 ⟨rfl,hb3⟩
    rw [hS'.out]
    have B3:=hid (B2.out.trans (hb3.mono B2.out.size))
    have Z0:=(hb3.block w.heap.size (Array.getElem?_eq_some_iff.1 Y0.out).1).trans Y0.out
    have Z1:=(hb3.block (w.heap.size+1) (Array.getElem?_eq_some_iff.1 Y1.out).1).trans Y1.out
    have z0:w3.cell? ⟨w.heap.size,0,none⟩=some (.pointer (some ⟨p,0,none⟩)):=cell_p Z0 0
    have z1:w3.cell? ⟨w.heap.size+1,0,none⟩=some (.bool val.neg):=cell_p Z1 0
    have z2:w3.cell? ⟨w.heap.size+1,1,none⟩=some (.slice a val.num.length c):=cell_p Z1 1
    have z3:w3.cell? ⟨w.heap.size+1,2,none⟩=some (.slice b val.den.length d):=cell_p Z1 2
    have hpt:=hid (put_any B p T ⟨11,(ByteArray.mk #[]),val,args,so⟩ a b g c d e w3 (h'.out.all B3.out) ((hx'.out.all B3.out).node hokI.out) (hx'.out.all B3.out).rargs (hx'.out.key hl64 hden.out) hs'.out hin.out (fun e=>hdv.out (by first | trivial | rfl) e) (hE'.out.all B3.out))
    clear hb3 Z0 Z1
    go_wp2_with fail
    refine hpt.out.mono ?_;rintro e4 w4 ⟨rfl,hT4,hS4⟩
    have P4:=@hid (PutPost B p T ⟨11,(ByteArray.mk #[]),val,args,so⟩ w3 (.returned (.tuple #[.int .i64 (putD T ⟨11,(ByteArray.mk #[]),val,args,so⟩).1.1,.int .i64 (putD T ⟨11,(ByteArray.mk #[]),val,args,so⟩).1.2])) w4) ⟨rfl,hT4,hS4⟩
    clear hT4 hS4
    go_wp2
    go_ret2
    exact MakePost.put h'.out B3.out hv.out P4.out
theorem make_any (B p:Nat) (T:TermD) (op:Int) (nm:ByteArray) (val:RatD) (args:List Int) (a b g:Option Addr) (c d e:Nat) (w:World) (h:TermX B p T w) (hs:SmT T) (hE:EnvT w) (hx:MArgs w nm val args op a b g c d e) :
  Calls Tryz.prog 33 #[.pointer (some ⟨p,0,none⟩),.int .i64 op,.string nm,ratV val a c b d,.slice g args.length e] w fun e w'=>MakePost B p T op nm val args w e w':=by
 by_cases h1:op<1
 ·exact makeLow B p T op nm val args a b g c d e w h hs hE hx h1
 by_cases h2:20<op
 ·exact makeHigh B p T op nm val args a b g c d e w h hs hE hx (by omega) h2
 by_cases h3:64<args.length
 ·exact makeMany B p T op nm val args a b g c d e w h hs hE hx (by omega) (by omega) h3
 by_cases h11:op=11
 ·exact makeNum B p T op nm val args a b g c d e w h hs hE hx h11 (by omega)
 by_cases h12:op=12
 ·exact makeApp B p T op nm val args a b g c d e w h hs hE hx h12 (by omega)
 exact makeOther B p T op nm val args a b g c d e w h hs hE hx (by omega) (by omega) h11 h12 (by omega)
end Go.Proofs.YtgoojkiccdjplaaGreatDoor
