/-
  Parts of this claim's texts, one behind the other: YR. No condition.
-/
import Derived.Test.YtgoojkiccdjplaaGreatDoorN11
set_option linter.unusedVariables false
set_option linter.unusedSimpArgs false
set_option maxRecDepth 100000
set_option maxHeartbeats 16000000
namespace Go.Proofs.YtgoojkiccdjplaaGreatDoor
open Go.RowKit Go.Sort Go.Lib
def cF (B p:Nat) (T:aR) (op:Int) (nm:ByteArray) (val:cE) (args:List Int) (w:World) (e:Ending) (w':World):Prop:=
 e = .returned (.tuple #[.int .i64 (cD T op nm val args).1.1,.int .i64 (cD T op nm val args).1.2])/\cU B p (cD T op nm val args).2 w'/\fB p w w'
structure kF (w:World) (nm:ByteArray) (val:cE) (args:List Int) (op:Int) (a b g:Option Addr) (c d e:Nat):Prop where
 rnum:bJ bV.u64 (fun _=>True) w a val.num.length val.num
 rden:bJ bV.u64 (fun _=>True) w b val.den.length val.den
 rargs:bJ bV.int (dO w) w g args.length args
 nc:val.num.length<=c/\c<=maxLen
 dc:val.den.length<=d/\d<=maxLen
 ac:args.length<=e/\e<=maxLen
 nl:val.num.length<=1000000
 nml:nm.size<=1000000
 opk:fG op
 one:op=11->val.den.length<=1000000
section
variable {w w' : World} {nm : ByteArray} {val : cE} {args : List Int} {op : Int} {a b g : Option Addr} {c d e : Nat} {B p : Nat} {T : aR}
theorem bJ.datB {α:Type} {R:bV α} {n:Nat} {xs:List α} (h:bJ R (dO w) w a n xs) (hb:Below w.heap.size w w'):bJ R (dO w') w' a n xs:=
 (h.keep (fun b hl _=>hb.block b hl) hb.size).mono fun b _ hd=>hd.same (hb.block b hd.lt)
theorem kF.all (h:kF w nm val args op a b g c d e) (hb:Below w.heap.size w w'):kF w' nm val args op a b g c d e:=
 ⟨h.rnum.below hb aB,h.rden.below hb aB,h.rargs.datB hb,h.nc,h.dc,h.ac,h.nl,h.nml,h.opk,h.one⟩
theorem cF.err (h:cU B p T w) (hb:Below w.heap.size w w') {z:Int} (hv:cD T op nm val args=((0,z),T)):cF B p T op nm val args w (.returned (.tuple #[.int .i64 0,.int .i64 z])) w':=
 ⟨by rw [hv],by rw [hv];exact h.all hb,.of_below h.plt hb⟩
theorem cF.put (h:cU B p T w) (hb:Below w.heap.size w w') {x:bY} {w2:World} {e:Ending} (hv:cD T op nm val args=fT T x) (hp:qG B p T x w' e w2):cF B p T op nm val args w e w2:=by
 obtain ⟨h1,h2,h3⟩:=hp;exact⟨by rw [hv];exact h1,by rw [hv];exact h2,(fB.of_below h.plt hb).trans h3⟩
theorem kF.node (h:kF w nm val args op a b g c d e) {s:Int} (hs:fG s):dR (fun _=>True) w ⟨op,nm,val,args,s⟩ a c b d g e:=⟨h.rnum,h.nc,h.rden,h.dc,h.rargs.mono fun _ _ _=>trivial,h.ac,h.opk,hs⟩
theorem kF.key (h:kF w nm val args op a b g c d e) {s:Int} (hl:args.length<=64) (hd:val.den.length<=1000000):zT ⟨op,nm,val,args,s⟩:=
 ⟨h.nml,h.nl,hd,aK hl (by decide),fun _=>⟨h.rnum.us,h.rden.us⟩⟩
theorem pS (hr:∀x∈T.nodes,fG x.sort) (hf:∀f∈T.S.funs,fG f.res):fG (aX T op nm args).1:=by
 have h0:fG 0:=by unfold fG;omega
 have h1:fG 1:=by unfold fG;omega
 have hn:∀i,fG (nodeAt T i).sort:=fun i=>by
  unfold nodeAt;rw [List.getD_eq_getElem?_getD];cases hh:T.nodes[i.toNat]? with
  | none=>exact h0
  | some x=>exact hr x (List.mem_of_getElem? hh)
 unfold aX aFh gF
 repeat' split
 all_goals first | exact h0 | exact h1 | exact hn _ | skip
 all_goals
  unfold fH;cases hh:gO T.S nm with
  | none=>exact h0
  | some f=>exact hf f (List.mem_of_find?_eq_some hh)
theorem cU.srts (h:cU B p T w):(∀x∈T.nodes,fG x.sort)/\∀f∈T.S.funs,fG f.res:=by
 obtain ⟨q,a1,c1,a2,c2,m,ha⟩:=h.look;constructor
 ·intro x hx;obtain ⟨k,hk,rfl⟩:=List.getElem_of_mem hx;have:=(ha.sortCell hk).choose_spec.choose_spec.2.2;have e:=fC hk;rw [List.getElem?_eq_getElem hk] at e;injection e with e
  rw [e];exact this
 ·intro f hf;obtain ⟨Bs,hq⟩:=ha.srt;obtain ⟨k,hk,rfl⟩:=List.getElem_of_mem hf;obtain ⟨_,_,_,_,_,_,_,_,o2,_⟩:=hq.look;have hrd:=o2.read (S':=fun _=>True) (fun _ _ _=>trivial) (fun _ _=>trivial);obtain ⟨_,_,_,_,_,_,_,_,_,h6,_⟩:=hrd.funAt (List.getElem?_eq_getElem hk);exact h6
theorem aB5 (h:(aX T 16 nm args).2=true):1<=args.length:=by
 have e:aX T 16 nm args=(1,cX T 16 args):=rfl;rw [e] at h;simp only at h;unfold cX oZ at h;simp at h;omega
theorem nD (h:(aX T op nm args).2=true) (e:op=16):1<=args.length:=by subst e;exact aB5 h
end
theorem aI5 (B p:Nat) (T:aR) (op:Int) (nm:ByteArray) (val:cE) (args:List Int) (a b g:Option Addr) (c d e:Nat) (w:World) (h:cU B p T w) (_hs:SmT T) (_hE:jQ w) (_hx:kF w nm val args op a b g c d e) (h1:op<1) :
  Calls Tryz.prog 33 #[.pointer (some ⟨p,0,none⟩),.int .i64 op,.string nm,dK val a c b d,.slice g args.length e] w fun e w'=>cF B p T op nm val args w e w':=by
 have hv:=@hid (cD T op nm val args=((0,1),T)) (by unfold cD;rw [if_pos (by unfold jN;simp;omega)]);have h':=hid h;clear h _hs _hE _hx;go_enter Tryz.func33,Tryz.ntmps33
 go_wp2;go_ret2;exact cF.err h'.out (bX w _ _) hv.out
theorem aF9 (B p:Nat) (T:aR) (op:Int) (nm:ByteArray) (val:cE) (args:List Int) (a b g:Option Addr) (c d e:Nat) (w:World) (h:cU B p T w) (_hs:SmT T) (_hE:jQ w) (_hx:kF w nm val args op a b g c d e) (h1:1<=op) (h2:20<op) :
  Calls Tryz.prog 33 #[.pointer (some ⟨p,0,none⟩),.int .i64 op,.string nm,dK val a c b d,.slice g args.length e] w fun e w'=>cF B p T op nm val args w e w':=by
 have hv:=@hid (cD T op nm val args=((0,1),T)) (by unfold cD;rw [if_pos (by unfold jN;simp;omega)]);have h1d:decide (op<1)=false:=by simp;omega
 have h':=hid h;clear h _hs _hE _hx;go_enter Tryz.func33,Tryz.ntmps33
 go_wp2;go_ret2;exact cF.err h'.out (bX w _ _) hv.out
theorem aGa (B p:Nat) (T:aR) (op:Int) (nm:ByteArray) (val:cE) (args:List Int) (a b g:Option Addr) (c d e:Nat) (w:World) (h:cU B p T w) (_hs:SmT T) (_hE:jQ w) (_hx:kF w nm val args op a b g c d e) (h1:1<=op) (h2:op<=20) (h3:64<args.length) :
  Calls Tryz.prog 33 #[.pointer (some ⟨p,0,none⟩),.int .i64 op,.string nm,dK val a c b d,.slice g args.length e] w fun e w'=>cF B p T op nm val args w e w':=by
 have hv:=@hid (cD T op nm val args=((0,1),T)) (by unfold cD;rw [if_pos (by unfold jN;simp;omega)]);have h1d:decide (op<1)=false:=by simp;omega
 have h2d:decide (20<op)=false:=by simp;omega
 have h3i:(64:Int)<args.length:=by omega
 have h':=hid h;clear h _hs _hE _hx;go_enter Tryz.func33,Tryz.ntmps33
 go_wp2;go_ret2;exact cF.err h'.out (bX w _ _) hv.out
theorem aI6 (B p:Nat) (T:aR) (op:Int) (nm:ByteArray) (val:cE) (args:List Int) (a b g:Option Addr) (c d e:Nat) (w:World) (h:cU B p T w) (hs:SmT T) (hE:jQ w) (hx:kF w nm val args op a b g c d e) (h12:op=12) (hl64:args.length<=64) :
  Calls Tryz.prog 33 #[.pointer (some ⟨p,0,none⟩),.int .i64 op,.string nm,dK val a c b d,.slice g args.length e] w fun e w'=>cF B p T op nm val args w e w':=by
 have h':=hid h;have hs':=hid hs;have hE':=hid hE;have hx':=hid hx;have hz:=hid (zU val a b c d ((w.alloc (.cells #[.pointer (some ⟨p,0,none⟩)] 26)).alloc (.cells #[.bool val.neg,.slice a val.num.length c,.slice b val.den.length d] 36)));subst h12;have hli:¬(64:Int)<args.length:=by omega
 have hld:decide ((64:Int)<args.length)=false:=by simpa using hli
 have hd2:=@hid (cD T 12 nm val args=if jG 12 nm val then((0,1),T) else if args.any (fun i=>!iD T i) then((0,1),T) else if (aX T 12 nm args).2 then fT T ⟨12,nm,val,args,(aX T 12 nm args).1⟩ else((0,3),T)) (by unfold cD;rw [if_neg (by unfold jN;simp;omega)]);cases hzr:oT val
 case false=>
  have hv:=@hid (cD T 12 nm val args=((0,1),T)) (by rw [hd2.out,if_pos (by unfold jG;rw [hzr];simp)]);rw [hzr] at hz;clear hzr hd2 h hs hE hx;go_enter Tryz.func33,Tryz.ntmps33
  go_wp2_with fail
  refine hz.out.mono ?_;rintro e1 w1 ⟨rfl,hb1⟩;have B1:=hid ((bX w (.cells #[.pointer (some ⟨p,0,none⟩)] 26) (.cells #[.bool val.neg,.slice a val.num.length c,.slice b val.den.length d] 36)).trans (hb1.mono (bX w (.cells #[.pointer (some ⟨p,0,none⟩)] 26) (.cells #[.bool val.neg,.slice a val.num.length c,.slice b val.den.length d] 36)).size));clear hb1;go_wp2;go_ret2;exact cF.err h'.out B1.out hv.out
 case true=>
  have hd3:=@hid (cD T 12 nm val args=if args.any (fun i=>!iD T i) then((0,1),T) else if (aX T 12 nm args).2 then fT T ⟨12,nm,val,args,(aX T 12 nm args).1⟩ else((0,3),T)) (by rw [hd2.out,if_neg (by unfold jG;rw [hzr];simp)]);have hden:=@hid (val.den.length<=1000000) (by unfold oT at hzr;simp at hzr;rw [hzr.2.2];simp);rw [hzr] at hz;clear hzr hd2 h hs hE hx;go_enter Tryz.func33,Tryz.ntmps33
  go_wp2_with fail
  refine hz.out.mono ?_;rintro e1 w1 ⟨rfl,hb1⟩;have B1':=hid (Below.trans (bX w (.cells #[.pointer (some ⟨p,0,none⟩)] 26) (.cells #[.bool val.neg,.slice a val.num.length c,.slice b val.den.length d] 36)) (hb1.mono (bX w (.cells #[.pointer (some ⟨p,0,none⟩)] 26) (.cells #[.bool val.neg,.slice a val.num.length c,.slice b val.den.length d] 36)).size));have X0:=hid ((hb1.block w.heap.size (by simp;omega)).trans (dG w (.cells #[.pointer (some ⟨p,0,none⟩)] 26) (.cells #[.bool val.neg,.slice a val.num.length c,.slice b val.den.length d] 36)));have X1:=hid ((hb1.block (w.heap.size+1) (by simp)).trans (cY w (.cells #[.pointer (some ⟨p,0,none⟩)] 26) (.cells #[.bool val.neg,.slice a val.num.length c,.slice b val.den.length d] 36)));clear hb1;have hcf:=hid (tL (fun i=>!iD T i) g args.length e w.heap.size args w1 (hx'.out.rargs.toI.below B1'.out aB) (by omega) (fun w2 hw2 y _=>rL B p T y w.heap.size w2 ((h'.out.all B1'.out).all hw2) (aC (aJ hw2 X0.out) 0)));cases hbad:args.any (fun i=>!iD T i)
  case true=>
   have hv:=@hid (cD T 12 nm val args=((0,1),T)) (by rw [hd3.out,hbad];rfl);rw [hbad] at hcf;clear hbad
   go_wp2_with fail
   refine hcf.out.mono ?_;rintro e2 w2 ⟨rfl,hb2⟩;have B2:=hid (B1'.out.trans (hb2.mono B1'.out.size));clear hb2;go_wp2;go_ret2;exact cF.err h'.out B2.out hv.out
  case false=>
   rw [hbad] at hcf;have hin:=hid (xE hbad);have hd4:=@hid (cD T 12 nm val args=if (aX T 12 nm args).2 then fT T ⟨12,nm,val,args,(aX T 12 nm args).1⟩ else((0,3),T)) (by rw [hd3.out,hbad];rfl);clear hbad hd3
   go_wp2_with fail
   refine hcf.out.mono ?_;rintro e2 w2 ⟨rfl,hb2⟩;have B2:=hid (B1'.out.trans (hb2.mono B1'.out.size));have Y0:=hid ((hb2.block w.heap.size (bQ X0.out).1).trans X0.out);have Y1:=hid ((hb2.block (w.heap.size+1) (bQ X1.out).1).trans X1.out);have y0:w2.cell? ⟨w.heap.size,0,none⟩=some (.pointer (some ⟨p,0,none⟩)):=aC Y0.out 0;have hso:=hid (pF B p T 12 nm g args.length e args w2 ⟨h'.out.all B2.out,hx'.out.rargs.toI.below B2.out aB,by omega,hx'.out.ac.1,hin.out,hs'.out.s,hs'.out.nn⟩ (by omega) (by omega));clear hb2 X0 X1 hcf B1';have hokI:=hid (pS (nm:=nm) (args:=args) (op:=12) h'.out.srts.1 h'.out.srts.2);have hdv:=@hid ((aX T 12 nm args).2=true->12=16->1<=args.length) (fun e1 e2=>nD e1 e2);generalize hS:aX T 12 nm args=R at *;obtain ⟨so,ok⟩:=R;have hS':=hid hS;clear hS;dsimp only at *;cases ok
   case false=>
    have hv:=@hid (cD T 12 nm val args=((0,3),T)) (by rw [hd4.out];rfl)
    go_wp2_with fail
    refine hso.out.mono ?_;rintro e3 w3 ⟨rfl,hb3⟩;rw [hS'.out];have B3:=hid (aI B2 hb3);clear hb3;go_wp2;go_ret2;exact cF.err h'.out B3.out hv.out
   case true=>
    have hv:=@hid (cD T 12 nm val args=fT T ⟨12,nm,val,args,so⟩) (by rw [hd4.out];rfl)
    go_wp2_with fail
    refine hso.out.mono ?_;rintro e3 w3 ⟨rfl,hb3⟩;rw [hS'.out];have B3:=hid (aI B2 hb3);have Z0:=(hb3.block w.heap.size (bQ Y0.out).1).trans Y0.out;have Z1:=(hb3.block (w.heap.size+1) (bQ Y1.out).1).trans Y1.out;have z0:w3.cell? ⟨w.heap.size,0,none⟩=some (.pointer (some ⟨p,0,none⟩)):=aC Z0 0;have z1:w3.cell? ⟨w.heap.size+1,0,none⟩=some (.bool val.neg):=aC Z1 0;have z2:w3.cell? ⟨w.heap.size+1,1,none⟩=some (.slice a val.num.length c):=aC Z1 1;have z3:w3.cell? ⟨w.heap.size+1,2,none⟩=some (.slice b val.den.length d):=aC Z1 2;have hpt:=hid (xV B p T ⟨12,nm,val,args,so⟩ a b g c d e w3 (h'.out.all B3.out) ((hx'.out.all B3.out).node hokI.out) (hx'.out.all B3.out).rargs (hx'.out.key hl64 hden.out) hs'.out hin.out (fun e=>hdv.out (by first | trivial | rfl) e) (hE'.out.all B3.out));clear hb3 Z0 Z1
    go_wp2_with fail
    refine hpt.out.mono ?_;rintro e4 w4 ⟨rfl,hT4,hS4⟩;have P4:=@hid (qG B p T ⟨12,nm,val,args,so⟩ w3 (.returned (.tuple #[.int .i64 (fT T ⟨12,nm,val,args,so⟩).1.1,.int .i64 (fT T ⟨12,nm,val,args,so⟩).1.2])) w4) ⟨rfl,hT4,hS4⟩;clear hT4 hS4;go_wp2;go_ret2;exact cF.put h'.out B3.out hv.out P4.out
theorem aEb (B p:Nat) (T:aR) (op:Int) (nm:ByteArray) (val:cE) (args:List Int) (a b g:Option Addr) (c d e:Nat) (w:World) (h:cU B p T w) (hs:SmT T) (hE:jQ w) (hx:kF w nm val args op a b g c d e) (h1:1<=op) (h2:op<=20) (h11:¬op=11) (h12:¬op=12) (hl64:args.length<=64) :
  Calls Tryz.prog 33 #[.pointer (some ⟨p,0,none⟩),.int .i64 op,.string nm,dK val a c b d,.slice g args.length e] w fun e w'=>cF B p T op nm val args w e w':=by
 have h':=hid h;have hs':=hid hs;have hE':=hid hE;have hx':=hid hx;have hz:=hid (zU val a b c d ((w.alloc (.cells #[.pointer (some ⟨p,0,none⟩)] 26)).alloc (.cells #[.bool val.neg,.slice a val.num.length c,.slice b val.den.length d] 36)));have hli:¬(64:Int)<args.length:=by omega
 have hld:decide ((64:Int)<args.length)=false:=by simpa using hli
 have hd2:=@hid (cD T op nm val args=if jG op nm val then((0,1),T) else if args.any (fun i=>!iD T i) then((0,1),T) else if (aX T op nm args).2 then fT T ⟨op,nm,val,args,(aX T op nm args).1⟩ else((0,3),T)) (by unfold cD;rw [if_neg (by unfold jN;simp;omega)]);have h1d:decide (op<1)=false:=by simp;omega
 have h2d:decide (20<op)=false:=by simp;omega
 have h1n:¬op<1:=by omega
 have h2n:¬20<op:=by omega
 by_cases hnm:nm.size=0
 case neg=>
  have hv:=@hid (cD T op nm val args=((0,1),T)) (by rw [hd2.out,if_pos (by unfold jG;simp [hnm,h12])]);have hnl:nm.toList.isEmpty=false:=by
   rw [Lib.toList_data];cases hh:nm.data.toList with
   | nil=>exact absurd (by rw [fX,hh];rfl) hnm
   | cons _ _=>rfl
  clear hd2 h hs hE hx;go_enter Tryz.func33,Tryz.ntmps33
  go_wp2;go_ret2;exact cF.err h'.out (bX w _ _) hv.out
 have hne:nm=ByteArray.mk #[]:=by
  obtain ⟨l⟩:=nm;have:l = #[]:=Array.eq_empty_of_size_eq_zero hnm;rw [this]
 subst hne;clear hnm;cases hzr:oT val
 case false=>
  have hv:=@hid (cD T op (ByteArray.mk #[]) val args=((0,1),T)) (by rw [hd2.out,if_pos (by unfold jG;rw [hzr];simp [h11,show(ByteArray.mk #[]).size=0 from rfl])]);rw [hzr] at hz;clear hzr hd2 h hs hE hx;go_enter Tryz.func33,Tryz.ntmps33
  go_wp2_with fail
  refine hz.out.mono ?_;rintro e1 w1 ⟨rfl,hb1⟩;have B1:=hid ((bX w (.cells #[.pointer (some ⟨p,0,none⟩)] 26) (.cells #[.bool val.neg,.slice a val.num.length c,.slice b val.den.length d] 36)).trans (hb1.mono (bX w (.cells #[.pointer (some ⟨p,0,none⟩)] 26) (.cells #[.bool val.neg,.slice a val.num.length c,.slice b val.den.length d] 36)).size));clear hb1;go_wp2;go_ret2;exact cF.err h'.out B1.out hv.out
 case true=>
  have hd3:=@hid (cD T op (ByteArray.mk #[]) val args=if args.any (fun i=>!iD T i) then((0,1),T) else if (aX T op (ByteArray.mk #[]) args).2 then fT T ⟨op,(ByteArray.mk #[]),val,args,(aX T op (ByteArray.mk #[]) args).1⟩ else((0,3),T)) (by rw [hd2.out,if_neg (by unfold jG;rw [hzr];simp [h11,show(ByteArray.mk #[]).size=0 from rfl])]);have hden:=@hid (val.den.length<=1000000) (by unfold oT at hzr;simp at hzr;rw [hzr.2.2];simp);rw [hzr] at hz;clear hzr hd2 h hs hE hx;go_enter Tryz.func33,Tryz.ntmps33
  go_wp2_with fail
  refine hz.out.mono ?_;rintro e1 w1 ⟨rfl,hb1⟩;have B1':=hid (Below.trans (bX w (.cells #[.pointer (some ⟨p,0,none⟩)] 26) (.cells #[.bool val.neg,.slice a val.num.length c,.slice b val.den.length d] 36)) (hb1.mono (bX w (.cells #[.pointer (some ⟨p,0,none⟩)] 26) (.cells #[.bool val.neg,.slice a val.num.length c,.slice b val.den.length d] 36)).size));have X0:=hid ((hb1.block w.heap.size (by simp;omega)).trans (dG w (.cells #[.pointer (some ⟨p,0,none⟩)] 26) (.cells #[.bool val.neg,.slice a val.num.length c,.slice b val.den.length d] 36)));have X1:=hid ((hb1.block (w.heap.size+1) (by simp)).trans (cY w (.cells #[.pointer (some ⟨p,0,none⟩)] 26) (.cells #[.bool val.neg,.slice a val.num.length c,.slice b val.den.length d] 36)));clear hb1;have hcf:=hid (tL (fun i=>!iD T i) g args.length e w.heap.size args w1 (hx'.out.rargs.toI.below B1'.out aB) (by omega) (fun w2 hw2 y _=>rL B p T y w.heap.size w2 ((h'.out.all B1'.out).all hw2) (aC (aJ hw2 X0.out) 0)));cases hbad:args.any (fun i=>!iD T i)
  case true=>
   have hv:=@hid (cD T op (ByteArray.mk #[]) val args=((0,1),T)) (by rw [hd3.out,hbad];rfl);rw [hbad] at hcf;clear hbad
   go_wp2_with fail
   refine hcf.out.mono ?_;rintro e2 w2 ⟨rfl,hb2⟩;have B2:=hid (B1'.out.trans (hb2.mono B1'.out.size));clear hb2;go_wp2;go_ret2;exact cF.err h'.out B2.out hv.out
  case false=>
   rw [hbad] at hcf;have hin:=hid (xE hbad);have hd4:=@hid (cD T op (ByteArray.mk #[]) val args=if (aX T op (ByteArray.mk #[]) args).2 then fT T ⟨op,(ByteArray.mk #[]),val,args,(aX T op (ByteArray.mk #[]) args).1⟩ else((0,3),T)) (by rw [hd3.out,hbad];rfl);clear hbad hd3
   go_wp2_with fail
   refine hcf.out.mono ?_;rintro e2 w2 ⟨rfl,hb2⟩;have B2:=hid (B1'.out.trans (hb2.mono B1'.out.size));have Y0:=hid ((hb2.block w.heap.size (bQ X0.out).1).trans X0.out);have Y1:=hid ((hb2.block (w.heap.size+1) (bQ X1.out).1).trans X1.out);have y0:w2.cell? ⟨w.heap.size,0,none⟩=some (.pointer (some ⟨p,0,none⟩)):=aC Y0.out 0;have hso:=hid (pF B p T op (ByteArray.mk #[]) g args.length e args w2 ⟨h'.out.all B2.out,hx'.out.rargs.toI.below B2.out aB,by omega,hx'.out.ac.1,hin.out,hs'.out.s,hs'.out.nn⟩ (by omega) (by omega));clear hb2 X0 X1 hcf B1';have hokI:=hid (pS (nm:=(ByteArray.mk #[])) (args:=args) (op:=op) h'.out.srts.1 h'.out.srts.2);have hdv:=@hid ((aX T op (ByteArray.mk #[]) args).2=true->op=16->1<=args.length) (fun e1 e2=>nD e1 e2);generalize hS:aX T op (ByteArray.mk #[]) args=R at *;obtain ⟨so,ok⟩:=R;have hS':=hid hS;clear hS;dsimp only at *;cases ok
   case false=>
    have hv:=@hid (cD T op (ByteArray.mk #[]) val args=((0,3),T)) (by rw [hd4.out];rfl)
    go_wp2_with fail
    refine hso.out.mono ?_;rintro e3 w3 ⟨rfl,hb3⟩;rw [hS'.out];have B3:=hid (aI B2 hb3);clear hb3;go_wp2;go_ret2;exact cF.err h'.out B3.out hv.out
   case true=>
    have hv:=@hid (cD T op (ByteArray.mk #[]) val args=fT T ⟨op,(ByteArray.mk #[]),val,args,so⟩) (by rw [hd4.out];rfl)
    go_wp2_with fail
    refine hso.out.mono ?_;rintro e3 w3 ⟨rfl,hb3⟩;rw [hS'.out];have B3:=hid (aI B2 hb3);have Z0:=(hb3.block w.heap.size (bQ Y0.out).1).trans Y0.out;have Z1:=(hb3.block (w.heap.size+1) (bQ Y1.out).1).trans Y1.out;have z0:w3.cell? ⟨w.heap.size,0,none⟩=some (.pointer (some ⟨p,0,none⟩)):=aC Z0 0;have z1:w3.cell? ⟨w.heap.size+1,0,none⟩=some (.bool val.neg):=aC Z1 0;have z2:w3.cell? ⟨w.heap.size+1,1,none⟩=some (.slice a val.num.length c):=aC Z1 1;have z3:w3.cell? ⟨w.heap.size+1,2,none⟩=some (.slice b val.den.length d):=aC Z1 2;have hpt:=hid (xV B p T ⟨op,(ByteArray.mk #[]),val,args,so⟩ a b g c d e w3 (h'.out.all B3.out) ((hx'.out.all B3.out).node hokI.out) (hx'.out.all B3.out).rargs (hx'.out.key hl64 hden.out) hs'.out hin.out (fun e=>hdv.out (by first | trivial | rfl) e) (hE'.out.all B3.out));clear hb3 Z0 Z1
    go_wp2_with fail
    refine hpt.out.mono ?_;rintro e4 w4 ⟨rfl,hT4,hS4⟩;have P4:=@hid (qG B p T ⟨op,(ByteArray.mk #[]),val,args,so⟩ w3 (.returned (.tuple #[.int .i64 (fT T ⟨op,(ByteArray.mk #[]),val,args,so⟩).1.1,.int .i64 (fT T ⟨op,(ByteArray.mk #[]),val,args,so⟩).1.2])) w4) ⟨rfl,hT4,hS4⟩;clear hT4 hS4;go_wp2;go_ret2;exact cF.put h'.out B3.out hv.out P4.out
theorem aI7 (B p:Nat) (T:aR) (op:Int) (nm:ByteArray) (val:cE) (args:List Int) (a b g:Option Addr) (c d e:Nat) (w:World) (h:cU B p T w) (hs:SmT T) (hE:jQ w) (hx:kF w nm val args op a b g c d e) (h11:op=11) (hl64:args.length<=64) :
  Calls Tryz.prog 33 #[.pointer (some ⟨p,0,none⟩),.int .i64 op,.string nm,dK val a c b d,.slice g args.length e] w fun e w'=>cF B p T op nm val args w e w':=by
 have h':=hid h;have hs':=hid hs;have hE':=hid hE;have hx':=hid hx;subst h11;have hden:=@hid (val.den.length<=1000000) (hx.one rfl);have hz:=hid (dW val a b c d ((w.alloc (.cells #[.pointer (some ⟨p,0,none⟩)] 26)).alloc (.cells #[.bool val.neg,.slice a val.num.length c,.slice b val.den.length d] 36)) (hx.rnum.below (bX w (.cells #[.pointer (some ⟨p,0,none⟩)] 26) (.cells #[.bool val.neg,.slice a val.num.length c,.slice b val.den.length d] 36)) aB) (hx.rden.below (bX w (.cells #[.pointer (some ⟨p,0,none⟩)] 26) (.cells #[.bool val.neg,.slice a val.num.length c,.slice b val.den.length d] 36)) aB) hx.nl (hx.one rfl) hx.nc hx.dc);have hli:¬(64:Int)<args.length:=by omega
 have hld:decide ((64:Int)<args.length)=false:=by simpa using hli
 have hd2:=@hid (cD T 11 nm val args=if jG 11 nm val then((0,1),T) else if args.any (fun i=>!iD T i) then((0,1),T) else if (aX T 11 nm args).2 then fT T ⟨11,nm,val,args,(aX T 11 nm args).1⟩ else((0,3),T)) (by unfold cD;rw [if_neg (by unfold jN;simp;omega)]);by_cases hnm:nm.size=0
 case neg=>
  have hv:=@hid (cD T 11 nm val args=((0,1),T)) (by rw [hd2.out,if_pos (by unfold jG;simp [hnm])]);have hnl:nm.toList.isEmpty=false:=by
   rw [Lib.toList_data];cases hh:nm.data.toList with
   | nil=>exact absurd (by rw [fX,hh];rfl) hnm
   | cons _ _=>rfl
  clear hd2 h hs hE hx;go_enter Tryz.func33,Tryz.ntmps33
  go_wp2;go_ret2;exact cF.err h'.out (bX w _ _) hv.out
 have hne:nm=ByteArray.mk #[]:=by
  obtain ⟨l⟩:=nm;have:l = #[]:=Array.eq_empty_of_size_eq_zero hnm;rw [this]
 subst hne;clear hnm;cases hzr:iA val
 case false=>
  have hv:=@hid (cD T 11 (ByteArray.mk #[]) val args=((0,1),T)) (by rw [hd2.out,if_pos (by unfold jG;rw [hzr];simp [show(ByteArray.mk #[]).size=0 from rfl])]);rw [hzr] at hz;clear hzr hd2 h hs hE hx;go_enter Tryz.func33,Tryz.ntmps33
  go_wp2_with fail
  refine hz.out.mono ?_;rintro e1 w1 ⟨rfl,hb1⟩;have B1:=hid ((bX w (.cells #[.pointer (some ⟨p,0,none⟩)] 26) (.cells #[.bool val.neg,.slice a val.num.length c,.slice b val.den.length d] 36)).trans (hb1.mono (bX w (.cells #[.pointer (some ⟨p,0,none⟩)] 26) (.cells #[.bool val.neg,.slice a val.num.length c,.slice b val.den.length d] 36)).size));clear hb1;go_wp2;go_ret2;exact cF.err h'.out B1.out hv.out
 case true=>
  have hd3:=@hid (cD T 11 (ByteArray.mk #[]) val args=if args.any (fun i=>!iD T i) then((0,1),T) else if (aX T 11 (ByteArray.mk #[]) args).2 then fT T ⟨11,(ByteArray.mk #[]),val,args,(aX T 11 (ByteArray.mk #[]) args).1⟩ else((0,3),T)) (by rw [hd2.out,if_neg (by unfold jG;rw [hzr];simp [show(ByteArray.mk #[]).size=0 from rfl])]);rw [hzr] at hz;clear hzr hd2 h hs hE hx;go_enter Tryz.func33,Tryz.ntmps33
  go_wp2_with fail
  refine hz.out.mono ?_;rintro e1 w1 ⟨rfl,hb1⟩;have B1':=hid (Below.trans (bX w (.cells #[.pointer (some ⟨p,0,none⟩)] 26) (.cells #[.bool val.neg,.slice a val.num.length c,.slice b val.den.length d] 36)) (hb1.mono (bX w (.cells #[.pointer (some ⟨p,0,none⟩)] 26) (.cells #[.bool val.neg,.slice a val.num.length c,.slice b val.den.length d] 36)).size));have X0:=hid ((hb1.block w.heap.size (by simp;omega)).trans (dG w (.cells #[.pointer (some ⟨p,0,none⟩)] 26) (.cells #[.bool val.neg,.slice a val.num.length c,.slice b val.den.length d] 36)));have X1:=hid ((hb1.block (w.heap.size+1) (by simp)).trans (cY w (.cells #[.pointer (some ⟨p,0,none⟩)] 26) (.cells #[.bool val.neg,.slice a val.num.length c,.slice b val.den.length d] 36)));clear hb1;have hcf:=hid (tL (fun i=>!iD T i) g args.length e w.heap.size args w1 (hx'.out.rargs.toI.below B1'.out aB) (by omega) (fun w2 hw2 y _=>rL B p T y w.heap.size w2 ((h'.out.all B1'.out).all hw2) (aC (aJ hw2 X0.out) 0)));cases hbad:args.any (fun i=>!iD T i)
  case true=>
   have hv:=@hid (cD T 11 (ByteArray.mk #[]) val args=((0,1),T)) (by rw [hd3.out,hbad];rfl);rw [hbad] at hcf;clear hbad
   go_wp2_with fail
   refine hcf.out.mono ?_;rintro e2 w2 ⟨rfl,hb2⟩;have B2:=hid (B1'.out.trans (hb2.mono B1'.out.size));clear hb2;go_wp2;go_ret2;exact cF.err h'.out B2.out hv.out
  case false=>
   rw [hbad] at hcf;have hin:=hid (xE hbad);have hd4:=@hid (cD T 11 (ByteArray.mk #[]) val args=if (aX T 11 (ByteArray.mk #[]) args).2 then fT T ⟨11,(ByteArray.mk #[]),val,args,(aX T 11 (ByteArray.mk #[]) args).1⟩ else((0,3),T)) (by rw [hd3.out,hbad];rfl);clear hbad hd3
   go_wp2_with fail
   refine hcf.out.mono ?_;rintro e2 w2 ⟨rfl,hb2⟩;have B2:=hid (B1'.out.trans (hb2.mono B1'.out.size));have Y0:=hid ((hb2.block w.heap.size (bQ X0.out).1).trans X0.out);have Y1:=hid ((hb2.block (w.heap.size+1) (bQ X1.out).1).trans X1.out);have y0:w2.cell? ⟨w.heap.size,0,none⟩=some (.pointer (some ⟨p,0,none⟩)):=aC Y0.out 0;have hso:=hid (pF B p T 11 (ByteArray.mk #[]) g args.length e args w2 ⟨h'.out.all B2.out,hx'.out.rargs.toI.below B2.out aB,by omega,hx'.out.ac.1,hin.out,hs'.out.s,hs'.out.nn⟩ (by omega) (by omega));clear hb2 X0 X1 hcf B1';have hokI:=hid (pS (nm:=(ByteArray.mk #[])) (args:=args) (op:=11) h'.out.srts.1 h'.out.srts.2);have hdv:=@hid ((aX T 11 (ByteArray.mk #[]) args).2=true->11=16->1<=args.length) (fun e1 e2=>nD e1 e2);generalize hS:aX T 11 (ByteArray.mk #[]) args=R at *;obtain ⟨so,ok⟩:=R;have hS':=hid hS;clear hS;dsimp only at *;cases ok
   case false=>
    have hv:=@hid (cD T 11 (ByteArray.mk #[]) val args=((0,3),T)) (by rw [hd4.out];rfl)
    go_wp2_with fail
    refine hso.out.mono ?_;rintro e3 w3 ⟨rfl,hb3⟩;rw [hS'.out];have B3:=hid (aI B2 hb3);clear hb3;go_wp2;go_ret2;exact cF.err h'.out B3.out hv.out
   case true=>
    have hv:=@hid (cD T 11 (ByteArray.mk #[]) val args=fT T ⟨11,(ByteArray.mk #[]),val,args,so⟩) (by rw [hd4.out];rfl)
    go_wp2_with fail
    refine hso.out.mono ?_;rintro e3 w3 ⟨rfl,hb3⟩;rw [hS'.out];have B3:=hid (aI B2 hb3);have Z0:=(hb3.block w.heap.size (bQ Y0.out).1).trans Y0.out;have Z1:=(hb3.block (w.heap.size+1) (bQ Y1.out).1).trans Y1.out;have z0:w3.cell? ⟨w.heap.size,0,none⟩=some (.pointer (some ⟨p,0,none⟩)):=aC Z0 0;have z1:w3.cell? ⟨w.heap.size+1,0,none⟩=some (.bool val.neg):=aC Z1 0;have z2:w3.cell? ⟨w.heap.size+1,1,none⟩=some (.slice a val.num.length c):=aC Z1 1;have z3:w3.cell? ⟨w.heap.size+1,2,none⟩=some (.slice b val.den.length d):=aC Z1 2;have hpt:=hid (xV B p T ⟨11,(ByteArray.mk #[]),val,args,so⟩ a b g c d e w3 (h'.out.all B3.out) ((hx'.out.all B3.out).node hokI.out) (hx'.out.all B3.out).rargs (hx'.out.key hl64 hden.out) hs'.out hin.out (fun e=>hdv.out (by first | trivial | rfl) e) (hE'.out.all B3.out));clear hb3 Z0 Z1
    go_wp2_with fail
    refine hpt.out.mono ?_;rintro e4 w4 ⟨rfl,hT4,hS4⟩;have P4:=@hid (qG B p T ⟨11,(ByteArray.mk #[]),val,args,so⟩ w3 (.returned (.tuple #[.int .i64 (fT T ⟨11,(ByteArray.mk #[]),val,args,so⟩).1.1,.int .i64 (fT T ⟨11,(ByteArray.mk #[]),val,args,so⟩).1.2])) w4) ⟨rfl,hT4,hS4⟩;clear hT4 hS4;go_wp2;go_ret2;exact cF.put h'.out B3.out hv.out P4.out
theorem nE (B p:Nat) (T:aR) (op:Int) (nm:ByteArray) (val:cE) (args:List Int) (a b g:Option Addr) (c d e:Nat) (w:World) (h:cU B p T w) (hs:SmT T) (hE:jQ w) (hx:kF w nm val args op a b g c d e) :
  Calls Tryz.prog 33 #[.pointer (some ⟨p,0,none⟩),.int .i64 op,.string nm,dK val a c b d,.slice g args.length e] w fun e w'=>cF B p T op nm val args w e w':=by
 by_cases h1:op<1
 ·exact aI5 B p T op nm val args a b g c d e w h hs hE hx h1
 by_cases h2:20<op
 ·exact aF9 B p T op nm val args a b g c d e w h hs hE hx (by omega) h2
 by_cases h3:64<args.length
 ·exact aGa B p T op nm val args a b g c d e w h hs hE hx (by omega) (by omega) h3
 by_cases h11:op=11
 ·exact aI7 B p T op nm val args a b g c d e w h hs hE hx h11 (by omega)
 by_cases h12:op=12
 ·exact aI6 B p T op nm val args a b g c d e w h hs hE hx h12 (by omega)
 exact aEb B p T op nm val args a b g c d e w h hs hE hx (by omega) (by omega) h11 h12 (by omega)
end Go.Proofs.YtgoojkiccdjplaaGreatDoor
