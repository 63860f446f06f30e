/-
  Parts of this claim's texts, one behind the other: EI FB FC. No condition.
-/
import Derived.Test.YtgoojkiccdjplaaGreatDoorN17
import Derived.Test.YtgoojkiccdjplaaGreatDoorN18
import Derived.Test.YtgoojkiccdjplaaGreatDoorN16
set_option linter.unusedVariables false
set_option linter.unusedSimpArgs false
set_option maxRecDepth 100000
set_option maxHeartbeats 16000000
namespace Go.Proofs.YtgoojkiccdjplaaGreatDoor
open Go.RowKit Go.Sort Go.Lib
section
variable {S S' : Nat → Prop}
theorem rneg_any (r:RatD) (a b:Option Addr) (c d:Nat) (w:World) (h:RatS S w r a c b d) (hrn:r.num.length≤1000000) (hrd:r.den.length≤1000000) :
  Calls Tryz.prog 181 #[ratV r a c b d] w fun e w'=>RatPost (negR r) w e w':=by
 have H:=hid h
 obtain ⟨ng,nu,de⟩:=r
 dsimp only at *
 clear h
 have X0:=hid (heap2b w (.cells #[.bool ng,.slice a nu.length c,.slice b de.length d] 36) (.cells #[.bool false,.slice none 0 0,.slice none 0 0] 36))
 have x1:=heap2a w (.cells #[.bool ng,.slice a nu.length c,.slice b de.length d] 36) (.cells #[.bool false,.slice none 0 0,.slice none 0 0] 36)
 have hB0:=hid (below2 w (.cells #[.bool ng,.slice a nu.length c,.slice b de.length d] 36) (.cells #[.bool false,.slice none 0 0,.slice none 0 0] 36))
 generalize hw0:(w.alloc (.cells #[.bool ng,.slice a nu.length c,.slice b de.length d] 36)).alloc (.cells #[.bool false,.slice none 0 0,.slice none 0 0] 36)=w0 at *
 have q0:w0.cell? ⟨w.heap.size,0,none⟩=some (.bool ng):=cell_p x1 0
 have q1:w0.cell? ⟨w.heap.size,1,none⟩=some (.slice a nu.length c):=cell_p x1 1
 have q2:w0.cell? ⟨w.heap.size,2,none⟩=some (.slice b de.length d):=cell_p x1 2
 have hv1:=hid (ratValid_any ⟨ng,nu,de⟩ a b c d w0 (H.out.num.below hB0.out (Nat.le_refl _)) (H.out.den.below hB0.out (Nat.le_refl _)) hrn hrd H.out.nc H.out.dc)
 clear x1
 cases hvr:okRat ⟨ng,nu,de⟩
 case false=>
  have hdf:=hid (show negR ⟨ng,nu,de⟩=rat0 from by unfold negR validR;rw [hvr];rfl)
  rw [hvr] at hv1
  clear hvr
  go_enter Tryz.func181,Tryz.ntmps181
  go_wp2_with fail
  refine hv1.out.mono ?_;rintro e w1 ⟨rfl,hb1⟩
  have x5:=(hb1.block _ (Array.getElem?_eq_some_iff.1 X0.out).1).trans X0.out
  have XB:=hid x5
  have HB:=hid (hB0.out.trans (hb1.mono hB0.out.size))
  have z0:=cell_p x5 0
  have z1:=cell_p x5 1
  have z2:=cell_p x5 2
  have f0:=frz_p x5 0
  have f1:=frz_p x5 1
  have f2:=frz_p x5 2
  simp only [List.getElem?_toArray,List.getElem?_cons_succ,List.getElem?_cons_zero] at z0 z1 z2
  clear hw0 hb1 hv1 x5
  go_wp2
  refine bodyPost_ret (v:=ratV ⟨false,[],[]⟩ none 0 none 0) (by simp [results,Tryz.results181,go_sem, *]) rfl ?_
  rw [hdf.out]
  exact RatPost.set (r:=rat0) (by decide) (by decide) XB.out (by omega) (.nil _ _ _ _) (.nil _ _ _ _) ⟨Nat.zero_le _,Nat.zero_le _⟩ ⟨Nat.zero_le _,Nat.zero_le _⟩ HB.out [(0,.bool false),(1,.slice none 0 0),(2,.slice none 0 0)]
 case true=>
  rw [hvr] at hv1
  have hdf0:=hid (show negR ⟨ng,nu,de⟩=⟨!ng && decide (0<nu.length),nu,de⟩ from by unfold negR validR;rw [hvr];rfl)
  clear hvr
  cases ng
  case true=>
   have hdf:=hid (show negR ⟨true,nu,de⟩=⟨false,nu,de⟩ from hdf0.out)
   clear hdf0
   go_enter Tryz.func181,Tryz.ntmps181
   go_wp2_with fail
   refine hv1.out.mono ?_;rintro e w1 ⟨rfl,hb1⟩
   have q0:=keep_cell hb1 q0
   have q1:=keep_cell hb1 q1
   have q2:=keep_cell hb1 q2
   have X1:=hid ((hb1.block _ (Array.getElem?_eq_some_iff.1 X0.out).1).trans X0.out)
   have HB:=hid (hB0.out.trans (hb1.mono hB0.out.size))
   clear hw0 hv1 X0 hb1 hB0
   obtain ⟨w0,rfl⟩:∃W,W=w1:=⟨_,rfl⟩
   have X0:=X1
   have hB0:=HB
   have hsz:=hid hB0.out.size
   have k1:=hid (fun W (hb:Below w0.heap.size w0 W)=>clone64_any a nu.length c nu W (H.out.num.below (hB0.out.trans (hb.mono hB0.out.size)) (Nat.le_refl _)) (by omega))
   have k2:=hid (fun W (hb:Below w0.heap.size w0 W)=>clone64_any b de.length d de W (H.out.den.below (hB0.out.trans (hb.mono hB0.out.size)) (Nat.le_refl _)) (by omega))
   go_wp2
   refine wp_region_tt (S:=fun W=>Below w0.heap.size w0 W) 16 (by kernel_rfl) (by kernel_rfl) (keep_drew w0) (fun _=>?_)
   refine tk (i:=0) (h:=?_)
   (try simp only [Act.put,sA,sB,sC])
   refine tk (i:=1) (hy:=(Or.inl ⟨by rfl,by(intro W hSw;have hq:=keep_cell hSw q0;go_simp <;> with_reducible rfl)⟩)) (h:=?_)
   (try simp only [Act.put,sA,sB,sC])
   refine tk (i:=2) (h:=?_)
   (try simp only [Act.put,sA,sB,sC])
   refine tk (i:=3) (h:=?_)
   (try simp only [Act.put,sA,sB,sC])
   refine tk (i:=4) (h:=?_)
   (try simp only [Act.put,sA,sB,sC])
   refine tk (i:=5) (hy:=(by first | exact Or.inl ⟨by rfl,by(intro W hSw;have hq:=keep_cell hSw q1;go_simp <;> with_reducible rfl)⟩ | exact Or.inr ⟨by rfl,rfl⟩)) (h:=?_)
   (try simp only [Act.put,sA,sB,sC])
   refine tk (i:=6) (h:=?_)
   (try simp only [Act.put,sA,sB,sC])
   refine tk (i:=7) (h:=?_)
   (try simp only [Act.put,sA,sB,sC])
   refine tk (i:=8) (h:=?_)
   (try simp only [Act.put,sA,sB,sC])
   refine tk (i:=9) (h:=?_)
   (try simp only [Act.put,sA,sB,sC])
   refine tk (i:=10) (hy:=(Or.inl ⟨by rfl,by(intro W hSw;have hq:=keep_cell hSw q1;go_simp <;> with_reducible rfl)⟩)) (h:=?_)
   (try simp only [Act.put,sA,sB,sC])
   refine tk (i:=12) (h:=?_)
   (try simp only [Act.put,sA,sB,sC])
   refine tk (i:=13) (hy:=(Or.inl ⟨by rfl,by(intro W hSw;have hq:=keep_cell hSw q2;go_simp <;> with_reducible rfl)⟩)) (h:=?_)
   (try simp only [Act.put,sA,sB,sC])
   refine tt_ready (rs:=[11]) (by decide +kernel) (allT_cons (by rfl) (fun K hK=>?_) allT_nil)
   go_simp
   go_at_call 120
   refine(k1.out _ (keep_drew w0)).mono ?_
   rintro ee w5 ⟨a5,c5,rfl,o5,b5⟩
   have B5:Below w0.heap.size w0 w5:=(keep_drew w0).trans (b5.mono (keep_drew w0).size)
   have D5:=hid (o5.datF (n:=w.heap.size) hsz.out)
   have L5:=hid o5.slice
   clear o5 b5
   dsimp only
   refine hK.out _ _ (by(exact B5)) (fun hHeld2=>?_)
   clear hK K
   (try simp only [Act.put,sA,sB,sC])
   refine tt_ready (rs:=[14]) (by decide +kernel) (allT_cons (by rfl) (fun K hK=>?_) allT_nil)
   go_simp
   go_at_call 120
   refine(k2.out _ B5).mono ?_
   rintro ee w6 ⟨a6,c6,rfl,o6,b6⟩
   have B6:Below w0.heap.size w0 w6:=B5.trans (b6.mono B5.size)
   have D6:=hid (o6.datF (n:=w.heap.size) (Nat.le_trans hsz.out B5.size))
   have L6:=hid o6.slice
   have E5:=hid (D5.out.move (Below.dat b6) b6.size)
   clear o6 b6
   dsimp only
   refine hK.out _ _ (by(exact B6)) (fun hHeld3=>?_)
   clear hK K
   (try simp only [Act.put,sA,sB,sC])
   refine tk (i:=15) (h:=?_)
   (try simp only [Act.put,sA,sB,sC])
   refine tt_tail (by decide +kernel) ?_
   simp only [List.drop_succ_cons,List.drop_zero]
   have x5:=(B6.block _ (Array.getElem?_eq_some_iff.1 X0.out).1).trans X0.out
   have X5:=hid x5
   have z0:=cell_p x5 0
   have z1:=cell_p x5 1
   have z2:=cell_p x5 2
   have f0:=frz_p x5 0
   have f1:=frz_p x5 1
   have f2:=frz_p x5 2
   simp only [List.getElem?_toArray,List.getElem?_cons_succ,List.getElem?_cons_zero] at z0 z1 z2
   clear x5
   go_wp2
   refine bodyPost_ret (v:=ratV ⟨false,nu,de⟩ a5 c5 a6 c6) (by simp [results,Tryz.results181,go_sem, *]) rfl ?_
   rw [hdf.out]
   exact RatPost.set (r:=⟨false,nu,de⟩) (by decide) (by decide) X5.out (by omega) E5.out D6.out (by obtain ⟨_,_,e,h⟩:=L5.out;cases e;exact h) (by obtain ⟨_,_,e,h⟩:=L6.out;cases e;exact h) (hB0.out.trans (B6.mono hB0.out.size)) [(0,.bool false),(1,.slice a5 nu.length c5),(2,.slice a6 de.length c6)]
  case false=>
   by_cases hp:0<nu.length
   case pos=>
    have hpi:(0:Int)<nu.length:=by omega
    have hdf:=hid (show negR ⟨false,nu,de⟩=⟨true,nu,de⟩ from by rw [hdf0.out,decide_eq_true hp];rfl)
    clear hdf0
    go_enter Tryz.func181,Tryz.ntmps181
    go_wp2_with fail
    refine hv1.out.mono ?_;rintro e w1 ⟨rfl,hb1⟩
    have q0:=keep_cell hb1 q0
    have q1:=keep_cell hb1 q1
    have q2:=keep_cell hb1 q2
    have X1:=hid ((hb1.block _ (Array.getElem?_eq_some_iff.1 X0.out).1).trans X0.out)
    have HB:=hid (hB0.out.trans (hb1.mono hB0.out.size))
    clear hw0 hv1 X0 hb1 hB0
    obtain ⟨w0,rfl⟩:∃W,W=w1:=⟨_,rfl⟩
    have X0:=X1
    have hB0:=HB
    have hsz:=hid hB0.out.size
    have k1:=hid (fun W (hb:Below w0.heap.size w0 W)=>clone64_any a nu.length c nu W (H.out.num.below (hB0.out.trans (hb.mono hB0.out.size)) (Nat.le_refl _)) (by omega))
    have k2:=hid (fun W (hb:Below w0.heap.size w0 W)=>clone64_any b de.length d de W (H.out.den.below (hB0.out.trans (hb.mono hB0.out.size)) (Nat.le_refl _)) (by omega))
    go_wp2
    refine wp_region_tt (S:=fun W=>Below w0.heap.size w0 W) 16 (by kernel_rfl) (by kernel_rfl) (keep_drew w0) (fun _=>?_)
    refine tk (i:=0) (h:=?_)
    (try simp only [Act.put,sA,sB,sC])
    refine tk (i:=1) (hy:=(Or.inl ⟨by rfl,by(intro W hSw;have hq:=keep_cell hSw q0;go_simp <;> with_reducible rfl)⟩)) (h:=?_)
    (try simp only [Act.put,sA,sB,sC])
    refine tk (i:=2) (h:=?_)
    (try simp only [Act.put,sA,sB,sC])
    refine tk (i:=3) (h:=?_)
    (try simp only [Act.put,sA,sB,sC])
    refine tk (i:=4) (h:=?_)
    (try simp only [Act.put,sA,sB,sC])
    refine tk (i:=5) (hy:=(by first | exact Or.inl ⟨by rfl,by(intro W hSw;have hq:=keep_cell hSw q1;go_simp <;> with_reducible rfl)⟩ | exact Or.inr ⟨by rfl,rfl⟩)) (h:=?_)
    (try simp only [Act.put,sA,sB,sC])
    refine tk (i:=6) (h:=?_)
    (try simp only [Act.put,sA,sB,sC])
    refine tk (i:=7) (h:=?_)
    (try simp only [Act.put,sA,sB,sC])
    refine tk (i:=8) (h:=?_)
    (try simp only [Act.put,sA,sB,sC])
    refine tk (i:=9) (h:=?_)
    (try simp only [Act.put,sA,sB,sC])
    refine tk (i:=10) (hy:=(Or.inl ⟨by rfl,by(intro W hSw;have hq:=keep_cell hSw q1;go_simp <;> with_reducible rfl)⟩)) (h:=?_)
    (try simp only [Act.put,sA,sB,sC])
    refine tk (i:=12) (h:=?_)
    (try simp only [Act.put,sA,sB,sC])
    refine tk (i:=13) (hy:=(Or.inl ⟨by rfl,by(intro W hSw;have hq:=keep_cell hSw q2;go_simp <;> with_reducible rfl)⟩)) (h:=?_)
    (try simp only [Act.put,sA,sB,sC])
    refine tt_ready (rs:=[11]) (by decide +kernel) (allT_cons (by rfl) (fun K hK=>?_) allT_nil)
    go_simp
    go_at_call 120
    refine(k1.out _ (keep_drew w0)).mono ?_
    rintro ee w5 ⟨a5,c5,rfl,o5,b5⟩
    have B5:Below w0.heap.size w0 w5:=(keep_drew w0).trans (b5.mono (keep_drew w0).size)
    have D5:=hid (o5.datF (n:=w.heap.size) hsz.out)
    have L5:=hid o5.slice
    clear o5 b5
    dsimp only
    refine hK.out _ _ (by(exact B5)) (fun hHeld2=>?_)
    clear hK K
    (try simp only [Act.put,sA,sB,sC])
    refine tt_ready (rs:=[14]) (by decide +kernel) (allT_cons (by rfl) (fun K hK=>?_) allT_nil)
    go_simp
    go_at_call 120
    refine(k2.out _ B5).mono ?_
    rintro ee w6 ⟨a6,c6,rfl,o6,b6⟩
    have B6:Below w0.heap.size w0 w6:=B5.trans (b6.mono B5.size)
    have D6:=hid (o6.datF (n:=w.heap.size) (Nat.le_trans hsz.out B5.size))
    have L6:=hid o6.slice
    have E5:=hid (D5.out.move (Below.dat b6) b6.size)
    clear o6 b6
    dsimp only
    refine hK.out _ _ (by(exact B6)) (fun hHeld3=>?_)
    clear hK K
    (try simp only [Act.put,sA,sB,sC])
    refine tk (i:=15) (h:=?_)
    (try simp only [Act.put,sA,sB,sC])
    refine tt_tail (by decide +kernel) ?_
    simp only [List.drop_succ_cons,List.drop_zero]
    have x5:=(B6.block _ (Array.getElem?_eq_some_iff.1 X0.out).1).trans X0.out
    have X5:=hid x5
    have z0:=cell_p x5 0
    have z1:=cell_p x5 1
    have z2:=cell_p x5 2
    have f0:=frz_p x5 0
    have f1:=frz_p x5 1
    have f2:=frz_p x5 2
    simp only [List.getElem?_toArray,List.getElem?_cons_succ,List.getElem?_cons_zero] at z0 z1 z2
    clear x5
    go_wp2
    refine bodyPost_ret (v:=ratV ⟨true,nu,de⟩ a5 c5 a6 c6) (by simp [results,Tryz.results181,go_sem, *]) rfl ?_
    rw [hdf.out]
    exact RatPost.set (r:=⟨true,nu,de⟩) (by decide) (by decide) X5.out (by omega) E5.out D6.out (by obtain ⟨_,_,e,h⟩:=L5.out;cases e;exact h) (by obtain ⟨_,_,e,h⟩:=L6.out;cases e;exact h) (hB0.out.trans (B6.mono hB0.out.size)) [(0,.bool true),(1,.slice a5 nu.length c5),(2,.slice a6 de.length c6)]
   case neg=>
    have hpi:¬(0:Int)<nu.length:=by omega
    have hpd:decide ((0:Int)<nu.length)=false:=decide_eq_false hpi
    have hdf:=hid (show negR ⟨false,nu,de⟩=⟨false,nu,de⟩ from by rw [hdf0.out,decide_eq_false hp];rfl)
    have hnil:=hid (List.eq_nil_of_length_eq_zero (show nu.length=0 by omega))
    have hpb:(0<nu.length)=False:=by simp only [hp]
    clear hdf0 hp
    go_enter Tryz.func181,Tryz.ntmps181
    go_wp2_with fail
    refine hv1.out.mono ?_;rintro e w1 ⟨rfl,hb1⟩
    have q0:=keep_cell hb1 q0
    have q1:=keep_cell hb1 q1
    have q2:=keep_cell hb1 q2
    have X1:=hid ((hb1.block _ (Array.getElem?_eq_some_iff.1 X0.out).1).trans X0.out)
    have HB:=hid (hB0.out.trans (hb1.mono hB0.out.size))
    clear hw0 hv1 X0 hb1 hB0
    obtain ⟨w0,rfl⟩:∃W,W=w1:=⟨_,rfl⟩
    have X0:=X1
    have hB0:=HB
    have hsz:=hid hB0.out.size
    have k1:=hid (fun W (hb:Below w0.heap.size w0 W)=>clone64_any a nu.length c nu W (H.out.num.below (hB0.out.trans (hb.mono hB0.out.size)) (Nat.le_refl _)) (by omega))
    have k2:=hid (fun W (hb:Below w0.heap.size w0 W)=>clone64_any b de.length d de W (H.out.den.below (hB0.out.trans (hb.mono hB0.out.size)) (Nat.le_refl _)) (by omega))
    go_wp2
    refine wp_region_tt (S:=fun W=>Below w0.heap.size w0 W) 16 (by kernel_rfl) (by kernel_rfl) (keep_drew w0) (fun _=>?_)
    refine tk (i:=0) (h:=?_)
    (try simp only [Act.put,sA,sB,sC])
    refine tk (i:=1) (hy:=(Or.inl ⟨by rfl,by(intro W hSw;have hq:=keep_cell hSw q0;go_simp <;> with_reducible rfl)⟩)) (h:=?_)
    (try simp only [Act.put,sA,sB,sC])
    refine tk (i:=2) (h:=?_)
    (try simp only [Act.put,sA,sB,sC])
    refine tk (i:=3) (h:=?_)
    (try simp only [Act.put,sA,sB,sC])
    refine tk (i:=4) (h:=?_)
    (try simp only [Act.put,sA,sB,sC])
    refine tk (i:=5) (hy:=(by first | exact Or.inl ⟨by rfl,by(intro W hSw;have hq:=keep_cell hSw q1;go_simp <;> with_reducible rfl)⟩ | exact Or.inr ⟨by rfl,rfl⟩)) (h:=?_)
    (try simp only [Act.put,sA,sB,sC])
    refine tk (i:=6) (h:=?_)
    (try simp only [Act.put,sA,sB,sC])
    refine tk (i:=7) (h:=?_)
    (try simp only [Act.put,sA,sB,sC])
    refine tk (i:=8) (h:=?_)
    (try simp only [Act.put,sA,sB,sC])
    refine tk (i:=9) (h:=?_)
    (try simp only [Act.put,sA,sB,sC])
    refine tk (i:=10) (hy:=(Or.inl ⟨by rfl,by(intro W hSw;have hq:=keep_cell hSw q1;go_simp <;> with_reducible rfl)⟩)) (h:=?_)
    (try simp only [Act.put,sA,sB,sC])
    refine tk (i:=12) (h:=?_)
    (try simp only [Act.put,sA,sB,sC])
    refine tk (i:=13) (hy:=(Or.inl ⟨by rfl,by(intro W hSw;have hq:=keep_cell hSw q2;go_simp <;> with_reducible rfl)⟩)) (h:=?_)
    (try simp only [Act.put,sA,sB,sC])
    refine tt_ready (rs:=[11]) (by decide +kernel) (allT_cons (by rfl) (fun K hK=>?_) allT_nil)
    go_simp
    go_at_call 120
    refine(k1.out _ (keep_drew w0)).mono ?_
    rintro ee w5 ⟨a5,c5,rfl,o5,b5⟩
    have B5:Below w0.heap.size w0 w5:=(keep_drew w0).trans (b5.mono (keep_drew w0).size)
    have D5:=hid (o5.datF (n:=w.heap.size) hsz.out)
    have L5:=hid o5.slice
    clear o5 b5
    dsimp only
    refine hK.out _ _ (by(exact B5)) (fun hHeld2=>?_)
    clear hK K
    (try simp only [Act.put,sA,sB,sC])
    refine tt_ready (rs:=[14]) (by decide +kernel) (allT_cons (by rfl) (fun K hK=>?_) allT_nil)
    go_simp
    go_at_call 120
    refine(k2.out _ B5).mono ?_
    rintro ee w6 ⟨a6,c6,rfl,o6,b6⟩
    have B6:Below w0.heap.size w0 w6:=B5.trans (b6.mono B5.size)
    have D6:=hid (o6.datF (n:=w.heap.size) (Nat.le_trans hsz.out B5.size))
    have L6:=hid o6.slice
    have E5:=hid (D5.out.move (Below.dat b6) b6.size)
    clear o6 b6
    dsimp only
    refine hK.out _ _ (by(exact B6)) (fun hHeld3=>?_)
    clear hK K
    (try simp only [Act.put,sA,sB,sC])
    refine tk (i:=15) (h:=?_)
    (try simp only [Act.put,sA,sB,sC])
    refine tt_tail (by decide +kernel) ?_
    simp only [List.drop_succ_cons,List.drop_zero]
    have x5:=(B6.block _ (Array.getElem?_eq_some_iff.1 X0.out).1).trans X0.out
    have X5:=hid x5
    have z0:=cell_p x5 0
    have z1:=cell_p x5 1
    have z2:=cell_p x5 2
    have f0:=frz_p x5 0
    have f1:=frz_p x5 1
    have f2:=frz_p x5 2
    simp only [List.getElem?_toArray,List.getElem?_cons_succ,List.getElem?_cons_zero] at z0 z1 z2
    clear x5
    go_wp2
    refine bodyPost_ret (v:=ratV ⟨false,nu,de⟩ a5 c5 a6 c6) (by simp [results,Tryz.results181,go_sem,hnil.out, *]) rfl ?_
    rw [hdf.out]
    exact RatPost.set (r:=⟨false,nu,de⟩) (by decide) (by decide) X5.out (by omega) E5.out D6.out (by obtain ⟨_,_,e,h⟩:=L5.out;cases e;exact h) (by obtain ⟨_,_,e,h⟩:=L6.out;cases e;exact h) (hB0.out.trans (B6.mono hB0.out.size)) [(0,.bool false),(1,.slice a5 nu.length c5),(2,.slice a6 de.length c6)]
theorem rsub_any2 (r s:RatD) (a b a' b':Option Addr) (c d c' d':Nat) (w:World) (h:RatS S w r a c b d) (k:RatS S' w s a' c' b' d') (hrn:r.num.length≤1000000) (hrd:r.den.length≤1000000) (hsn:s.num.length≤1000000) (hsd:s.den.length≤1000000) :
  Calls Tryz.prog 183 #[ratV r a c b d,ratV s a' c' b' d'] w fun e w'=>RatE (subR r s) w e w':=by
 have H:=hid h
 have K:=hid k
 obtain ⟨ng,nu,de⟩:=r
 obtain ⟨mg,mu,me⟩:=s
 dsimp only at *
 clear h k
 have X0:=hid (heap3c w (.cells #[.bool ng,.slice a nu.length c,.slice b de.length d] 36) (.cells #[.bool mg,.slice a' mu.length c',.slice b' me.length d'] 36) (.cells #[.bool false,.slice none 0 0,.slice none 0 0] 36))
 have x1:=heap3a w (.cells #[.bool ng,.slice a nu.length c,.slice b de.length d] 36) (.cells #[.bool mg,.slice a' mu.length c',.slice b' me.length d'] 36) (.cells #[.bool false,.slice none 0 0,.slice none 0 0] 36)
 have x2:=heap3b w (.cells #[.bool ng,.slice a nu.length c,.slice b de.length d] 36) (.cells #[.bool mg,.slice a' mu.length c',.slice b' me.length d'] 36) (.cells #[.bool false,.slice none 0 0,.slice none 0 0] 36)
 have hB0:=hid (below3 w (.cells #[.bool ng,.slice a nu.length c,.slice b de.length d] 36) (.cells #[.bool mg,.slice a' mu.length c',.slice b' me.length d'] 36) (.cells #[.bool false,.slice none 0 0,.slice none 0 0] 36))
 generalize hw0:((w.alloc (.cells #[.bool ng,.slice a nu.length c,.slice b de.length d] 36)).alloc (.cells #[.bool mg,.slice a' mu.length c',.slice b' me.length d'] 36)).alloc (.cells #[.bool false,.slice none 0 0,.slice none 0 0] 36)=w0 at *
 have hcell:=hid (show ∀W,Below w0.heap.size w0 W→W.cell? ⟨w.heap.size,0,none⟩=some (.bool ng)∧W.cell? ⟨w.heap.size,1,none⟩=some (.slice a nu.length c)∧W.cell? ⟨w.heap.size,2,none⟩=some (.slice b de.length d)∧W.cell? ⟨w.heap.size+1,0,none⟩=some (.bool mg)∧W.cell? ⟨w.heap.size+1,1,none⟩=some (.slice a' mu.length c')∧W.cell? ⟨w.heap.size+1,2,none⟩=some (.slice b' me.length d') from fun W hW=>
  ⟨keep_cell hW (cell_p x1 0),keep_cell hW (cell_p x1 1),keep_cell hW (cell_p x1 2),keep_cell hW (cell_p x2 0),keep_cell hW (cell_p x2 1),keep_cell hW (cell_p x2 2)⟩)
 have hbox:=hid (show ∀W,Below w0.heap.size w0 W→W.heap[w.heap.size+1+1]? = some (.cells #[.bool false,.slice none 0 0,.slice none 0 0] 36 (0,0))∧Below w.heap.size w W from fun W hW=>⟨(hW.block _ (Array.getElem?_eq_some_iff.1 X0.out).1).trans X0.out,hB0.out.trans (hW.mono hB0.out.size)⟩)
 have hv1:=hid (ratValid_any ⟨mg,mu,me⟩ a' b' c' d' w0 (K.out.num.below hB0.out (Nat.le_refl _)) (K.out.den.below hB0.out (Nat.le_refl _)) hsn hsd K.out.nc K.out.dc)
 obtain ⟨q0,q1,q2,r0,r1,r2⟩:=hcell.out w0 (Below.refl _ _)
 clear x1 x2
 cases hvr:okRat ⟨mg,mu,me⟩
 case false=>
  have hdf:=hid (show subR ⟨ng,nu,de⟩ ⟨mg,mu,me⟩=(rat0,1) from by unfold subR validR;rw [hvr];rfl)
  rw [hvr] at hv1
  clear hvr
  go_enter Tryz.func183,Tryz.ntmps183
  go_wp2_with fail
  refine hv1.out.mono ?_;rintro e w1 ⟨rfl,hb1⟩
  obtain ⟨xb,hb⟩:=hbox.out w1 hb1
  have XB:=hid xb
  have HB:=hid hb
  clear hw0 xb hb hb1 hv1
  have x5:=XB.out
  have z0:=cell_p x5 0
  have z1:=cell_p x5 1
  have z2:=cell_p x5 2
  have f0:=frz_p x5 0
  have f1:=frz_p x5 1
  have f2:=frz_p x5 2
  simp only [List.getElem?_toArray,List.getElem?_cons_succ,List.getElem?_cons_zero] at z0 z1 z2
  clear x5
  go_wp2
  refine bodyPost_ret (v:=.tuple #[ratV ⟨false,[],[]⟩ none 0 none 0,.int .i64 1]) (by simp [results,Tryz.results183,go_sem, *]) rfl ?_
  rw [hdf.out]
  exact⟨_,rfl,RatPost.set (r:=rat0) (by decide) (by decide) XB.out (by omega) (.nil _ _ _ _) (.nil _ _ _ _) ⟨Nat.zero_le _,Nat.zero_le _⟩ ⟨Nat.zero_le _,Nat.zero_le _⟩ HB.out [(0,.bool false),(1,.slice none 0 0),(2,.slice none 0 0)]⟩
 case true=>
  rw [hvr] at hv1
  have hdm0:=hid (show subR ⟨ng,nu,de⟩ ⟨mg,mu,me⟩=addR ⟨ng,nu,de⟩ (negR ⟨mg,mu,me⟩) from by unfold subR validR;rw [hvr];rfl)
  have hnl:=hid (show(negR ⟨mg,mu,me⟩).num.length≤1000000∧(negR ⟨mg,mu,me⟩).den.length≤1000000 from by unfold negR;constructor <;> split <;> first | exact hsn | exact hsd | exact Nat.zero_le _)
  clear hvr
  go_enter Tryz.func183,Tryz.ntmps183
  go_wp2_with fail
  refine hv1.out.mono ?_;rintro e w1 ⟨rfl,hb1⟩
  have hb1':=hid hb1
  clear q0 q1 q2 r0 r1 r2 X0 hB0
  obtain ⟨q0,q1,q2,r0,r1,r2⟩:=hcell.out w1 hb1
  obtain ⟨xb,hb⟩:=hbox.out w1 hb1
  have X0:=hid xb
  have hB0:=hid hb
  clear hw0 hv1 hb1 hb1' hcell hbox xb hb
  clear w0
  obtain ⟨w0,rfl⟩:∃W,W=w1:=⟨_,rfl⟩
  have hsz:=hid hB0.out.size
  have hng:=hid (fun W (hb:Below w0.heap.size w0 W)=>rneg_any ⟨mg,mu,me⟩ a' b' c' d' W ⟨K.out.num.below (hB0.out.trans (hb.mono hB0.out.size)) (Nat.le_refl _),K.out.nc,K.out.den.below (hB0.out.trans (hb.mono hB0.out.size)) (Nat.le_refl _),K.out.dc⟩ hsn hsd)
  generalize negR ⟨mg,mu,me⟩=nn at *
  obtain ⟨ing,inu,ide⟩:=nn
  have hcB:=hid (show ∀W,Below w0.heap.size w0 W→(W.cell? ⟨w.heap.size,0,none⟩=some (.bool ng)∧W.cell? ⟨w.heap.size,1,none⟩=some (.slice a nu.length c)∧W.cell? ⟨w.heap.size,2,none⟩=some (.slice b de.length d))∧(W.cell? ⟨w.heap.size+1,0,none⟩=some (.bool mg)∧W.cell? ⟨w.heap.size+1,1,none⟩=some (.slice a' mu.length c')∧W.cell? ⟨w.heap.size+1,2,none⟩=some (.slice b' me.length d')) from fun W hW=>⟨⟨keep_cell hW q0,keep_cell hW q1,keep_cell hW q2⟩,keep_cell hW r0,keep_cell hW r1,keep_cell hW r2⟩)
  go_wp2
  clear q0 q1 q2 r0 r1 r2
  refine wp_region_tt (S:=fun W=>Below w0.heap.size w0 W) 6 (by kernel_rfl) (by kernel_rfl) (keep_drew w0) (fun _=>?_)
  refine tk (i:=0) (hy:=(Or.inl ⟨by rfl,by(intro W hSw;have hq:=(hcB.out W hSw).1;have hq1:=hq.1;have hq2:=hq.2.1;have hq3:=hq.2.2;go_simp <;> with_reducible rfl)⟩)) (h:=?_)
  (try simp only [Act.put,sA,sB,sC])
  refine tk (i:=1) (hy:=(Or.inl ⟨by rfl,by(intro W hSw;have hq:=(hcB.out W hSw).2;have hq1:=hq.1;have hq2:=hq.2.1;have hq3:=hq.2.2;go_simp <;> with_reducible rfl)⟩)) (h:=?_)
  (try simp only [Act.put,sA,sB,sC])
  refine tt_ready (rs:=[2]) (by decide +kernel) (allT_cons (by rfl) (fun K hK=>?_) allT_nil)
  go_simp
  go_at_call 181
  refine(hng.out _ (keep_drew w0)).mono ?_
  rintro ee w14 ⟨a14,c14,e14,f14,rfl,s14,t14,l14,m14,b14⟩
  have B14:Below w0.heap.size w0 w14:=(keep_drew w0).trans (b14.mono (keep_drew w0).size)
  have hlo:=hid (radd_any ⟨ng,nu,de⟩ ⟨ing,inu,ide⟩ a b a14 e14 c d c14 f14 w14 ⟨H.out.num.below (hB0.out.trans (B14.mono hB0.out.size)) (Nat.le_refl _),H.out.nc,H.out.den.below (hB0.out.trans (B14.mono hB0.out.size)) (Nat.le_refl _),H.out.dc⟩ ⟨s14,l14,t14,m14⟩ hrn hrd hnl.out.1 hnl.out.2)
  have hdm:=hid hdm0.out
  clear s14 t14 b14 l14 m14 hng hdm0 hnl
  generalize addR ⟨ng,nu,de⟩ ⟨ing,inu,ide⟩=res at *
  obtain ⟨R,er⟩:=res
  dsimp only
  refine hK.out _ _ (by(exact B14)) (fun hHeld2=>?_)
  clear hK K
  (try simp only [Act.put,sA,sB,sC])
  refine tt_ready (rs:=[3]) (by decide +kernel) (allT_cons (by rfl) (fun K hK=>?_) allT_nil)
  go_simp
  go_at_call 182
  refine hlo.out.mono ?_
  rintro ee w15 ⟨v15,rfl,a15,c15,d15,e15,hv15,p1,p2,p3,p4,b15⟩
  cases hv15
  have zB:=B14.size
  have B15:Below w0.heap.size w0 w15:=B14.trans (b15.mono B14.size)
  have P1:=hid p1
  have P2:=hid p2
  have P3:=hid p3
  have P4:=hid p4
  clear p1 p2 p3 p4 b15 hlo
  dsimp only
  refine hK.out _ _ (by(exact B15)) (fun hHeld3=>?_)
  clear hK K
  (try simp only [Act.put,sA,sB,sC])
  refine tk (i:=4) (h:=?_)
  (try simp only [Act.put,sA,sB,sC])
  refine tk (i:=5) (h:=?_)
  (try simp only [Act.put,sA,sB,sC])
  refine tt_tail (by decide +kernel) ?_
  simp only [List.drop_succ_cons,List.drop_zero]
  have x5:=(B15.block _ (Array.getElem?_eq_some_iff.1 X0.out).1).trans X0.out
  have X5:=hid x5
  have z0:=cell_p x5 0
  have z1:=cell_p x5 1
  have z2:=cell_p x5 2
  have f0:=frz_p x5 0
  have f1:=frz_p x5 1
  have f2:=frz_p x5 2
  simp only [List.getElem?_toArray,List.getElem?_cons_succ,List.getElem?_cons_zero] at z0 z1 z2
  clear x5
  go_wp2
  refine bodyPost_ret (v:=.tuple #[ratV R a15 c15 d15 e15,.int .i64 er]) (by simp [results,Tryz.results183,go_sem, *]) rfl ?_
  rw [hdm.out]
  exact⟨_,rfl,RatPost.set (r:=R) (by decide) (by decide) X5.out (by omega) (P1.out.mono fun k _ h=>⟨h.1,Nat.le_trans (Nat.le_trans hsz.out zB) h.2⟩) (P2.out.mono fun k _ h=>⟨h.1,Nat.le_trans (Nat.le_trans hsz.out zB) h.2⟩) P3.out P4.out (hB0.out.trans (B15.mono hB0.out.size)) [(0,.bool R.neg),(1,.slice a15 R.num.length c15),(2,.slice d15 R.den.length e15)]⟩
theorem ratZero_any (w:World):Calls Tryz.prog 103 #[] w fun e w'=>RatPost ⟨false,[],[1]⟩ w e w':=by
 have hB0:Below w.heap.size w (w.alloc (.cells #[.bool false,.slice none 0 0,.slice none 0 0] 36)):=(Below.refl _ _).alloc (Nat.le_refl _) _
 have X0:=hid (heap_alloc_new w (.cells #[.bool false,.slice none 0 0,.slice none 0 0] 36))
 have hB0':=hid hB0
 generalize hw0:w.alloc (.cells #[.bool false,.slice none 0 0,.slice none 0 0] 36)=w0 at *
 clear hB0
 go_enter Tryz.func103,Tryz.ntmps103
 go_wp2_with fail
 refine(one_any _).mono ?_
 rintro ee w3 ⟨rfl,hw3⟩
 have B3:=hid (show Below w0.heap.size w0 w3 from by rw [hw3];exact(Below.refl _ _).alloc (Nat.le_refl _) _)
 have S3:=hid (show SlR Rep.u64 (DatF w.heap.size w3) w3 (some ⟨w0.heap.size,0,none⟩) 1 [1] from by rw [hw3];exact(lit_u64 w0 1 ⟨by decide,by decide⟩ w.heap.size hB0'.out.size).datF)
 have x5:=(B3.out.block _ (Array.getElem?_eq_some_iff.1 X0.out).1).trans X0.out
 have X5:=hid x5
 have z0:=cell_p x5 0
 have z1:=cell_p x5 1
 have z2:=cell_p x5 2
 have f0:=frz_p x5 0
 have f1:=frz_p x5 1
 have f2:=frz_p x5 2
 simp only [List.getElem?_toArray,List.getElem?_cons_succ,List.getElem?_cons_zero] at z0 z1 z2
 clear x5 hw3 hw0
 go_wp2
 refine bodyPost_ret (v:=ratV ⟨false,[],[1]⟩ none 0 (some ⟨w0.heap.size,0,none⟩) 1) (by simp [results,Tryz.results103,go_sem, *]) rfl ?_
 exact RatPost.set (r:=⟨false,[],[1]⟩) (by decide) (by decide) X5.out (Nat.le_refl _) (.nil _ _ _ _) S3.out ⟨Nat.zero_le _,Nat.zero_le _⟩ ⟨Nat.le_refl _,by decide⟩ (hB0'.out.trans (B3.out.mono hB0'.out.size)) [(0,.bool false),(1,.slice none 0 0),(2,.slice (some ⟨w0.heap.size,0,none⟩) 1 1)]
end
section
variable {S S' : Nat → Prop}
theorem lown_any (r:RatD) (a b:Option Addr) (c d:Nat) (w:World) (h:RatS S w r a c b d) (hrn:r.num.length≤1000000) (hrd:r.den.length≤1000000) :
  Calls Tryz.prog 144 #[ratV r a c b d] w fun e w'=>RatPost r w e w':=by
 have H:=hid h
 obtain ⟨ng,nu,de⟩:=r
 dsimp only at *
 clear h
 have X0:=hid (heap2b w (.cells #[.bool ng,.slice a nu.length c,.slice b de.length d] 36) (.cells #[.bool false,.slice none 0 0,.slice none 0 0] 36))
 have x1:=heap2a w (.cells #[.bool ng,.slice a nu.length c,.slice b de.length d] 36) (.cells #[.bool false,.slice none 0 0,.slice none 0 0] 36)
 have hB0:=hid (below2 w (.cells #[.bool ng,.slice a nu.length c,.slice b de.length d] 36) (.cells #[.bool false,.slice none 0 0,.slice none 0 0] 36))
 generalize hw0:(w.alloc (.cells #[.bool ng,.slice a nu.length c,.slice b de.length d] 36)).alloc (.cells #[.bool false,.slice none 0 0,.slice none 0 0] 36)=w0 at *
 have q0:w0.cell? ⟨w.heap.size,0,none⟩=some (.bool ng):=cell_p x1 0
 have q1:w0.cell? ⟨w.heap.size,1,none⟩=some (.slice a nu.length c):=cell_p x1 1
 have q2:w0.cell? ⟨w.heap.size,2,none⟩=some (.slice b de.length d):=cell_p x1 2
 have hsz:=hid hB0.out.size
 have k1:=hid (fun W (hb:Below w0.heap.size w0 W)=>clone64_any a nu.length c nu W (H.out.num.below (hB0.out.trans (hb.mono hB0.out.size)) (Nat.le_refl _)) (by omega))
 have k2:=hid (fun W (hb:Below w0.heap.size w0 W)=>clone64_any b de.length d de W (H.out.den.below (hB0.out.trans (hb.mono hB0.out.size)) (Nat.le_refl _)) (by omega))
 clear x1
 go_enter Tryz.func144,Tryz.ntmps144
 go_wp2
 clear hw0
 refine wp_region_tt (S:=fun W=>Below w0.heap.size w0 W) 9 (by kernel_rfl) (by kernel_rfl) (keep_drew w0) (fun _=>?_)
 refine tk (i:=0) (h:=?_)
 (try simp only [Act.put,sA,sB,sC])
 refine tk (i:=1) (hy:=(Or.inl ⟨by rfl,by(intro W hSw;have hq:=keep_cell hSw q0;go_simp <;> with_reducible rfl)⟩)) (h:=?_)
 (try simp only [Act.put,sA,sB,sC])
 refine tk (i:=2) (h:=?_)
 (try simp only [Act.put,sA,sB,sC])
 refine tk (i:=3) (hy:=(Or.inl ⟨by rfl,by(intro W hSw;have hq:=keep_cell hSw q1;go_simp <;> with_reducible rfl)⟩)) (h:=?_)
 (try simp only [Act.put,sA,sB,sC])
 refine tk (i:=5) (h:=?_)
 (try simp only [Act.put,sA,sB,sC])
 refine tk (i:=6) (hy:=(Or.inl ⟨by rfl,by(intro W hSw;have hq:=keep_cell hSw q2;go_simp <;> with_reducible rfl)⟩)) (h:=?_)
 (try simp only [Act.put,sA,sB,sC])
 refine tt_ready (rs:=[4]) (by decide +kernel) (allT_cons (by rfl) (fun K hK=>?_) allT_nil)
 go_simp
 go_at_call 120
 refine(k1.out _ (keep_drew w0)).mono ?_
 rintro ee w5 ⟨a5,c5,rfl,o5,b5⟩
 have B5:Below w0.heap.size w0 w5:=(keep_drew w0).trans (b5.mono (keep_drew w0).size)
 have D5:=hid (o5.datF (n:=w.heap.size) hsz.out)
 have L5:=hid o5.slice
 clear o5 b5
 dsimp only
 refine hK.out _ _ (by(exact B5)) (fun hHeld2=>?_)
 clear hK K
 (try simp only [Act.put,sA,sB,sC])
 refine tt_ready (rs:=[7]) (by decide +kernel) (allT_cons (by rfl) (fun K hK=>?_) allT_nil)
 go_simp
 go_at_call 120
 refine(k2.out _ B5).mono ?_
 rintro ee w6 ⟨a6,c6,rfl,o6,b6⟩
 have B6:Below w0.heap.size w0 w6:=B5.trans (b6.mono B5.size)
 have D6:=hid (o6.datF (n:=w.heap.size) (Nat.le_trans hsz.out B5.size))
 have L6:=hid o6.slice
 have E5:=hid (D5.out.move (Below.dat b6) b6.size)
 clear o6 b6
 dsimp only
 refine hK.out _ _ (by(exact B6)) (fun hHeld3=>?_)
 clear hK K
 (try simp only [Act.put,sA,sB,sC])
 refine tk (i:=8) (h:=?_)
 (try simp only [Act.put,sA,sB,sC])
 refine tt_tail (by decide +kernel) ?_
 simp only [List.drop_succ_cons,List.drop_zero]
 have x5:=(B6.block _ (Array.getElem?_eq_some_iff.1 X0.out).1).trans X0.out
 have X5:=hid x5
 have z0:=cell_p x5 0
 have z1:=cell_p x5 1
 have z2:=cell_p x5 2
 have f0:=frz_p x5 0
 have f1:=frz_p x5 1
 have f2:=frz_p x5 2
 simp only [List.getElem?_toArray,List.getElem?_cons_succ,List.getElem?_cons_zero] at z0 z1 z2
 clear x5
 go_wp2
 refine bodyPost_ret (v:=ratV ⟨ng,nu,de⟩ a5 c5 a6 c6) (by simp [results,Tryz.results144,go_sem, *]) rfl ?_
 exact RatPost.set (r:=⟨ng,nu,de⟩) (by decide) (by decide) X5.out (by omega) E5.out D6.out (by obtain ⟨_,_,e,h⟩:=L5.out;cases e;exact h) (by obtain ⟨_,_,e,h⟩:=L6.out;cases e;exact h) (hB0.out.trans (B6.mono hB0.out.size)) [(0,.bool ng),(1,.slice a5 nu.length c5),(2,.slice a6 de.length c6)]
theorem SlR.at64q {w:World} {a:Option Addr} {n:Nat} {xs:List Int} (h:SlR Rep.u64 S w a n xs) {k:Nat} (hk:k<xs.length):∃b o,a=some ⟨b,o,none⟩∧w.cell? ⟨b,o+k,none⟩=some (.int .u64 (nth xs k)):=by
 obtain ⟨b,o,e,h1,_⟩:=h.at64 hk
 exact⟨b,o,e,h1⟩
theorem take_eq1 {xs ys:List Int} {k:Nat} (hx:k<xs.length) (hl:ys.length=xs.length) (h:xs.take k=ys.take k):(xs.take (k+1)=ys.take (k+1))↔nth xs k=nth ys k:=by
 rw [List.take_succ_eq_append_getElem hx,List.take_succ_eq_append_getElem (show k<ys.length by omega),h,nth_eq hx,nth_eq (show k<ys.length by omega)]
 constructor
 ·intro e
  have:=List.append_cancel_left e
  simpa using this
 ·intro e;rw [e]
theorem eq64_any (a b:Option Addr) (n m c d:Nat) (xs ys:List Int) (w:World) (hx:SlR Rep.u64 S w a n xs) (hy:SlR Rep.u64 S' w b m ys) (hn:n≤1099511627776) :
  Calls Tryz.prog 152 #[.slice a n c,.slice b m d] w fun e w'=>e = .returned (.bool (decide (xs=ys)))∧Below w.heap.size w w':=by
 have hX:=hid hx
 have hY:=hid hy
 have lx:=hid hx.1
 have ly:=hid hy.1
 clear hx hy
 by_cases hnm:n=m
 case neg=>
  have hv:=hid (show decide (xs=ys)=false from decide_eq_false fun e=>hnm (by rw [←lx.out,←ly.out,e]))
  have hni:¬(n:Int)=m:=by omega
  have hnb:((n:Int) != m)=true:=by simpa using hni
  have hnd:decide ((n:Int)=m)=false:=decide_eq_false hni
  clear hnm
  go_enter Tryz.func152,Tryz.ntmps152
  go_wp2
  go_ret
  exact⟨ret_bool hv.out.symm,Below.refl _ _⟩
 case pos=>
  subst hnm
  go_enter Tryz.func152,Tryz.ntmps152
  go_wp2
  go_loopw [13] (fun v13 wr=>∃k:Nat,k≤n∧v13 = .int .i64 k∧Hid (xs.take k=ys.take k)∧Hid (Below w.heap.size w wr)) (fun v13 _=>n - (intOf v13).toNat)
  case atStart=>exact⟨0,Nat.zero_le _,rfl,by show _=_;simp,Below.refl _ _⟩
  case round=>
   obtain ⟨k,hk,rfl,hT,hB⟩:=hrel
   by_cases hkn:k<n
   case neg=>
    obtain rfl:k=n:=by omega
    have hki:¬(k:Int)<k:=by omega
    have hv:=hid (show decide (xs=ys)=true from decide_eq_true (by
     have h:=hT.out
     rw [List.take_of_length_le (by rw [lx.out];exact Nat.le_refl _),List.take_of_length_le (by rw [ly.out];exact Nat.le_refl _)] at h
     exact h))
    go_wp2
    go_ret
    exact⟨ret_bool hv.out.symm,hB.out⟩
   case pos=>
    have hki:(k:Int)<n:=by omega
    obtain ⟨b1,o1,rfl,y1⟩:=(hX.out.below hB.out (Nat.le_refl _)).at64q (k:=k) (by rw [lx.out];exact hkn)
    obtain ⟨b2,o2,rfl,y2⟩:=(hY.out.below hB.out (Nat.le_refl _)).at64q (k:=k) (by rw [ly.out];exact hkn)
    have hs:=hid (take_eq1 (xs:=xs) (ys:=ys) (k:=k) (by rw [lx.out];exact hkn) (by rw [lx.out,ly.out]) hT.out)
    have hv:=hid (show nth xs k≠nth ys k→decide (xs=ys)=false from fun h=>decide_eq_false fun e=>h (by rw [e]))
    generalize nth xs k=p at *
    generalize nth ys k=q at *
    by_cases hpq:p=q
    case pos=>
     have hT2:=hid (hs.out.2 hpq)
     subst hpq
     clear hs hv
     go_wp2
     go_quiet (fail)
     have B6:=hid (hB.out.trans ((Below.refl _ _).drewN nq))
     go_wp2
     go_roundw
     case rel=>exact⟨k+1,by omega,by go_num,hT2.out,B6.out⟩
     case measure=>first | (simp [intOf];done) | (simp [intOf];omega)
    case neg=>
     have hpd:decide (p=q)=false:=decide_eq_false hpq
     have hpb:(p == q)=false:=by simpa using hpq
     have hpc:(p != q)=true:=by simpa using hpq
     have hv2:=hid (hv.out hpq)
     clear hs hv
     go_wp2
     go_quiet (fail)
     have B6:=hid (hB.out.trans ((Below.refl _ _).drewN nq))
     go_wp2
     go_ret
     exact⟨ret_bool hv2.out.symm,B6.out⟩
theorem lalike_any (r s:RatD) (a b a' b':Option Addr) (c d c' d':Nat) (w:World) (h:RatS S w r a c b d) (k:RatS S' w s a' c' b' d') (hrn:r.num.length≤1000000) (hrd:r.den.length≤1000000) :
  Calls Tryz.prog 99 #[ratV r a c b d,ratV s a' c' b' d'] w fun e w'=>e = .returned (.bool (alikeR r s))∧Below w.heap.size w w':=by
 obtain ⟨ng,nu,de⟩:=r
 obtain ⟨mg,mu,me⟩:=s
 have hB0:=hid (below2 w (.cells #[.bool ng,.slice a nu.length c,.slice b de.length d] 36) (.cells #[.bool mg,.slice a' mu.length c',.slice b' me.length d'] 36))
 have x1:=heap2a w (.cells #[.bool ng,.slice a nu.length c,.slice b de.length d] 36) (.cells #[.bool mg,.slice a' mu.length c',.slice b' me.length d'] 36)
 have x2:=heap2b w (.cells #[.bool ng,.slice a nu.length c,.slice b de.length d] 36) (.cells #[.bool mg,.slice a' mu.length c',.slice b' me.length d'] 36)
 have h1:=hid (eq64_any a a' nu.length mu.length c c' nu mu _ (h.num.below hB0.out (Nat.le_refl _)) (k.num.below hB0.out (Nat.le_refl _)) (by dsimp only at hrn;omega))
 have h2:=hid (fun W (hW:Below w.heap.size w W)=>eq64_any b b' de.length me.length d d' de me W (h.den.below hW (Nat.le_refl _)) (k.den.below hW (Nat.le_refl _)) (by dsimp only at hrd;omega))
 have hd:=@hid (alikeR ⟨ng,nu,de⟩ ⟨mg,mu,me⟩=(ng == mg && (decide (nu=mu) && decide (de=me)))) rfl
 dsimp only at *
 clear h k hrn hrd
 generalize hw0:(w.alloc (.cells #[.bool ng,.slice a nu.length c,.slice b de.length d] 36)).alloc (.cells #[.bool mg,.slice a' mu.length c',.slice b' me.length d'] 36)=w0 at *
 have q0:w0.cell? ⟨w.heap.size,0,none⟩=some (.bool ng):=cell_p x1 0
 have q1:w0.cell? ⟨w.heap.size,1,none⟩=some (.slice a nu.length c):=cell_p x1 1
 have q2:w0.cell? ⟨w.heap.size,2,none⟩=some (.slice b de.length d):=cell_p x1 2
 have r0:w0.cell? ⟨w.heap.size+1,0,none⟩=some (.bool mg):=cell_p x2 0
 have r1:w0.cell? ⟨w.heap.size+1,1,none⟩=some (.slice a' mu.length c'):=cell_p x2 1
 have r2:w0.cell? ⟨w.heap.size+1,2,none⟩=some (.slice b' me.length d'):=cell_p x2 2
 clear x1 x2
 generalize decide (nu=mu)=b1 at *
 generalize decide (de=me)=b2 at *
 cases hng:(ng == mg)
 case false=>
  have hv:=hid (show false=alikeR ⟨ng,nu,de⟩ ⟨mg,mu,me⟩ from by rw [hd.out,hng];rfl)
  clear hd h1 h2
  go_enter Tryz.func99,Tryz.ntmps99
  go_wp2
  go_ret
  exact⟨ret_bool hv.out,hB0.out⟩
 case true=>
  cases b1
  case false=>
   have hv:=hid (show false=alikeR ⟨ng,nu,de⟩ ⟨mg,mu,me⟩ from by rw [hd.out,hng];rfl)
   clear hd h2
   go_enter Tryz.func99,Tryz.ntmps99
   go_wp2_with fail
   refine h1.out.mono ?_;rintro e w1 ⟨rfl,hb1⟩
   have B1:=hid (hB0.out.trans (hb1.mono hB0.out.size))
   clear hb1
   go_wp2
   go_ret
   exact⟨ret_bool hv.out,B1.out⟩
  case true=>
   have hv:=hid (show b2=alikeR ⟨ng,nu,de⟩ ⟨mg,mu,me⟩ from by rw [hd.out,hng];rfl)
   clear hd
   go_enter Tryz.func99,Tryz.ntmps99
   go_wp2_with fail
   refine h1.out.mono ?_;rintro e w1 ⟨rfl,hb1⟩
   have B1:=hid (hB0.out.trans (hb1.mono hB0.out.size))
   have p2:=keep_cell hb1 q2
   have s2:=keep_cell hb1 r2
   clear hb1 hw0
   go_wp2_with fail
   refine(h2.out w1 B1.out).mono ?_;rintro e w2 ⟨rfl,hb2⟩
   have B2:=hid (B1.out.trans (hb2.mono B1.out.size))
   clear hb2
   go_wp2
   go_ret
   exact⟨ret_bool hv.out,B2.out⟩
theorem ValS.rat {w:World} {v:ValD} {a b:Option Addr} {c d:Nat} (h:ValS S w v a c b d):RatS S w v.num a c b d:=⟨h.num,h.nc,h.den,h.dc⟩
theorem msame_any (x y:ValD) (a b a' b':Option Addr) (c d c' d':Nat) (w:World) (h:ValS S w x a c b d) (k:ValS S' w y a' c' b' d') (hrn:x.num.num.length≤1000000) (hrd:x.num.den.length≤1000000) :
  Calls Tryz.prog 43 #[valV x a c b d,valV y a' c' b' d'] w fun e w'=>e = .returned (.bool (sameV x y))∧Below w.heap.size w w':=by
 obtain ⟨s,bo,⟨ng,nu,de⟩,el⟩:=x
 obtain ⟨t,bp,⟨mg,mu,me⟩,em⟩:=y
 have hB0:=hid (below2 w (.cells #[.int .i64 s,.bool bo,.bool ng,.slice a nu.length c,.slice b de.length d,.int .i64 el] 64) (.cells #[.int .i64 t,.bool bp,.bool mg,.slice a' mu.length c',.slice b' me.length d',.int .i64 em] 64))
 have h1:=hid (lalike_any ⟨ng,nu,de⟩ ⟨mg,mu,me⟩ a b a' b' c d c' d' _ ⟨h.num.below hB0.out (Nat.le_refl _),h.nc,h.den.below hB0.out (Nat.le_refl _),h.dc⟩ ⟨k.num.below hB0.out (Nat.le_refl _),k.nc,k.den.below hB0.out (Nat.le_refl _),k.dc⟩ hrn hrd)
 have hd:=@hid (sameV ⟨s,bo,⟨ng,nu,de⟩,el⟩ ⟨t,bp,⟨mg,mu,me⟩,em⟩=(decide (s=t) && (if s=0 then bo == bp else if s=1 then alikeR ⟨ng,nu,de⟩ ⟨mg,mu,me⟩ else decide (el=em)))) rfl
 clear h k hrn hrd
 generalize sameV ⟨s,bo,⟨ng,nu,de⟩,el⟩ ⟨t,bp,⟨mg,mu,me⟩,em⟩=z at *
 generalize alikeR ⟨ng,nu,de⟩ ⟨mg,mu,me⟩=al at *
 by_cases hst:s=t
 case neg=>
  have hv:=hid (show false=z from by rw [hd.out,decide_eq_false hst];rfl)
  have hsb:(s != t)=true:=by simpa using hst
  have hsd:decide (s=t)=false:=decide_eq_false hst
  clear hd h1
  go_enter Tryz.func43,Tryz.ntmps43
  go_wp2
  go_ret
  exact⟨ret_bool hv.out,hB0.out⟩
 case pos=>
  subst hst
  by_cases h0:s=0
  case pos=>
   subst h0
   have hv:=hid (show(bo == bp)=z from by rw [hd.out];rfl)
   clear hd h1
   go_enter Tryz.func43,Tryz.ntmps43
   go_wp2
   go_ret
   exact⟨ret_bool hv.out,hB0.out⟩
  case neg=>
   have h0b:(s == 0)=false:=by simpa using h0
   have h0d:decide (s=0)=false:=decide_eq_false h0
   by_cases h1':s=1
   case pos=>
    subst h1'
    have hv:=hid (show al=z from by rw [hd.out];rfl)
    clear hd
    go_enter Tryz.func43,Tryz.ntmps43
    go_wp2_with fail
    refine h1.out.mono ?_;rintro e w1 ⟨rfl,hb1⟩
    have B1:=hid (hB0.out.trans (hb1.mono hB0.out.size))
    clear hb1
    go_wp2
    go_ret
    exact⟨ret_bool hv.out,B1.out⟩
   case neg=>
    have h1b:(s == 1)=false:=by simpa using h1'
    have h1d:decide (s=1)=false:=decide_eq_false h1'
    have hv:=hid (show(el == em)=z from by rw [hd.out,decide_eq_true rfl,if_neg h0,if_neg h1'];rw [Bool.true_and,Bool.eq_iff_iff];simp)
    clear hd h1
    go_enter Tryz.func43,Tryz.ntmps43
    go_wp2
    go_ret
    exact⟨ret_bool hv.out,hB0.out⟩
end
def ValP (v:ValD) (w:World) (e:Ending) (w':World):Prop:=∃a c b d,e = .returned (valV v a c b d)∧ValS (DatF w.heap.size w') w' v a c b d∧Below w.heap.size w w'
theorem ValS.setL {v:ValD} {n:Nat} {W:World} {p:Nat} {cs:Array Value} {t:TypeId} {a b:Option Addr} {c d:Nat} (h1:t≠3) (h2:t≠177) (hp:W.heap[p]? = some (.cells cs t (0,0))) (h:ValS (DatF n W) W v a c b d) (l:List (Nat × Value)):ValS (DatF n (setL p l W)) (setL p l W) v a c b d:=by
 obtain ⟨q1,q2,_⟩:=setL_dat h1 h2 l W cs hp
 exact⟨h.sort,h.el,h.num.move q1 (Nat.le_of_eq q2.symm),h.nc,h.den.move q1 (Nat.le_of_eq q2.symm),h.dc⟩
theorem ValP.set {v:ValD} {w W:World} {p:Nat} {cs:Array Value} {t:TypeId} {a b:Option Addr} {c d:Nat} (h1:t≠3) (h2:t≠177) (hp:W.heap[p]? = some (.cells cs t (0,0))) (hwp:w.heap.size≤p) (h:ValS (DatF w.heap.size W) W v a c b d) (hb:Below w.heap.size w W) (l:List (Nat × Value)):ValP v w (.returned (valV v a c b d)) (setL p l W):=
 ⟨a,c,b,d,rfl,h.setL h1 h2 hp l,(setL_dat h1 h2 l W cs hp).2.2 _ _ hwp hb⟩
theorem setL_heap {p:Nat} {t:TypeId}:∀(l:List (Nat × Value)) (W:World) (cs:Array Value),W.heap[p]? = some (.cells cs t (0,0))→(setL p l W).heap[p]? = some (.cells (l.foldl (fun cs iv=>cs.setIfInBounds iv.1 iv.2) cs) t (0,0))
 | [],_,_,h=>h
 | _ :: l,_,_,h=>setL_heap l _ _ (by unfold World.setCell;rw [Array.getElem?_modify,if_pos rfl,h];rfl)
theorem setL_other {p k:Nat} (hk:k≠p):∀(l:List (Nat × Value)) (W:World),(setL p l W).heap[k]? = W.heap[k]?
 | [],_=>rfl
 | _ :: l,_=>(setL_other hk l _).trans (Below.heap_setCell _ _ _ _ hk)
section
variable {S S' : Nat → Prop}
theorem SlR.from1 {α:Type} {R:Rep α} {w:World} {a:Option Addr} {n c:Nat} {xs:List α} (h:SlR R S w a n xs) (hn:1≤n) (hc:n≤c):SlR R S w (fromA a c 1 R.k) (n - 1) (xs.drop 1):=by
 refine⟨by rw [List.length_drop,h.1],fun hp=>?_⟩
 obtain ⟨b,o,ha,hlt,hS,hcc⟩:=h.2 (by omega)
 refine⟨b,o+1 * R.k,?_,hlt,hS,fun j x hx=>?_⟩
 ·unfold fromA
  rw [if_neg (by omega),ha]
  show some (Addr.add ⟨b,o,none⟩ (1 * R.k))=_
  rw [Addr.add_lit]
 ·rw [List.getElem?_drop] at hx
  obtain ⟨cs,k1,k2⟩:=hcc (1+j) x hx
  refine⟨cs,k1,fun i u hu=>?_⟩
  have:=k2 i u hu
  rw [show o+1 * R.k+j * R.k+i=o+(1+j) * R.k+i from by rw [Nat.add_mul];omega]
  exact this
theorem size_val (w:World):(sizeOf 64).run Tryz.prog w = .ok 6 w:=by kernel_rfl
theorem run_fromV {a:Option Addr} {n c:Nat} (hk:1≤n) (hc:n≤c) (W:World):(Instr.slice 78 (.slice a n c) (some (.int .i64 1)) none none).run Tryz.prog W = .ok (.slice (fromA a c 1 6) (n - 1) (c - 1)) W:=
 run_from2 (k:=1) Tryz.underlying78 size_val hk hc W
theorem SlR.valAt {w:World} {a:Option Addr} {n k:Nat} {xs:List ValD} {x:ValD} (h:SlR repV S w a n xs) (hx:xs[k]? = some x) :
  ∃b o a' c' b' d',a=some ⟨b,o,none⟩∧ValS S w x a' c' b' d'∧∀i u,(valC x a' c' b' d')[i]? = some u→w.cell? ⟨b,o+k * 6+i,none⟩=some u:=by
 obtain ⟨b,o,cs,ha,_,hr,hc⟩:=h.at hx
 obtain ⟨a',c',b',d',rfl,hv⟩:=repV_rd.1 hr
 exact⟨b,o,a',c',b',d',ha,hv,hc⟩
theorem mown_any (v:ValD) (a b:Option Addr) (c d:Nat) (w:World) (h:ValS S w v a c b d) (hrn:v.num.num.length≤1000000) (hrd:v.num.den.length≤1000000) :
  Calls Tryz.prog 91 #[valV v a c b d] w fun e w'=>ValP v w e w':=by
 have H:=hid h
 obtain ⟨s,bo,⟨ng,nu,de⟩,el⟩:=v
 dsimp only at *
 clear h
 have X0:=hid (heap2b w (.cells #[.int .i64 s,.bool bo,.bool ng,.slice a nu.length c,.slice b de.length d,.int .i64 el] 64) (.cells #[.int .i64 0,.bool false,.bool false,.slice none 0 0,.slice none 0 0,.int .i64 0] 64))
 have X1:=hid (heap2a w (.cells #[.int .i64 s,.bool bo,.bool ng,.slice a nu.length c,.slice b de.length d,.int .i64 el] 64) (.cells #[.int .i64 0,.bool false,.bool false,.slice none 0 0,.slice none 0 0,.int .i64 0] 64))
 have hB0:=hid (below2 w (.cells #[.int .i64 s,.bool bo,.bool ng,.slice a nu.length c,.slice b de.length d,.int .i64 el] 64) (.cells #[.int .i64 0,.bool false,.bool false,.slice none 0 0,.slice none 0 0,.int .i64 0] 64))
 generalize hw0:(w.alloc (.cells #[.int .i64 s,.bool bo,.bool ng,.slice a nu.length c,.slice b de.length d,.int .i64 el] 64)).alloc (.cells #[.int .i64 0,.bool false,.bool false,.slice none 0 0,.slice none 0 0,.int .i64 0] 64)=w0 at *
 have q2:w0.cell? ⟨w.heap.size,2,none⟩=some (.bool ng):=cell_p X1.out 2
 have q3:w0.cell? ⟨w.heap.size,3,none⟩=some (.slice a nu.length c):=cell_p X1.out 3
 have q4:w0.cell? ⟨w.heap.size,4,none⟩=some (.slice b de.length d):=cell_p X1.out 4
 have ho:=hid (lown_any ⟨ng,nu,de⟩ a b c d w0 ⟨H.out.num.below hB0.out (Nat.le_refl _),H.out.nc,H.out.den.below hB0.out (Nat.le_refl _),H.out.dc⟩ hrn hrd)
 go_enter Tryz.func91,Tryz.ntmps91
 go_wp2_with fail
 refine ho.out.mono ?_;rintro e w1 ⟨a5,c5,b5,d5,rfl,s5,t5,l5,m5,hb1⟩
 have B1:=hid (hB0.out.trans (hb1.mono hB0.out.size))
 have x1:=(hb1.block _ (Array.getElem?_eq_some_iff.1 X1.out).1).trans X1.out
 have x2:=(hb1.block _ (Array.getElem?_eq_some_iff.1 X0.out).1).trans X0.out
 have Y1:=hid x1
 have Y2:=hid x2
 have V5:=hid (show ValS (DatF w.heap.size w1) w1 ⟨s,bo,⟨ng,nu,de⟩,el⟩ a5 c5 b5 d5 from⟨H.out.sort,H.out.el,s5.mono fun k _ h=>⟨h.1,Nat.le_trans hB0.out.size h.2⟩,l5,t5.mono fun k _ h=>⟨h.1,Nat.le_trans hB0.out.size h.2⟩,m5⟩)
 have y0:=cell_p x1 0
 have y1:=cell_p x1 1
 have y2:=cell_p x1 2
 have y3:=cell_p x1 3
 have y4:=cell_p x1 4
 have y5:=cell_p x1 5
 have g2:=frz_p x1 2
 have g3:=frz_p x1 3
 have g4:=frz_p x1 4
 have z0:=cell_p x2 0
 have z1:=cell_p x2 1
 have z2:=cell_p x2 2
 have z3:=cell_p x2 3
 have z4:=cell_p x2 4
 have z5:=cell_p x2 5
 have f0:=frz_p x2 0
 have f1:=frz_p x2 1
 have f2:=frz_p x2 2
 have f3:=frz_p x2 3
 have f4:=frz_p x2 4
 have f5:=frz_p x2 5
 simp only [List.getElem?_toArray,List.getElem?_cons_succ,List.getElem?_cons_zero] at y0 y1 y2 y3 y4 y5 z0 z1 z2 z3 z4 z5
 have hl2:=hid (show(setL w.heap.size [(2,.bool ng),(3,.slice a5 nu.length c5),(4,.slice b5 de.length d5)] w1).heap[w.heap.size+1]? = _ from(setL_other (by omega) _ _).trans x2)
 have hl1:=hid ((setL_dat (by decide) (by decide) [(2,.bool ng),(3,.slice a5 nu.length c5),(4,.slice b5 de.length d5)] w1 _ x1).2.2 _ _ (Nat.le_refl _) B1.out)
 have V6:=hid (V5.out.setL (by decide) (by decide) x1 [(2,.bool ng),(3,.slice a5 nu.length c5),(4,.slice b5 de.length d5)])
 clear s5 t5 l5 m5 hb1 x1 x2 ho hw0
 go_wp2
 refine bodyPost_ret (v:=valV ⟨s,bo,⟨ng,nu,de⟩,el⟩ a5 c5 b5 d5) (by simp [results,Tryz.results91,go_sem, *]) rfl ?_
 exact ValP.set (v:=⟨s,bo,⟨ng,nu,de⟩,el⟩) (by decide) (by decide) hl2.out (by omega) V6.out hl1.out [(0,.int .i64 s),(1,.bool bo),(2,.bool ng),(3,.slice a5 nu.length c5),(4,.slice b5 de.length d5),(5,.int .i64 el)]
def truthV (b:Bool):ValD:=⟨0,b,noRat,0⟩
theorem mtruth_any (b:Bool) (w:World):Calls Tryz.prog 139 #[.bool b] w fun e w'=>ValP (truthV b) w e w':=by
 have X0:=hid (heap_alloc_new w (.cells #[.int .i64 0,.bool false,.bool false,.slice none 0 0,.slice none 0 0,.int .i64 0] 64))
 have hB0:=hid (show Below w.heap.size w (w.alloc (.cells #[.int .i64 0,.bool false,.bool false,.slice none 0 0,.slice none 0 0,.int .i64 0] 64)) from(Below.refl _ _).alloc (Nat.le_refl _) _)
 go_enter Tryz.func139,Tryz.ntmps139
 go_wp2
 refine bodyPost_ret (v:=valV (truthV b) none 0 none 0) (by simp [results,Tryz.results139,go_sem,truthV,noRat, *]) rfl ?_
 refine⟨none,0,none,0,rfl,⟨(show okI 0 from⟨by decide,by decide⟩),(show okI 0 from⟨by decide,by decide⟩),.nil _ _ _ _,⟨Nat.le_refl _,Nat.zero_le _⟩,.nil _ _ _ _,⟨Nat.le_refl _,Nat.zero_le _⟩⟩,?_⟩
 first | exact(Below.refl _ _).alloc (Nat.le_refl _) _ | exact hB0.out.setCell (Nat.le_refl _) _
def impV (l:List ValD) (b:Bool):Bool:=l.foldl (fun o v=>o || !v.bool) b
def logS (op:Int) (o b:Bool):Bool:=if op=4 then o && b else if op=5 then o || b else if op=7 then o != b else o
def logV (op:Int) (l:List ValD) (b:Bool):Bool:=l.foldl (fun o v=>logS op o v.bool) b
def valAtL (l:List ValD) (k:Nat):ValD:=l.getD k noVal
def logicV (op:Int) (l:List ValD):Bool:=if op=3 then !(valAtL l 0).bool else if op=6 then impV (l.take (l.length - 1)) (valAtL l (l.length - 1)).bool else logV op (l.drop 1) (valAtL l 0).bool
theorem valAtL_eq {l:List ValD} {k:Nat} (h:k<l.length):l[k]? = some (valAtL l k):=by unfold valAtL;rw [List.getD_eq_getElem?_getD,List.getElem?_eq_getElem h];rfl
theorem foldl_snoc {α β:Type} (f:β→α→β) {l:List α} {k:Nat} {x:α} (h:l[k]? = some x) (b:β):(l.take (k+1)).foldl f b=f ((l.take k).foldl f b) x:=by
 have hk:=(List.getElem?_eq_some_iff.1 h).1
 rw [List.take_succ_eq_append_getElem hk,List.foldl_append]
 have:l[k]=x:=(List.getElem?_eq_some_iff.1 h).2
 rw [this];rfl
theorem run_takeV {a:Option Addr} {n c k:Nat} (hk:k≤n) (hc:n≤c) (W:World):(Instr.slice 78 (.slice a n c) none (some (.int .i64 k)) none).run Tryz.prog W = .ok (.slice a k c) W:=
 run_take2 Tryz.underlying78 size_val hk hc W
theorem mlogic_any (op:Int) (a:Option Addr) (n c:Nat) (l:List ValD) (w:World) (h:SlR repV S w a n l) (h1:1≤n) (hc:n≤c) (hn:n≤1000000) :
  Calls Tryz.prog 140 #[.int .i64 op,.slice a n c] w fun e w'=>e = .returned (.bool (logicV op l))∧Below w.heap.size w w':=by
 have H:=hid h
 have hl:=hid h.1
 have hd:=@hid (logicV op l=(if op=3 then !(valAtL l 0).bool else if op=6 then impV (l.take (l.length - 1)) (valAtL l (l.length - 1)).bool else logV op (l.drop 1) (valAtL l 0).bool)) rfl
 obtain ⟨b0,o0,a0,c0,e0,d0,ha,_,hv0⟩:=h.valAt (valAtL_eq (l:=l) (k:=0) (by rw [h.1];omega))
 obtain ⟨z,hz⟩:∃z,logicV op l=z:=⟨_,rfl⟩
 rw [hz] at hd ⊢
 clear hz
 have q1:w.cell? ⟨b0,o0+1,none⟩=some (.bool (valAtL l 0).bool):=by have:=hv0 1 _ rfl;rwa [Nat.zero_mul,Nat.add_zero] at this
 have hni:(0:Int)<n:=by omega
 by_cases h3:op=3
 case pos=>
  subst h3
  have hv:=hid (show(!(valAtL l 0).bool)=z from by rw [hd.out];rfl)
  clear hd h hv0
  generalize (valAtL l 0).bool=b at *
  subst ha
  go_enter Tryz.func140,Tryz.ntmps140
  go_wp2
  go_ret
  exact⟨ret_bool hv.out,Below.refl _ _⟩
 case neg=>
  have h3b:(op == 3)=false:=by simpa using h3
  have h3d:decide (op=3)=false:=decide_eq_false h3
  by_cases h6:op=6
  case pos=>
   subst h6
   have hv:=hid (show impV (l.take (n - 1)) (valAtL l (n - 1)).bool=z from by rw [hd.out,←hl.out];rfl)
   obtain ⟨b2,o2,a2,c2,e2,d2,ha2,_,hv2⟩:=h.valAt (valAtL_eq (l:=l) (k:=n - 1) (by rw [h.1];omega))
   obtain ⟨m,rfl⟩:∃m,n=m+1:=⟨n - 1,by omega⟩
   rw [Nat.add_sub_cancel] at hv hv2
   have q2:w.cell? ⟨b2,o2+m * 6+1,none⟩=some (.bool (valAtL l m).bool):=hv2 1 _ rfl
   have hsl:=fun W=>run_takeV (a:=a) (n:=m+1) (c:=c) (k:=m) (by omega) hc W
   have hmi:(((m+1:Nat):Int) - 1)=m:=by omega
   have hm0:(0:Int)≤m:=by omega
   have hmm:(m:Int)<((m+1:Nat):Int):=by omega
   clear hd h hv0 hv2
   subst ha
   cases ha2
   generalize hb:(valAtL l m).bool=bz at *
   generalize (valAtL l 0).bool=b at *
   clear hb
   go_enter Tryz.func140,Tryz.ntmps140
   go_wp2
   go_loopw [5,34] (fun v5 v34 wr=>∃k:Nat,k≤m∧v34 = .int .i64 k∧v5 = .bool (impV (l.take k) bz)∧Hid (Below w.heap.size w wr)) (fun _ v34 _=>m - (intOf v34).toNat)
   case atStart=>exact⟨0,Nat.zero_le _,rfl,rfl,Below.refl _ _⟩
   case round=>
    obtain ⟨k,hk,rfl,rfl,hB⟩:=hrel
    by_cases hkm:k<m
    case neg=>
     obtain rfl:k=m:=by omega
     have hki:¬(k:Int)<k:=by omega
     have hv':=hid (show impV (l.take k) bz=z from by rw [←hv.out])
     generalize impV (l.take k) bz=o at *
     go_wp2
     go_ret
     exact⟨ret_bool hv'.out,hB.out⟩
    case pos=>
     have hki:(k:Int)<m:=by omega
     have hek:=valAtL_eq (l:=l) (k:=k) (by rw [hl.out];omega)
     obtain ⟨b3,o3,a3,c3,e3,d3,ha3,_,hv3⟩:=(H.out.below hB.out (Nat.le_refl _)).valAt hek
     cases ha3
     have hst:=hid (show impV (l.take (k+1)) bz=(impV (l.take k) bz || !(valAtL l k).bool) from foldl_snoc _ hek bz)
     have y0:=hv3 0 _ rfl
     have y1:=hv3 1 _ rfl
     have y2:=hv3 2 _ rfl
     have y3:=hv3 3 _ rfl
     have y4:=hv3 4 _ rfl
     have y5:=hv3 5 _ rfl
     rw [Nat.add_zero] at y0
     clear hek hv3
     generalize valAtL l k=v at *
     obtain ⟨s,bo,⟨ng,nu,de⟩,el⟩:=v
     dsimp only at *
     generalize impV (l.take k) bz=o at *
     have hBA:=hid (hB.out.trans (((Below.refl wr.heap.size wr).alloc (Nat.le_refl _) (.cells #[.int .i64 s,.bool bo,.bool ng,.slice a3 nu.length c3,.slice e3 de.length d3,.int .i64 el] 64)).mono hB.out.size))
     have XA:=hid (heap_alloc_new wr (.cells #[.int .i64 s,.bool bo,.bool ng,.slice a3 nu.length c3,.slice e3 de.length d3,.int .i64 el] 64))
     have z1:=cell_p XA.out 1
     simp only [List.getElem?_toArray,List.getElem?_cons_succ,List.getElem?_cons_zero] at z1
     cases o
     case true=>
      go_wp2
      go_roundw
      case rel=>exact⟨k+1,by omega,by go_num,by rw [hst.out];rfl,hBA.out⟩
      case measure=>first | (simp [intOf];done) | (simp [intOf];omega)
     case false=>
      go_wp2
      go_roundw
      case rel=>exact⟨k+1,by omega,by go_num,by rw [hst.out];rfl,hBA.out⟩
      case measure=>first | (simp [intOf];done) | (simp [intOf];omega)
  case neg=>
   have h6b:(op == 6)=false:=by simpa using h6
   have h6d:decide (op=6)=false:=decide_eq_false h6
   have hv:=hid (show logV op (l.drop 1) (valAtL l 0).bool=z from by rw [hd.out,if_neg h3,if_neg h6])
   have hsl:=fun W=>run_fromV (a:=some ⟨b0,o0,none⟩) (n:=n) (c:=c) h1 hc W
   have HD:=hid (H.out.from1 h1 hc)
   rw [ha] at HD
   rw [show repV.k=6 from rfl] at HD
   have hdl:=hid HD.out.1
   obtain ⟨m,hm⟩:∃m,n - 1=m:=⟨_,rfl⟩
   rw [hm] at HD hdl
   simp only [hm] at hsl
   have hmn:m≤1000000:=by omega
   clear hd h hv0 hm
   subst ha
   generalize (valAtL l 0).bool=bz at *
   generalize l.drop 1=l' at *
   clear H hl
   generalize fromA (some ⟨b0,o0,none⟩) c 1 6=a' at *
   go_enter Tryz.func140,Tryz.ntmps140
   go_wp2
   go_loopw [5,49] (fun v5 v49 wr=>∃k:Nat,k≤m∧v49 = .int .i64 k∧v5 = .bool (logV op (l'.take k) bz)∧Hid (Below w.heap.size w wr)) (fun _ v49 _=>m - (intOf v49).toNat)
   case atStart=>exact⟨0,Nat.zero_le _,rfl,rfl,Below.refl _ _⟩
   case round=>
    obtain ⟨k,hk,rfl,rfl,hB⟩:=hrel
    by_cases hkm:k<m
    case neg=>
     obtain rfl:k=m:=by omega
     have hki:¬(k:Int)<k:=by omega
     have hv':=hid (show logV op (l'.take k) bz=z from by rw [←hv.out,List.take_of_length_le (by rw [hdl.out];exact Nat.le_refl _)])
     generalize logV op (l'.take k) bz=o at *
     go_wp2
     go_ret
     exact⟨ret_bool hv'.out,hB.out⟩
    case pos=>
     have hki:(k:Int)<m:=by omega
     have hek:=valAtL_eq (l:=l') (k:=k) (by rw [hdl.out];omega)
     obtain ⟨b3,o3,a3,c3,e3,d3,rfl,_,hv3⟩:=(HD.out.below hB.out (Nat.le_refl _)).valAt hek
     have hst:=hid (show logV op (l'.take (k+1)) bz=logS op (logV op (l'.take k) bz) (valAtL l' k).bool from foldl_snoc _ hek bz)
     have y0:=hv3 0 _ rfl
     have y1:=hv3 1 _ rfl
     have y2:=hv3 2 _ rfl
     have y3:=hv3 3 _ rfl
     have y4:=hv3 4 _ rfl
     have y5:=hv3 5 _ rfl
     rw [Nat.add_zero] at y0
     clear hek hv3
     generalize valAtL l' k=v at *
     obtain ⟨s,bo,⟨ng,nu,de⟩,el⟩:=v
     dsimp only at *
     generalize logV op (l'.take k) bz=o at *
     have hBA:=hid (hB.out.trans (((Below.refl wr.heap.size wr).alloc (Nat.le_refl _) (.cells #[.int .i64 s,.bool bo,.bool ng,.slice a3 nu.length c3,.slice e3 de.length d3,.int .i64 el] 64)).mono hB.out.size))
     have XA:=hid (heap_alloc_new wr (.cells #[.int .i64 s,.bool bo,.bool ng,.slice a3 nu.length c3,.slice e3 de.length d3,.int .i64 el] 64))
     have z1:=cell_p XA.out 1
     simp only [List.getElem?_toArray,List.getElem?_cons_succ,List.getElem?_cons_zero] at z1
     by_cases h4:op=4
     case pos=>
      subst h4
      have hs2:=hid (show logV 4 (l'.take (k+1)) bz=(o && bo) from hst.out)
      cases o <;> (
       go_wp2
       go_roundw
       case rel=>exact⟨k+1,by omega,by go_num,by rw [hs2.out];rfl,hBA.out⟩
       case measure=>first | (simp [intOf];done) | (simp [intOf];omega))
     case neg=>
      have h4b:(op == 4)=false:=by simpa using h4
      have h4d:decide (op=4)=false:=decide_eq_false h4
      by_cases h5:op=5
      case pos=>
       subst h5
       have hs2:=hid (show logV 5 (l'.take (k+1)) bz=(o || bo) from hst.out)
       cases o <;> (
        go_wp2
        go_roundw
        case rel=>exact⟨k+1,by omega,by go_num,by rw [hs2.out];rfl,hBA.out⟩
        case measure=>first | (simp [intOf];done) | (simp [intOf];omega))
      case neg=>
       have h5b:(op == 5)=false:=by simpa using h5
       have h5d:decide (op=5)=false:=decide_eq_false h5
       by_cases h7:op=7
       case pos=>
        subst h7
        have hs2:=hid (show logV 7 (l'.take (k+1)) bz=(o != bo) from hst.out)
        go_wp2
        go_roundw
        case rel=>exact⟨k+1,by omega,by go_num,by rw [hs2.out];rfl,hBA.out⟩
        case measure=>first | (simp [intOf];done) | (simp [intOf];omega)
       case neg=>
        have h7b:(op == 7)=false:=by simpa using h7
        have h7d:decide (op=7)=false:=decide_eq_false h7
        have hs2:=hid (show logV op (l'.take (k+1)) bz=o from by rw [hst.out];unfold logS;rw [if_neg h4,if_neg h5,if_neg h7])
        go_wp2
        go_roundw
        case rel=>exact⟨k+1,by omega,by go_num,by rw [hs2.out],hBA.out⟩
        case measure=>first | (simp [intOf];done) | (simp [intOf];omega)
end
end Go.Proofs.YtgoojkiccdjplaaGreatDoor
