/-
  Parts of this claim's texts, one behind the other: UM UO UP FW. No condition.
-/
import Derived.Test.YtgoojkiccdjplaaGreatDoorN24
import Derived.Test.YtgoojkiccdjplaaGreatDoorN31
import Derived.Test.YtgoojkiccdjplaaGreatDoorN32
import Derived.Test.YtgoojkiccdjplaaGreatDoorN28
import Derived.Test.YtgoojkiccdjplaaGreatDoorN29
set_option linter.unusedVariables false
set_option linter.unusedSimpArgs false
set_option maxRecDepth 100000
set_option maxHeartbeats 16000000
namespace Go.Proofs.YtgoojkiccdjplaaGreatDoor
open Go.RowKit Go.Sort Go.Lib
abbrev NoX:Nat→Prop:=fun _=>False
theorem app_call {w0 w:World} {p:Nat} {T:TermD} {X:Nat→Prop} (hE:EnvT w0) (h:St w0 p { T with X:=X } w) (hG:TermG T) (nm:ByteArray) (hn:nm.size≤1000000) :
  Calls Tryz.prog 33 #[.pointer (some ⟨p,0,none⟩),.int .i64 12,.string nm,.agg #[.bool false,.slice none 0 0,.slice none 0 0],.slice none 0 0] w fun e w'=>
   e = .returned (.tuple #[.int .i64 (makeD T 12 nm noRat []).1.1,.int .i64 (makeD T 12 nm noRat []).1.2])∧St w0 p { (makeD T 12 nm noRat []).2 with X:=X } w'∧TStep p w w':=by
 have hm:=make_any w0.heap.size p { T with X:=X } 12 nm noRat [] none none none 0 0 0 w h.t (hG.ok.sm.X X) (h.env hE) (app_args w nm hn)
 unfold MakePost at hm
 rw [makeD_X] at hm
 refine hm.mono ?_
 rintro e w' ⟨rfl,t,s⟩
 exact⟨rfl,h.step t s,s⟩
theorem g_A0:TermG A0:=⟨ok_A0,fun x hx=>(by cases hx)⟩
theorem okI_n {x:Int} (h:0≤x∧x≤100):okI x:=⟨by omega,by omega⟩
theorem val_call {w0 w:World} {p:Nat} {T:TermD} {X:Nat→Prop} (hE:EnvT w0) (h:St w0 p { T with X:=X } w) (hG:TermG T) {S:Nat→Prop} (val:RatD) (a b:Option Addr) (c d:Nat) (h1:SlR Rep.u64 S w a val.num.length val.num) (h2:SlR Rep.u64 S w b val.den.length val.den) (hc:val.num.length≤c∧c≤maxLen) (hd:val.den.length≤d∧d≤maxLen) (hs:smallR val) :
  Calls Tryz.prog 33 #[.pointer (some ⟨p,0,none⟩),.int .i64 11,.string ⟨#[]⟩,ratV val a c b d,.slice none 0 0] w fun e w'=>
   e = .returned (.tuple #[.int .i64 (makeD T 11 ⟨#[]⟩ val []).1.1,.int .i64 (makeD T 11 ⟨#[]⟩ val []).1.2])∧St w0 p { (makeD T 11 ⟨#[]⟩ val []).2 with X:=X } w'∧TStep p w w':=by
 have hm:=make_any w0.heap.size p { T with X:=X } 11 ⟨#[]⟩ val [] a b none c d 0 w h.t (hG.ok.sm.X X) (h.env hE) ⟨h1.mono fun _ _ _=>trivial,h2.mono fun _ _ _=>trivial,SlR.nil _ _ _ _,hc,hd,⟨Nat.le_refl _,Nat.zero_le _⟩,hs.1,by decide,⟨by decide,by decide⟩,fun _=>hs.2⟩
 unfold MakePost at hm
 rw [makeD_X] at hm
 refine hm.mono ?_
 rintro e w' ⟨rfl,t,s⟩
 exact⟨rfl,h.step t s,s⟩
theorem app1_call {w0 w:World} {p:Nat} {T:TermD} {X:Nat→Prop} (hE:EnvT w0) (h:St w0 p { T with X:=X } w) (hG:TermG T) (nm:ByteArray) (hn:nm.size≤1000000) (a:Int) (ha:okI a) :
  Calls Tryz.prog 33 #[.pointer (some ⟨p,0,none⟩),.int .i64 12,.string nm,.agg #[.bool false,.slice none 0 0,.slice none 0 0],.slice (some ⟨w.heap.size,0,none⟩) 1 1] (w.alloc (.cells #[.int .i64 a] 3)) fun e w'=>
   e = .returned (.tuple #[.int .i64 (makeD T 12 nm noRat [a]).1.1,.int .i64 (makeD T 12 nm noRat [a]).1.2])∧St w0 p { (makeD T 12 nm noRat [a]).2 with X:=X } w'∧TStep p w w':=by
 have hl:=h.lit (.cells #[.int .i64 a] 3)
 have hm:=make_any w0.heap.size p { T with X:=X } 12 nm noRat [a] none none (some ⟨w.heap.size,0,none⟩) 0 0 1 _ hl.t (hG.ok.sm.X X) (hl.env hE) ⟨SlR.nil _ _ _ _,SlR.nil _ _ _ _,lit_dat w [a] (by intro x hx;rw [List.mem_singleton.1 hx];exact ha),⟨Nat.le_refl _,Nat.zero_le _⟩,⟨Nat.le_refl _,Nat.zero_le _⟩,⟨Nat.le_refl _,(by show 1≤maxLen;decide)⟩,by decide,hn,⟨by decide,by decide⟩,fun e=>by cases e⟩
 unfold MakePost at hm
 rw [makeD_X] at hm
 refine hm.mono ?_
 rintro e w' ⟨rfl,t,s⟩
 exact⟨rfl,hl.step t s,(TStep.of_below h.t.plt ((Below.refl _ _).alloc (Nat.le_refl _) _)).trans s⟩
theorem mk_add2:mk2 B2 13 0 1=((2,0),B3):=mk_add
theorem g_A1:TermG A1:=by have:=(g_A0.make 12 (nm:=sx) (val:=noRat) [] (by decide) (by decide) (by decide)).g;rw [mk_x] at this;exact this
theorem g_B2:TermG B2:=by have:=(g_A1.make 11 (nm:=⟨#[]⟩) (val:=r11) [] (by decide) (by decide) (by decide)).g;rw [mk_one] at this;exact this
theorem g_B3:TermG B3:=by have:=(g_B2.make 13 (nm:=⟨#[]⟩) (val:=noRat) [0,1] (by decide) (by decide) (by decide)).g;rw [mk_add] at this;exact this
theorem g_B4:TermG B4:=by have:=(g_B3.make 12 (nm:=sf) (val:=noRat) [2] (by decide) (by decide) (by decide)).g;rw [mk_f] at this;exact this
theorem ar_B4:ArT B4:=fun x hx=>by
 have e:B4.nodes = [nX,nOne,nAdd,nApp]:=rfl
 rw [e] at hx
 simp only [List.mem_cons,List.not_mem_nil,or_false] at hx
 rcases hx with rfl | rfl | rfl | rfl <;> exact⟨by decide,by decide⟩
theorem ValS.top {S:Nat→Prop} {w:World} {v:ValD} {a b:Option Addr} {c d:Nat} (h:ValS S w v a c b d):ValS (fun _=>True) w v a c b d:=h.mono fun _ _ _=>trivial
theorem one_V {w:World} {g:Nat} {v:ValD} {a b:Option Addr} {c d:Nat} (h:w.heap[g]? = some (.cells #[.int .i64 v.sort,.bool v.bool,.bool v.num.neg,.slice a v.num.num.length c,.slice b v.num.den.length d,.int .i64 v.el] 64 (0,0))) (V:ValS (fun _=>True) w v a c b d):SlR repV (fun _=>True) w (some ⟨g,0,none⟩) 1 [v]:=
 SlR.ofCss (css:=[valC v a c b d]) (xs:=[v]) h trivial rfl fun j x hx=>by
  match j with
  | 0=>cases hx;exact⟨_,rfl,repV_rd.2 ⟨_,_,_,_,rfl,V⟩⟩
  | j+1=>simp at hx
theorem m10_S {w : World} {mt mr mv : Nat} {a0 b0 a2 b2 a3 b3 a7 b7 : Option Addr} {c0 d0 c2 d2 c3 d3 c7 d7 : Nat}
    (ht : w.heap[mt]? = some (.cells #[.string ⟨#[120]⟩, .slice none 0 0, .int .i64 (numV 2 1).sort, .bool (numV 2 1).bool, .bool (numV 2 1).num.neg, .slice a2 (numV 2 1).num.num.length c2, .slice b2 (numV 2 1).num.den.length d2, .int .i64 (numV 2 1).el, .string ⟨#[102]⟩, .slice (some ⟨mr, 0, none⟩) 1 1, .int .i64 (numV 0 1).sort, .bool (numV 0 1).bool, .bool (numV 0 1).num.neg, .slice a0 (numV 0 1).num.num.length c0, .slice b0 (numV 0 1).num.den.length d0, .int .i64 (numV 0 1).el] 67 (0, 0)))
    (hr : w.heap[mr]? = some (.cells #[.slice (some ⟨mv, 0, none⟩) 1 1, .int .i64 (numV 7 1).sort, .bool (numV 7 1).bool, .bool (numV 7 1).num.neg, .slice a7 (numV 7 1).num.num.length c7, .slice b7 (numV 7 1).num.den.length d7, .int .i64 (numV 7 1).el] 80 (0, 0)))
    (hv : w.heap[mv]? = some (.cells #[.int .i64 (numV 3 1).sort, .bool (numV 3 1).bool, .bool (numV 3 1).num.neg, .slice a3 (numV 3 1).num.num.length c3, .slice b3 (numV 3 1).num.den.length d3, .int .i64 (numV 3 1).el] 64 (0, 0)))
    (V0 : ValS (fun _ => True) w (numV 0 1) a0 c0 b0 d0) (V2 : ValS (fun _ => True) w (numV 2 1) a2 c2 b2 d2) (V3 : ValS (fun _ => True) w (numV 3 1) a3 c3 b3 d3) (V7 : ValS (fun _ => True) w (numV 7 1) a7 c7 b7 d7) :
    ModS (fun _ => True) w m10 (some ⟨mt, 0, none⟩) 2 := by
  have hR : SlR repRow (fun _ => True) w (some ⟨mr, 0, none⟩) 1 [⟨[numV 3 1], numV 7 1⟩] :=
    SlR.ofCss (css := [rowC ⟨[numV 3 1], numV 7 1⟩ (some ⟨mv, 0, none⟩) 1 a7 c7 b7 d7]) (xs := [(⟨[numV 3 1], numV 7 1⟩ : RowD)]) hr trivial rfl fun j x hx => by
      match j with
      | 0 =>
        cases hx
        refine ⟨_, rfl, repRow_rd.2 ⟨_, _, _, _, _, _, rfl, ⟨?_, ⟨by decide, by decide⟩, V7⟩⟩⟩
        exact SlR.ofCss (css := [valC (numV 3 1) a3 c3 b3 d3]) (xs := [numV 3 1]) hv trivial rfl fun j x hx => by
          match j with
          | 0 => cases hx; exact ⟨_, rfl, repV_rd.2 ⟨_, _, _, _, rfl, V3⟩⟩
          | j + 1 => simp at hx
      | j + 1 => simp at hx
  refine ⟨SlR.ofCss (css := [tbC tX10 none 0 a2 c2 b2 d2, tbC tF10 (some ⟨mr, 0, none⟩) 1 a0 c0 b0 d0]) (xs := m10) ht trivial rfl fun j x hx => ?_, ⟨by decide, by decide⟩⟩
  match j with
  | 0 => cases hx; exact ⟨_, rfl, repTb_rd.2 ⟨_, _, _, _, _, _, rfl, ⟨SlR.nil _ _ _ _, ⟨Nat.le_refl _, Nat.zero_le _⟩, V2⟩⟩⟩
  | 1 => cases hx; exact ⟨_, rfl, repTb_rd.2 ⟨_, _, _, _, _, _, rfl, ⟨hR, ⟨by decide, by decide⟩, V0⟩⟩⟩
  | j + 2 => simp [m10] at hx
theorem awake10_any (w:World) (hE:EnvT w):Calls Tryz.prog 31 #[] w fun e w'=>e = .returned (.bool true)∧Below w.heap.size w w':=by
 have hE':=hid hE
 have htb:=hid (tables10_any w hE.env)
 clear hE
 go_enter Tryz.func31,Tryz.ntmps31
 go_wp2_with fail
 refine htb.out.mono ?_;rintro e w1 ⟨p,r,rfl,t1,b1⟩
 have I1:=hid (show St w p { A0 with X:=NoX } w1 from⟨t1,b1⟩)
 have h1:=app_call hE'.out I1.out g_A0 sx (by decide)
 rw [mk_x] at h1
 have h1':=hid h1
 clear t1 b1 htb h1
 go_wp2_with fail
 refine h1'.out.mono ?_;rintro e w2 ⟨rfl,i2,_⟩
 have I2:=hid i2
 have h2:=rof_any 1 1 ⟨by decide,by decide⟩ (by decide) ⟨by decide,by decide⟩ w2
 rw [ofR_11] at h2
 have h2':=hid h2
 clear i2 h1' h2 I1
 go_wp2_with fail
 refine h2'.out.mono ?_;rintro e w3 ⟨a3,c3,b3,d3,rfl,s3,t3,l3,l3',hb3⟩
 have I3:=hid (I2.out.all hb3)
 have h3:=val_call hE'.out I3.out g_A1 r11 a3 b3 c3 d3 s3 t3 l3 l3' ⟨by decide,by decide⟩
 rw [mk_one] at h3
 have h3':=hid h3
 clear h2' h3 I2 s3 t3 l3 l3' hb3
 go_wp2_with fail
 refine h3'.out.mono ?_;rintro e w4 ⟨rfl,i4,_⟩
 have I4:=hid i4
 have h4:=mk2_call hE'.out I4.out g_B2 13 0 1 (okI_n (by decide)) (by decide) (okI_n (by decide)) (okI_n (by decide))
 rw [mk_add2] at h4
 have h4':=hid h4
 clear i4 h3' h4 I3
 go_wp2_with fail
 refine h4'.out.mono ?_;rintro e w5 ⟨rfl,i5,_⟩
 have I5:=hid i5
 have h5:=app1_call hE'.out I5.out g_B3 sf (by decide) 2 (okI_n (by decide))
 rw [mk_f] at h5
 have h5':=hid h5
 clear i5 h4' h5 I4
 go_wp2_with fail
 refine h5'.out.mono ?_;rintro e w6 ⟨rfl,i6,_⟩
 have I6:=hid i6
 have h6:=hid (number10_any 2 1 ⟨by decide,by decide⟩ (by decide) ⟨by decide,by decide⟩ w6)
 clear i6 h5' I5
 go_wp2_with fail
 refine h6.out.mono ?_;rintro e w7 ⟨a2,c2,b2,d2,rfl,V2,hb7⟩
 have I7:=hid (I6.out.all hb7)
 have V2':=hid V2.top
 have h7:=hid (number10_any 3 1 ⟨by decide,by decide⟩ (by decide) ⟨by decide,by decide⟩ w7)
 clear V2 hb7 h6 I6
 go_wp2_with fail
 refine h7.out.mono ?_;rintro e w8 ⟨a3,c3,b3,d3,rfl,V3,hb8⟩
 have I8:=hid (I7.out.all hb8)
 have V2:=hid (V2'.out.below hb8 (Nat.le_refl _))
 have V3':=hid V3.top
 clear V2' V3 hb8 h7 I7
 have b9:=hid (show Below w8.heap.size w8 (w8.alloc (.cells (valC (numV 3 1) a3 c3 b3 d3).toArray 64)) from(Below.refl _ _).alloc (Nat.le_refl _) _)
 have X9:=hid (heap_alloc_new w8 (.cells (valC (numV 3 1) a3 c3 b3 d3).toArray 64))
 unfold valC at b9 X9
 go_wp2_with fail
 generalize (w8.alloc (.cells #[.int .i64 (numV 3 1).sort,.bool (numV 3 1).bool,.bool (numV 3 1).num.neg,.slice a3 (numV 3 1).num.num.length c3,.slice b3 (numV 3 1).num.den.length d3,.int .i64 (numV 3 1).el] 64))=w9 at *
 have h9:=hid (number10_any 7 1 ⟨by decide,by decide⟩ (by decide) ⟨by decide,by decide⟩ w9)
 refine h9.out.mono ?_;rintro e wa ⟨a7,c7,b7,d7,rfl,V7,hba⟩
 have Ia:=hid ((I8.out.all b9.out).all hba)
 have V2a:=hid ((V2.out.below b9.out (Nat.le_refl _)).below hba (Nat.le_refl _))
 have V3a:=hid ((V3'.out.below b9.out (Nat.le_refl _)).below hba (Nat.le_refl _))
 have V7a:=hid V7.top
 have Xa:=hid ((hba.block _ (Array.getElem?_eq_some_iff.1 X9.out).1).trans X9.out)
 have bb:=hid (show Below wa.heap.size wa (wa.alloc (.cells #[.slice (some ⟨w8.heap.size,0,none⟩) 1 1,.int .i64 (numV 7 1).sort,.bool (numV 7 1).bool,.bool (numV 7 1).num.neg,.slice a7 (numV 7 1).num.num.length c7,.slice b7 (numV 7 1).num.den.length d7,.int .i64 (numV 7 1).el] 80)) from(Below.refl _ _).alloc (Nat.le_refl _) _)
 have Xr:=hid (heap_alloc_new wa (.cells #[.slice (some ⟨w8.heap.size,0,none⟩) 1 1,.int .i64 (numV 7 1).sort,.bool (numV 7 1).bool,.bool (numV 7 1).num.neg,.slice a7 (numV 7 1).num.num.length c7,.slice b7 (numV 7 1).num.den.length d7,.int .i64 (numV 7 1).el] 80))
 clear V2 V3' V7 hba h9 I8 X9 b9
 go_wp2_with fail
 generalize (wa.alloc (.cells #[.slice (some ⟨w8.heap.size,0,none⟩) 1 1,.int .i64 (numV 7 1).sort,.bool (numV 7 1).bool,.bool (numV 7 1).num.neg,.slice a7 (numV 7 1).num.num.length c7,.slice b7 (numV 7 1).num.den.length d7,.int .i64 (numV 7 1).el] 80))=wb at *
 have hb:=hid (number10_any 0 1 ⟨by decide,by decide⟩ (by decide) ⟨by decide,by decide⟩ wb)
 refine hb.out.mono ?_;rintro e wc ⟨a0,c0,b0,d0,rfl,V0,hbc⟩
 have Ic:=hid ((Ia.out.all bb.out).all hbc)
 have V2c:=hid ((V2a.out.below bb.out (Nat.le_refl _)).below hbc (Nat.le_refl _))
 have V3c:=hid ((V3a.out.below bb.out (Nat.le_refl _)).below hbc (Nat.le_refl _))
 have V7c:=hid ((V7a.out.below bb.out (Nat.le_refl _)).below hbc (Nat.le_refl _))
 have V0c:=hid V0.top
 have Xac:=hid ((hbc.block _ (Nat.lt_of_lt_of_le (Array.getElem?_eq_some_iff.1 Xa.out).1 bb.out.size)).trans ((bb.out.block _ (Array.getElem?_eq_some_iff.1 Xa.out).1).trans Xa.out))
 have Xrc:=hid ((hbc.block _ (Array.getElem?_eq_some_iff.1 Xr.out).1).trans Xr.out)
 clear V2a V3a V7a V0 hbc hb Ia Xa bb Xr
 have bd:=hid (below2 wc (.cells #[.string ⟨#[120]⟩,.slice none 0 0,.int .i64 (numV 2 1).sort,.bool (numV 2 1).bool,.bool (numV 2 1).num.neg,.slice a2 (numV 2 1).num.num.length c2,.slice b2 (numV 2 1).num.den.length d2,.int .i64 (numV 2 1).el,.string ⟨#[102]⟩,.slice (some ⟨wa.heap.size,0,none⟩) 1 1,.int .i64 (numV 0 1).sort,.bool (numV 0 1).bool,.bool (numV 0 1).num.neg,.slice a0 (numV 0 1).num.num.length c0,.slice b0 (numV 0 1).num.den.length d0,.int .i64 (numV 0 1).el] 67) (.cells #[.slice (some ⟨wc.heap.size,0,none⟩) 2 2] 71))
 have Xt:=hid (heap2a wc (.cells #[.string ⟨#[120]⟩,.slice none 0 0,.int .i64 (numV 2 1).sort,.bool (numV 2 1).bool,.bool (numV 2 1).num.neg,.slice a2 (numV 2 1).num.num.length c2,.slice b2 (numV 2 1).num.den.length d2,.int .i64 (numV 2 1).el,.string ⟨#[102]⟩,.slice (some ⟨wa.heap.size,0,none⟩) 1 1,.int .i64 (numV 0 1).sort,.bool (numV 0 1).bool,.bool (numV 0 1).num.neg,.slice a0 (numV 0 1).num.num.length c0,.slice b0 (numV 0 1).num.den.length d0,.int .i64 (numV 0 1).el] 67) (.cells #[.slice (some ⟨wc.heap.size,0,none⟩) 2 2] 71))
 have Xm:=hid (heap2b wc (.cells #[.string ⟨#[120]⟩,.slice none 0 0,.int .i64 (numV 2 1).sort,.bool (numV 2 1).bool,.bool (numV 2 1).num.neg,.slice a2 (numV 2 1).num.num.length c2,.slice b2 (numV 2 1).num.den.length d2,.int .i64 (numV 2 1).el,.string ⟨#[102]⟩,.slice (some ⟨wa.heap.size,0,none⟩) 1 1,.int .i64 (numV 0 1).sort,.bool (numV 0 1).bool,.bool (numV 0 1).num.neg,.slice a0 (numV 0 1).num.num.length c0,.slice b0 (numV 0 1).num.den.length d0,.int .i64 (numV 0 1).el] 67) (.cells #[.slice (some ⟨wc.heap.size,0,none⟩) 2 2] 71))
 go_wp2_with fail
 generalize ((wc.alloc (.cells #[.string ⟨#[120]⟩,.slice none 0 0,.int .i64 (numV 2 1).sort,.bool (numV 2 1).bool,.bool (numV 2 1).num.neg,.slice a2 (numV 2 1).num.num.length c2,.slice b2 (numV 2 1).num.den.length d2,.int .i64 (numV 2 1).el,.string ⟨#[102]⟩,.slice (some ⟨wa.heap.size,0,none⟩) 1 1,.int .i64 (numV 0 1).sort,.bool (numV 0 1).bool,.bool (numV 0 1).num.neg,.slice a0 (numV 0 1).num.num.length c0,.slice b0 (numV 0 1).num.den.length d0,.int .i64 (numV 0 1).el] 67)).alloc (.cells #[.slice (some ⟨wc.heap.size,0,none⟩) 2 2] 71))=wd at *
 have Id:=hid (Ic.out.all bd.out)
 have Md:=hid (m10_S Xt.out ((bd.out.block _ (Array.getElem?_eq_some_iff.1 Xrc.out).1).trans Xrc.out) ((bd.out.block _ (Array.getElem?_eq_some_iff.1 Xac.out).1).trans Xac.out) (V0c.out.below bd.out (Nat.le_refl _)) (V2c.out.below bd.out (Nat.le_refl _)) (V3c.out.below bd.out (Nat.le_refl _)) (V7c.out.below bd.out (Nat.le_refl _)))
 clear V2c V3c V7c V0c Xac Xrc Ic bd Xt
 generalize wc.heap.size+1=pm at *
 generalize wc.heap.size=mt at *
 have hd:=meval_any w.heap.size p B4 m10 (some ⟨mt,0,none⟩) 2 3 wd Id.out.t g_B4 ar_B4 Md.out m10_small (okI_n (by decide))
 rw [eval_1] at hd
 have hd':=hid hd
 clear hd
 refine hd'.out.mono ?_;rintro e we ⟨ae,ce,be,de,rfl,Ve,hbe⟩
 have Ie:=hid (Id.out.all hbe)
 have Me:=hid (show ModS (fun _=>True) we m10 (some ⟨mt,0,none⟩) 2 from⟨Md.out.tbs.below hbe (Nat.le_refl _),Md.out.cap⟩)
 have Xme:=hid ((hbe.block _ (Array.getElem?_eq_some_iff.1 Xm.out).1).trans Xm.out)
 have Ve':=hid Ve.top
 have bf:=hid (show Below we.heap.size we (we.alloc (.cells #[.int .i64 (numV 7 1).sort,.bool (numV 7 1).bool,.bool (numV 7 1).num.neg,.slice ae (numV 7 1).num.num.length ce,.slice be (numV 7 1).num.den.length de,.int .i64 (numV 7 1).el] 64)) from(Below.refl _ _).alloc (Nat.le_refl _) _)
 have Xv:=hid (heap_alloc_new we (.cells #[.int .i64 (numV 7 1).sort,.bool (numV 7 1).bool,.bool (numV 7 1).num.neg,.slice ae (numV 7 1).num.num.length ce,.slice be (numV 7 1).num.den.length de,.int .i64 (numV 7 1).el] 64))
 clear Id Md Xm Ve hbe hd'
 go_wp2_with fail
 generalize (we.alloc (.cells #[.int .i64 (numV 7 1).sort,.bool (numV 7 1).bool,.bool (numV 7 1).num.neg,.slice ae (numV 7 1).num.num.length ce,.slice be (numV 7 1).num.den.length de,.int .i64 (numV 7 1).el] 64))=wf at *
 have hf:=meval_any (S:=fun _=>True) w.heap.size p B4 [] none 0 0 wf (Ie.out.all bf.out).t g_B4 ar_B4 ⟨SlR.nil _ _ _ _,⟨Nat.le_refl _,Nat.zero_le _⟩⟩ ⟨fun t ht=>(by cases ht),by decide⟩ (okI_n (by decide))
 rw [eval_2] at hf
 have hf':=hid hf
 clear hf
 refine hf'.out.mono ?_;rintro e wg ⟨ag,cg,bg,dg,rfl,Vg,hbg⟩
 have Ig:=hid ((Ie.out.all bf.out).all hbg)
 have Mg:=hid (show ModS (fun _=>True) wg m10 (some ⟨mt,0,none⟩) 2 from⟨(Me.out.tbs.below bf.out (Nat.le_refl _)).below hbg (Nat.le_refl _),Me.out.cap⟩)
 have Xmg:=hid ((hbg.block _ (Nat.lt_of_lt_of_le (Array.getElem?_eq_some_iff.1 Xme.out).1 bf.out.size)).trans ((bf.out.block _ (Array.getElem?_eq_some_iff.1 Xme.out).1).trans Xme.out))
 have Vgg:=hid ((Ve'.out.below bf.out (Nat.le_refl _)).below hbg (Nat.le_refl _))
 have Xvg:=hid ((hbg.block _ (Array.getElem?_eq_some_iff.1 Xv.out).1).trans Xv.out)
 clear Ie Me Xme Ve' Vg hbg hf' bf Xv
 generalize we.heap.size=pv at *
 have bh:=hid (show Below wg.heap.size wg (wg.alloc (.cells #[.int .i64 (noVal).sort,.bool (noVal).bool,.bool (noVal).num.neg,.slice ag (noVal).num.num.length cg,.slice bg (noVal).num.den.length dg,.int .i64 (noVal).el] 64)) from(Below.refl _ _).alloc (Nat.le_refl _) _)
 have qm:(wg.alloc (.cells #[.int .i64 (noVal).sort,.bool (noVal).bool,.bool (noVal).num.neg,.slice ag (noVal).num.num.length cg,.slice bg (noVal).num.den.length dg,.int .i64 (noVal).el] 64)).cell? ⟨pm,0,none⟩=some (.slice (some ⟨mt,0,none⟩) 2 2):=keep_cell bh.out (cell_p Xmg.out 0)
 go_wp2_with fail
 generalize (wg.alloc (.cells #[.int .i64 (noVal).sort,.bool (noVal).bool,.bool (noVal).num.neg,.slice ag (noVal).num.num.length cg,.slice bg (noVal).num.den.length dg,.int .i64 (noVal).el] 64))=wh at *
 have hh:=meval_any w.heap.size p B4 m10 (some ⟨mt,0,none⟩) 2 99 wh (Ig.out.all bh.out).t g_B4 ar_B4 ⟨Mg.out.tbs.below bh.out (Nat.le_refl _),Mg.out.cap⟩ m10_small (okI_n (by decide))
 rw [eval_3] at hh
 have hh':=hid hh
 clear hh qm
 refine hh'.out.mono ?_;rintro e wi ⟨ai,ci,bi,di,rfl,Vi,hbi⟩
 have Bi:=bh.out.trans (hbi.mono bh.out.size)
 have Ii:=hid (Ig.out.all Bi)
 have Mi:=hid (show ModS (fun _=>True) wi m10 (some ⟨mt,0,none⟩) 2 from⟨Mg.out.tbs.below Bi (Nat.le_refl _),Mg.out.cap⟩)
 have Xmi:=hid ((Bi.block _ (Array.getElem?_eq_some_iff.1 Xmg.out).1).trans Xmg.out)
 have Vgi:=hid (Vgg.out.below Bi (Nat.le_refl _))
 have Xvi:=hid ((Bi.block _ (Array.getElem?_eq_some_iff.1 Xvg.out).1).trans Xvg.out)
 clear Ig Mg Xmg Vgg Xvg Vi Bi hbi hh' bh
 have bj:=hid (show Below wi.heap.size wi (wi.alloc (.cells #[.int .i64 (noVal).sort,.bool (noVal).bool,.bool (noVal).num.neg,.slice ai (noVal).num.num.length ci,.slice bi (noVal).num.den.length di,.int .i64 (noVal).el] 64)) from(Below.refl _ _).alloc (Nat.le_refl _) _)
 have qm:(wi.alloc (.cells #[.int .i64 (noVal).sort,.bool (noVal).bool,.bool (noVal).num.neg,.slice ai (noVal).num.num.length ci,.slice bi (noVal).num.den.length di,.int .i64 (noVal).el] 64)).cell? ⟨pm,0,none⟩=some (.slice (some ⟨mt,0,none⟩) 2 2):=keep_cell bj.out (cell_p Xmi.out 0)
 go_wp2_with fail
 generalize (wi.alloc (.cells #[.int .i64 (noVal).sort,.bool (noVal).bool,.bool (noVal).num.neg,.slice ai (noVal).num.num.length ci,.slice bi (noVal).num.den.length di,.int .i64 (noVal).el] 64))=wj at *
 have hj:=mfind_any m10 (some ⟨mt,0,none⟩) 2 sf wj ⟨Mi.out.tbs.below bj.out (Nat.le_refl _),Mi.out.cap⟩ m10_small
 rw [find_f] at hj
 have hj':=hid hj
 clear hj qm
 refine hj'.out.mono ?_;rintro e wk ⟨ra,rc,ak,ck,bk,dk,rfl,Tk,hbk⟩
 have Bk:=bj.out.trans (hbk.mono bj.out.size)
 have Ik:=hid (Ii.out.all Bk)
 have Vgk:=hid (Vgi.out.below Bk (Nat.le_refl _))
 have Xvk:=hid ((Bk.block _ (Array.getElem?_eq_some_iff.1 Xvi.out).1).trans Xvi.out)
 have Tk':=hid (show TbS (fun _=>True) wk tF10 ra rc ak ck bk dk from⟨Tk.rows.mono fun _ _ _=>trivial,Tk.rcc,Tk.els.top⟩)
 clear Ii Mi Xmi Vgi Xvi Tk Bk hbk hj' bj
 have bl:=hid (show Below wk.heap.size wk (wk.alloc (.cells #[.string tF10.name,.slice ra tF10.rows.length rc,.int .i64 (tF10.els).sort,.bool (tF10.els).bool,.bool (tF10.els).num.neg,.slice ak (tF10.els).num.num.length ck,.slice bk (tF10.els).num.den.length dk,.int .i64 (tF10.els).el] 67)) from(Below.refl _ _).alloc (Nat.le_refl _) _)
 have Xl:=hid (heap_alloc_new wk (.cells #[.string tF10.name,.slice ra tF10.rows.length rc,.int .i64 (tF10.els).sort,.bool (tF10.els).bool,.bool (tF10.els).num.neg,.slice ak (tF10.els).num.num.length ck,.slice bk (tF10.els).num.den.length dk,.int .i64 (tF10.els).el] 67))
 go_upto_region 13 with fail
 generalize (wk.alloc (.cells #[.string tF10.name,.slice ra tF10.rows.length rc,.int .i64 (tF10.els).sort,.bool (tF10.els).bool,.bool (tF10.els).num.neg,.slice ak (tF10.els).num.num.length ck,.slice bk (tF10.els).num.den.length dk,.int .i64 (tF10.els).el] 67))=w0 at *
 have hB:=hid (Ik.out.all bl.out).b
 have VG:=hid (Vgk.out.below bl.out (Nat.le_refl _))
 have TT:=hid (TbS.below Tk'.out bl.out (Nat.le_refl _))
 have xv:=(bl.out.block _ (Array.getElem?_eq_some_iff.1 Xvk.out).1).trans Xvk.out
 have y0:=cell_p xv 0
 have y1:=cell_p xv 1
 have y2:=cell_p xv 2
 have y3:=cell_p xv 3
 have y4:=cell_p xv 4
 have y5:=cell_p xv 5
 have u0:=cell_p Xl.out 0
 have u1:=cell_p Xl.out 1
 have u2:=cell_p Xl.out 2
 have u3:=cell_p Xl.out 3
 have u4:=cell_p Xl.out 4
 have u5:=cell_p Xl.out 5
 have u6:=cell_p Xl.out 6
 have u7:=cell_p Xl.out 7
 simp only [List.getElem?_toArray,List.getElem?_cons_succ,List.getElem?_cons_zero] at y0 y1 y2 y3 y4 y5 u0 u1 u2 u3 u4 u5 u6 u7
 clear xv Xvk Vgk Tk' Xl bl Ik
 refine wp_region_tt (S:=fun W=>Below w0.heap.size w0 W) 58 (by kernel_rfl) (by kernel_rfl) (keep_drew w0) (fun hdr=>?_)
 have BB:=hid (keep_drew w0)
 have VG:=hid (VG.out.below (keep_drew w0) (Nat.le_refl _))
 have TT:=hid (TbS.below TT.out (keep_drew w0) (Nat.le_refl _))
 clear hdr
 generalize w0.drew=wc at *
 refine tk (i:=0) (h:=?_)
 (try simp only [Act.put,sA,sB,sC])
 refine tk (i:=1) (h:=?_)
 (try simp only [Act.put,sA,sB,sC])
 refine tk (i:=2) (h:=?_)
 (try simp only [Act.put,sA,sB,sC])
 refine tk (i:=3) (h:=?_)
 (try simp only [Act.put,sA,sB,sC])
 refine tk (i:=4) (h:=?_)
 (try simp only [Act.put,sA,sB,sC])
 refine tk (i:=5) (h:=?_)
 (try simp only [Act.put,sA,sB,sC])
 refine tk (i:=6) (h:=?_)
 (try simp only [Act.put,sA,sB,sC])
 refine tk (i:=7) (h:=?_)
 (try simp only [Act.put,sA,sB,sC])
 refine tk (i:=8) (h:=?_)
 (try simp only [Act.put,sA,sB,sC])
 refine tk (i:=9) (h:=?_)
 (try simp only [Act.put,sA,sB,sC])
 refine tk (i:=10) (h:=?_)
 (try simp only [Act.put,sA,sB,sC])
 refine tk (i:=11) (h:=?_)
 (try simp only [Act.put,sA,sB,sC])
 refine tk (i:=12) (h:=?_)
 (try simp only [Act.put,sA,sB,sC])
 refine tk (i:=13) (h:=?_)
 (try simp only [Act.put,sA,sB,sC])
 refine tk (i:=14) (h:=?_)
 (try simp only [Act.put,sA,sB,sC])
 refine tk (i:=15) (h:=?_)
 (try simp only [Act.put,sA,sB,sC])
 refine tk (i:=16) (h:=?_)
 (try simp only [Act.put,sA,sB,sC])
 refine tk (i:=17) (h:=?_)
 (try simp only [Act.put,sA,sB,sC])
 refine tk (i:=18) (h:=?_)
 (try simp only [Act.put,sA,sB,sC])
 refine tk (i:=19) (hy:=(by first | exact Or.inl ⟨by rfl,by(intro W hSw;have hq0:=keep_cell hSw y0;have hq1:=keep_cell hSw y1;have hq2:=keep_cell hSw y2;have hq3:=keep_cell hSw y3;have hq4:=keep_cell hSw y4;have hq5:=keep_cell hSw y5;go_simp <;> with_reducible rfl)⟩ | exact Or.inr ⟨by rfl,rfl⟩)) (h:=?_)
 (try simp only [Act.put,sA,sB,sC])
 refine tt_ready (rs:=[20]) (by decide +kernel) (allT_cons (by rfl) (fun K hK=>?_) allT_nil)
 have hnn:=hid (number10_any 7 1 ⟨by decide,by decide⟩ (by decide) ⟨by decide,by decide⟩ wc)
 go_simp
 go_at_call 34
 refine hnn.out.mono ?_
 rintro ee wn ⟨paa,pac,pab,pad,rfl,VN,bn⟩
 have VZ:=hid VN.top
 clear VN hnn
 have BB:=hid (BB.out.trans (bn.mono BB.out.size))
 (try have VG:=hid (VG.out.below bn (Nat.le_refl _)))
 (try have TT:=hid (TbS.below TT.out bn (Nat.le_refl _)))
 (try have VA:=hid (VA.out.below bn (Nat.le_refl _)))
 (try have VB:=hid (VB.out.below bn (Nat.le_refl _)))
 (try have VC:=hid (VC.out.below bn (Nat.le_refl _)))
 (try have XB:=hid ((bn.block _ (Array.getElem?_eq_some_iff.1 XB.out).1).trans XB.out))
 clear bn
 obtain ⟨wc,rfl⟩:∃W,W=wn:=⟨_,rfl⟩
 (try dsimp only)
 have VA:=VZ
 clear VZ
 refine hK.out _ _ (by(exact BB.out)) (fun hHeld2=>?_)
 clear hK K
 (try simp only [Act.put,sA,sB,sC])
 refine tt_ready (rs:=[21]) (by decide +kernel) (allT_cons (by rfl) (fun K hK=>?_) allT_nil)
 have hss:=same10_any (numV 7 1) (numV 7 1) ae be paa pab ce de pac pad wc VG.out VA.out (small_numV (by decide) (by decide) (by decide)) (small_numV (by decide) (by decide) (by decide))
 rw [fullV_refl] at hss
 have hs':=hid hss
 clear hss
 go_simp
 go_at_call 36
 refine hs'.out.mono ?_
 rintro ee wn ⟨rfl,bn⟩
 clear hs'
 have BB:=hid (BB.out.trans (bn.mono BB.out.size))
 (try have VG:=hid (VG.out.below bn (Nat.le_refl _)))
 (try have TT:=hid (TbS.below TT.out bn (Nat.le_refl _)))
 (try have VA:=hid (VA.out.below bn (Nat.le_refl _)))
 (try have VB:=hid (VB.out.below bn (Nat.le_refl _)))
 (try have VC:=hid (VC.out.below bn (Nat.le_refl _)))
 (try have XB:=hid ((bn.block _ (Array.getElem?_eq_some_iff.1 XB.out).1).trans XB.out))
 clear bn
 obtain ⟨wc,rfl⟩:∃W,W=wn:=⟨_,rfl⟩
 (try dsimp only)
 refine hK.out _ _ (by(exact BB.out)) (fun hHeld3=>?_)
 clear hK K
 (try simp only [Act.put,sA,sB,sC])
 refine tk (i:=22) (h:=?_)
 (try simp only [Act.put,sA,sB,sC])
 refine tk (i:=23) (h:=?_)
 (try simp only [Act.put,sA,sB,sC])
 refine tk (i:=24) (h:=?_)
 (try simp only [Act.put,sA,sB,sC])
 refine tk (i:=25) (h:=?_)
 (try simp only [Act.put,sA,sB,sC])
 refine tk (i:=26) (h:=?_)
 (try simp only [Act.put,sA,sB,sC])
 refine tk (i:=27) (h:=?_)
 (try simp only [Act.put,sA,sB,sC])
 refine tk (i:=28) (h:=?_)
 (try simp only [Act.put,sA,sB,sC])
 refine tk (i:=29) (h:=?_)
 (try simp only [Act.put,sA,sB,sC])
 refine tk (i:=30) (h:=?_)
 (try simp only [Act.put,sA,sB,sC])
 refine tk (i:=31) (h:=?_)
 (try simp only [Act.put,sA,sB,sC])
 refine tk (i:=32) (h:=?_)
 (try simp only [Act.put,sA,sB,sC])
 refine tk (i:=33) (h:=?_)
 (try simp only [Act.put,sA,sB,sC])
 refine tk (i:=34) (h:=?_)
 (try simp only [Act.put,sA,sB,sC])
 refine tk (i:=35) (hy:=(by first | exact Or.inl ⟨by rfl,by(intro W hSw;have hq0:=keep_cell hSw u0;have hq1:=keep_cell hSw u1;have hq2:=keep_cell hSw u2;have hq3:=keep_cell hSw u3;have hq4:=keep_cell hSw u4;have hq5:=keep_cell hSw u5;have hq6:=keep_cell hSw u6;have hq7:=keep_cell hSw u7;go_simp <;> with_reducible rfl)⟩ | exact Or.inr ⟨by rfl,rfl⟩)) (h:=?_)
 (try simp only [Act.put,sA,sB,sC])
 refine tt_ready (rs:=[36]) (by decide +kernel) (allT_cons (by rfl) (fun K hK=>?_) allT_nil)
 have hnn:=hid (number10_any 1 1 ⟨by decide,by decide⟩ (by decide) ⟨by decide,by decide⟩ wc)
 go_simp
 go_at_call 34
 refine hnn.out.mono ?_
 rintro ee wn ⟨pba,pbc,pbb,pbd,rfl,VN,bn⟩
 have VZ:=hid VN.top
 clear VN hnn
 have BB:=hid (BB.out.trans (bn.mono BB.out.size))
 (try have VG:=hid (VG.out.below bn (Nat.le_refl _)))
 (try have TT:=hid (TbS.below TT.out bn (Nat.le_refl _)))
 (try have VA:=hid (VA.out.below bn (Nat.le_refl _)))
 (try have VB:=hid (VB.out.below bn (Nat.le_refl _)))
 (try have VC:=hid (VC.out.below bn (Nat.le_refl _)))
 (try have XB:=hid ((bn.block _ (Array.getElem?_eq_some_iff.1 XB.out).1).trans XB.out))
 clear bn
 obtain ⟨wc,rfl⟩:∃W,W=wn:=⟨_,rfl⟩
 (try dsimp only)
 have VB:=VZ
 clear VZ
 refine hK.out _ _ (by(exact BB.out)) (fun hHeld4=>?_)
 clear hK K
 (try simp only [Act.put,sA,sB,sC])
 refine tt_ready (rs:=[37]) (by decide +kernel) (allT_cons (by rfl) (fun K hK=>?_) allT_nil)
 go_simp
 have bn:Below wc.heap.size wc (wc.alloc (.cells #[.int .i64 (numV 1 1).sort,.bool (numV 1 1).bool,.bool (numV 1 1).num.neg,.slice pba (numV 1 1).num.num.length pbc,.slice pbb (numV 1 1).num.den.length pbd,.int .i64 (numV 1 1).el] 64)):=(Below.refl _ _).alloc (Nat.le_refl _) _
 have XN:=hid (heap_alloc_new wc (.cells #[.int .i64 (numV 1 1).sort,.bool (numV 1 1).bool,.bool (numV 1 1).num.neg,.slice pba (numV 1 1).num.num.length pbc,.slice pbb (numV 1 1).num.den.length pbd,.int .i64 (numV 1 1).el] 64))
 generalize hwn:wc.alloc (.cells #[.int .i64 (numV 1 1).sort,.bool (numV 1 1).bool,.bool (numV 1 1).num.neg,.slice pba (numV 1 1).num.num.length pbc,.slice pbb (numV 1 1).num.den.length pbd,.int .i64 (numV 1 1).el] 64)=wn at *
 clear hwn
 have BB:=hid (BB.out.trans (bn.mono BB.out.size))
 (try have VG:=hid (VG.out.below bn (Nat.le_refl _)))
 (try have TT:=hid (TbS.below TT.out bn (Nat.le_refl _)))
 (try have VA:=hid (VA.out.below bn (Nat.le_refl _)))
 (try have VB:=hid (VB.out.below bn (Nat.le_refl _)))
 (try have VC:=hid (VC.out.below bn (Nat.le_refl _)))
 (try have XB:=hid ((bn.block _ (Array.getElem?_eq_some_iff.1 XB.out).1).trans XB.out))
 clear bn
 generalize wc.heap.size=pI at *
 obtain ⟨wc,rfl⟩:∃W,W=wn:=⟨_,rfl⟩
 (try dsimp only)
 have XB:=XN
 clear XN
 refine hK.out _ _ (by(exact BB.out)) (fun hHeld5=>?_)
 clear hK K
 (try simp only [Act.put,sA,sB,sC])
 refine tt_ready (rs:=[38]) (by decide +kernel) (allT_cons (by rfl) (fun K hK=>?_) allT_nil)
 have hap:=mapply_any tF10 ra rc ak ck bk dk (some ⟨pI,0,none⟩) 1 1 [numV 1 1] wc TT.out (one_V XB.out VB.out) (m10_small.1 _ (by simp [m10])) (by decide)
 rw [apply_1] at hap
 have hap':=hid hap
 clear hap
 go_simp
 go_at_call 38
 refine hap'.out.mono ?_
 rintro ee wn ⟨xaa,xac,xab,xad,rfl,VN,bn⟩
 have VZ:=hid VN.top
 clear VN hap' VB XB
 have BB:=hid (BB.out.trans (bn.mono BB.out.size))
 (try have VG:=hid (VG.out.below bn (Nat.le_refl _)))
 (try have TT:=hid (TbS.below TT.out bn (Nat.le_refl _)))
 (try have VA:=hid (VA.out.below bn (Nat.le_refl _)))
 (try have VB:=hid (VB.out.below bn (Nat.le_refl _)))
 (try have VC:=hid (VC.out.below bn (Nat.le_refl _)))
 (try have XB:=hid ((bn.block _ (Array.getElem?_eq_some_iff.1 XB.out).1).trans XB.out))
 clear bn
 obtain ⟨wc,rfl⟩:∃W,W=wn:=⟨_,rfl⟩
 (try dsimp only)
 have VA:=VZ
 clear VZ
 refine hK.out _ _ (by(exact BB.out)) (fun hHeld6=>?_)
 clear hK K
 (try simp only [Act.put,sA,sB,sC])
 refine tt_ready (rs:=[39]) (by decide +kernel) (allT_cons (by rfl) (fun K hK=>?_) allT_nil)
 have hnn:=hid (number10_any 0 1 ⟨by decide,by decide⟩ (by decide) ⟨by decide,by decide⟩ wc)
 go_simp
 go_at_call 34
 refine hnn.out.mono ?_
 rintro ee wn ⟨pca,pcc,pcb,pcd,rfl,VN,bn⟩
 have VZ:=hid VN.top
 clear VN hnn
 have BB:=hid (BB.out.trans (bn.mono BB.out.size))
 (try have VG:=hid (VG.out.below bn (Nat.le_refl _)))
 (try have TT:=hid (TbS.below TT.out bn (Nat.le_refl _)))
 (try have VA:=hid (VA.out.below bn (Nat.le_refl _)))
 (try have VB:=hid (VB.out.below bn (Nat.le_refl _)))
 (try have VC:=hid (VC.out.below bn (Nat.le_refl _)))
 (try have XB:=hid ((bn.block _ (Array.getElem?_eq_some_iff.1 XB.out).1).trans XB.out))
 clear bn
 obtain ⟨wc,rfl⟩:∃W,W=wn:=⟨_,rfl⟩
 (try dsimp only)
 have VB:=VZ
 clear VZ
 refine hK.out _ _ (by(exact BB.out)) (fun hHeld7=>?_)
 clear hK K
 (try simp only [Act.put,sA,sB,sC])
 refine tt_ready (rs:=[40]) (by decide +kernel) (allT_cons (by rfl) (fun K hK=>?_) allT_nil)
 have hss:=same10_any (numV 0 1) (numV 0 1) xaa xab pca pcb xac xad pcc pcd wc VA.out VB.out (small_numV (by decide) (by decide) (by decide)) (small_numV (by decide) (by decide) (by decide))
 rw [fullV_refl] at hss
 have hs':=hid hss
 clear hss
 go_simp
 go_at_call 36
 refine hs'.out.mono ?_
 rintro ee wn ⟨rfl,bn⟩
 clear hs'
 have BB:=hid (BB.out.trans (bn.mono BB.out.size))
 (try have VG:=hid (VG.out.below bn (Nat.le_refl _)))
 (try have TT:=hid (TbS.below TT.out bn (Nat.le_refl _)))
 (try have VA:=hid (VA.out.below bn (Nat.le_refl _)))
 (try have VB:=hid (VB.out.below bn (Nat.le_refl _)))
 (try have VC:=hid (VC.out.below bn (Nat.le_refl _)))
 (try have XB:=hid ((bn.block _ (Array.getElem?_eq_some_iff.1 XB.out).1).trans XB.out))
 clear bn
 obtain ⟨wc,rfl⟩:∃W,W=wn:=⟨_,rfl⟩
 (try dsimp only)
 refine hK.out _ _ (by(exact BB.out)) (fun hHeld8=>?_)
 clear hK K
 (try simp only [Act.put,sA,sB,sC])
 refine tk (i:=41) (h:=?_)
 (try simp only [Act.put,sA,sB,sC])
 refine tk (i:=42) (h:=?_)
 (try simp only [Act.put,sA,sB,sC])
 refine tt_ready (rs:=[43]) (by decide +kernel) (allT_cons (by rfl) (fun K hK=>?_) allT_nil)
 have hzz:=mzero_any 1 ⟨by decide,by decide⟩ wc
 rw [zero_1] at hzz
 have hz':=hid hzz
 clear hzz
 go_simp
 go_at_call 48
 refine hz'.out.mono ?_
 rintro ee wn ⟨za,zc,zb,zd,rfl,VN,bn⟩
 have VZ:=hid VN.top
 clear VN hz'
 have BB:=hid (BB.out.trans (bn.mono BB.out.size))
 (try have VG:=hid (VG.out.below bn (Nat.le_refl _)))
 (try have TT:=hid (TbS.below TT.out bn (Nat.le_refl _)))
 (try have VA:=hid (VA.out.below bn (Nat.le_refl _)))
 (try have VB:=hid (VB.out.below bn (Nat.le_refl _)))
 (try have VC:=hid (VC.out.below bn (Nat.le_refl _)))
 (try have XB:=hid ((bn.block _ (Array.getElem?_eq_some_iff.1 XB.out).1).trans XB.out))
 clear bn
 obtain ⟨wc,rfl⟩:∃W,W=wn:=⟨_,rfl⟩
 (try dsimp only)
 have VA:=VZ
 clear VZ
 refine hK.out _ _ (by(exact BB.out)) (fun hHeld9=>?_)
 clear hK K
 (try simp only [Act.put,sA,sB,sC])
 refine tt_ready (rs:=[44]) (by decide +kernel) (allT_cons (by rfl) (fun K hK=>?_) allT_nil)
 have hnn:=hid (number10_any 0 1 ⟨by decide,by decide⟩ (by decide) ⟨by decide,by decide⟩ wc)
 go_simp
 go_at_call 34
 refine hnn.out.mono ?_
 rintro ee wn ⟨pda,pdc,pdb,pdd,rfl,VN,bn⟩
 have VZ:=hid VN.top
 clear VN hnn
 have BB:=hid (BB.out.trans (bn.mono BB.out.size))
 (try have VG:=hid (VG.out.below bn (Nat.le_refl _)))
 (try have TT:=hid (TbS.below TT.out bn (Nat.le_refl _)))
 (try have VA:=hid (VA.out.below bn (Nat.le_refl _)))
 (try have VB:=hid (VB.out.below bn (Nat.le_refl _)))
 (try have VC:=hid (VC.out.below bn (Nat.le_refl _)))
 (try have XB:=hid ((bn.block _ (Array.getElem?_eq_some_iff.1 XB.out).1).trans XB.out))
 clear bn
 obtain ⟨wc,rfl⟩:∃W,W=wn:=⟨_,rfl⟩
 (try dsimp only)
 have VB:=VZ
 clear VZ
 refine hK.out _ _ (by(exact BB.out)) (fun hHeld10=>?_)
 clear hK K
 (try simp only [Act.put,sA,sB,sC])
 refine tt_ready (rs:=[45]) (by decide +kernel) (allT_cons (by rfl) (fun K hK=>?_) allT_nil)
 have hss:=same10_any (numV 0 1) (numV 0 1) za zb pda pdb zc zd pdc pdd wc VA.out VB.out (small_numV (by decide) (by decide) (by decide)) (small_numV (by decide) (by decide) (by decide))
 rw [fullV_refl] at hss
 have hs':=hid hss
 clear hss
 go_simp
 go_at_call 36
 refine hs'.out.mono ?_
 rintro ee wn ⟨rfl,bn⟩
 clear hs'
 have BB:=hid (BB.out.trans (bn.mono BB.out.size))
 (try have VG:=hid (VG.out.below bn (Nat.le_refl _)))
 (try have TT:=hid (TbS.below TT.out bn (Nat.le_refl _)))
 (try have VA:=hid (VA.out.below bn (Nat.le_refl _)))
 (try have VB:=hid (VB.out.below bn (Nat.le_refl _)))
 (try have VC:=hid (VC.out.below bn (Nat.le_refl _)))
 (try have XB:=hid ((bn.block _ (Array.getElem?_eq_some_iff.1 XB.out).1).trans XB.out))
 clear bn
 obtain ⟨wc,rfl⟩:∃W,W=wn:=⟨_,rfl⟩
 (try dsimp only)
 refine hK.out _ _ (by(exact BB.out)) (fun hHeld11=>?_)
 clear hK K
 (try simp only [Act.put,sA,sB,sC])
 refine tk (i:=46) (h:=?_)
 (try simp only [Act.put,sA,sB,sC])
 refine tk (i:=47) (h:=?_)
 (try simp only [Act.put,sA,sB,sC])
 refine tt_ready (rs:=[48]) (by decide +kernel) (allT_cons (by rfl) (fun K hK=>?_) allT_nil)
 have hnn:=hid (number10_any 1 2 ⟨by decide,by decide⟩ (by decide) ⟨by decide,by decide⟩ wc)
 go_simp
 go_at_call 34
 refine hnn.out.mono ?_
 rintro ee wn ⟨pea,pec,peb,ped,rfl,VN,bn⟩
 have VZ:=hid VN.top
 clear VN hnn
 have BB:=hid (BB.out.trans (bn.mono BB.out.size))
 (try have VG:=hid (VG.out.below bn (Nat.le_refl _)))
 (try have TT:=hid (TbS.below TT.out bn (Nat.le_refl _)))
 (try have VA:=hid (VA.out.below bn (Nat.le_refl _)))
 (try have VB:=hid (VB.out.below bn (Nat.le_refl _)))
 (try have VC:=hid (VC.out.below bn (Nat.le_refl _)))
 (try have XB:=hid ((bn.block _ (Array.getElem?_eq_some_iff.1 XB.out).1).trans XB.out))
 clear bn
 obtain ⟨wc,rfl⟩:∃W,W=wn:=⟨_,rfl⟩
 (try dsimp only)
 have VA:=VZ
 clear VZ
 refine hK.out _ _ (by(exact BB.out)) (fun hHeld12=>?_)
 clear hK K
 (try simp only [Act.put,sA,sB,sC])
 refine tt_ready (rs:=[49]) (by decide +kernel) (allT_cons (by rfl) (fun K hK=>?_) allT_nil)
 have hnn:=hid (number10_any 1 2 ⟨by decide,by decide⟩ (by decide) ⟨by decide,by decide⟩ wc)
 go_simp
 go_at_call 34
 refine hnn.out.mono ?_
 rintro ee wn ⟨pfa,pfc,pfb,pfd,rfl,VN,bn⟩
 have VZ:=hid VN.top
 clear VN hnn
 have BB:=hid (BB.out.trans (bn.mono BB.out.size))
 (try have VG:=hid (VG.out.below bn (Nat.le_refl _)))
 (try have TT:=hid (TbS.below TT.out bn (Nat.le_refl _)))
 (try have VA:=hid (VA.out.below bn (Nat.le_refl _)))
 (try have VB:=hid (VB.out.below bn (Nat.le_refl _)))
 (try have VC:=hid (VC.out.below bn (Nat.le_refl _)))
 (try have XB:=hid ((bn.block _ (Array.getElem?_eq_some_iff.1 XB.out).1).trans XB.out))
 clear bn
 obtain ⟨wc,rfl⟩:∃W,W=wn:=⟨_,rfl⟩
 (try dsimp only)
 have VB:=VZ
 clear VZ
 refine hK.out _ _ (by(exact BB.out)) (fun hHeld13=>?_)
 clear hK K
 (try simp only [Act.put,sA,sB,sC])
 refine tt_ready (rs:=[50]) (by decide +kernel) (allT_cons (by rfl) (fun K hK=>?_) allT_nil)
 have hss:=msame_any (numV 1 2) (numV 1 2) pea peb pfa pfb pec ped pfc pfd wc VA.out VB.out (small_numV (n:=1) (d:=2) (by decide) (by decide) (by decide)).1 (small_numV (n:=1) (d:=2) (by decide) (by decide) (by decide)).2
 rw [sameV_refl] at hss
 have hs':=hid hss
 clear hss
 go_simp
 go_at_call 43
 refine hs'.out.mono ?_
 rintro ee wn ⟨rfl,bn⟩
 clear hs'
 have BB:=hid (BB.out.trans (bn.mono BB.out.size))
 (try have VG:=hid (VG.out.below bn (Nat.le_refl _)))
 (try have TT:=hid (TbS.below TT.out bn (Nat.le_refl _)))
 (try have VA:=hid (VA.out.below bn (Nat.le_refl _)))
 (try have VB:=hid (VB.out.below bn (Nat.le_refl _)))
 (try have VC:=hid (VC.out.below bn (Nat.le_refl _)))
 (try have XB:=hid ((bn.block _ (Array.getElem?_eq_some_iff.1 XB.out).1).trans XB.out))
 clear bn
 obtain ⟨wc,rfl⟩:∃W,W=wn:=⟨_,rfl⟩
 (try dsimp only)
 refine hK.out _ _ (by(exact BB.out)) (fun hHeld14=>?_)
 clear hK K
 (try simp only [Act.put,sA,sB,sC])
 refine tk (i:=51) (h:=?_)
 (try simp only [Act.put,sA,sB,sC])
 refine tk (i:=52) (h:=?_)
 (try simp only [Act.put,sA,sB,sC])
 refine tk (i:=54) (h:=?_)
 (try simp only [Act.put,sA,sB,sC])
 refine tt_ready (rs:=[53]) (by decide +kernel) (allT_cons (by rfl) (fun K hK=>?_) allT_nil)
 have hnn:=hid (number10_any 1 2 ⟨by decide,by decide⟩ (by decide) ⟨by decide,by decide⟩ wc)
 go_simp
 go_at_call 34
 refine hnn.out.mono ?_
 rintro ee wn ⟨pga,pgc,pgb,pgd,rfl,VN,bn⟩
 have VZ:=hid VN.top
 clear VN hnn
 have BB:=hid (BB.out.trans (bn.mono BB.out.size))
 (try have VG:=hid (VG.out.below bn (Nat.le_refl _)))
 (try have TT:=hid (TbS.below TT.out bn (Nat.le_refl _)))
 (try have VA:=hid (VA.out.below bn (Nat.le_refl _)))
 (try have VB:=hid (VB.out.below bn (Nat.le_refl _)))
 (try have VC:=hid (VC.out.below bn (Nat.le_refl _)))
 (try have XB:=hid ((bn.block _ (Array.getElem?_eq_some_iff.1 XB.out).1).trans XB.out))
 clear bn
 obtain ⟨wc,rfl⟩:∃W,W=wn:=⟨_,rfl⟩
 (try dsimp only)
 have VA:=VZ
 clear VZ
 refine hK.out _ _ (by(exact BB.out)) (fun hHeld15=>?_)
 clear hK K
 (try simp only [Act.put,sA,sB,sC])
 refine tt_ready (rs:=[55]) (by decide +kernel) (allT_cons (by rfl) (fun K hK=>?_) allT_nil)
 have hss:=msame_any (numV 1 2) ⟨3,false,noRat,0⟩ pga pgb none none pgc pgd 0 0 wc VA.out ⟨(show okI 3 from⟨by decide,by decide⟩),(show okI 0 from⟨by decide,by decide⟩),SlR.nil _ (fun _=>True) _ _,⟨Nat.le_refl _,Nat.zero_le _⟩,SlR.nil _ _ _ _,⟨Nat.le_refl _,Nat.zero_le _⟩⟩ (small_numV (n:=1) (d:=2) (by decide) (by decide) (by decide)).1 (small_numV (n:=1) (d:=2) (by decide) (by decide) (by decide)).2
 rw [same_12] at hss
 have hs':=hid hss
 clear hss
 go_simp
 go_at_call 43
 refine hs'.out.mono ?_
 rintro ee wn ⟨rfl,bn⟩
 clear hs'
 have BB:=hid (BB.out.trans (bn.mono BB.out.size))
 (try have VG:=hid (VG.out.below bn (Nat.le_refl _)))
 (try have TT:=hid (TbS.below TT.out bn (Nat.le_refl _)))
 (try have VA:=hid (VA.out.below bn (Nat.le_refl _)))
 (try have VB:=hid (VB.out.below bn (Nat.le_refl _)))
 (try have VC:=hid (VC.out.below bn (Nat.le_refl _)))
 (try have XB:=hid ((bn.block _ (Array.getElem?_eq_some_iff.1 XB.out).1).trans XB.out))
 clear bn
 obtain ⟨wc,rfl⟩:∃W,W=wn:=⟨_,rfl⟩
 (try dsimp only)
 refine hK.out _ _ (by(exact BB.out)) (fun hHeld16=>?_)
 clear hK K
 (try simp only [Act.put,sA,sB,sC])
 refine tk (i:=56) (h:=?_)
 (try simp only [Act.put,sA,sB,sC])
 refine tk (i:=57) (h:=?_)
 (try simp only [Act.put,sA,sB,sC])
 refine tt_tail (by decide +kernel) ?_
 simp only [List.drop_succ_cons,List.drop_zero]
 go_wp2
 go_ret
 exact⟨rfl,hB.out.trans (BB.out.mono hB.out.size)⟩
end Go.Proofs.YtgoojkiccdjplaaGreatDoor
