/-
  Parts of this claim's texts, one behind the other: UO UP UQ UR US VA VE. No condition.
-/
import Derived.Test.YtgoojkiccdjplaaGreatDoorL30b
import Derived.Test.YtgoojkiccdjplaaGreatDoorL36
import Derived.Test.YtgoojkiccdjplaaGreatDoorL37
import Derived.Test.YtgoojkiccdjplaaGreatDoorL27
set_option linter.unusedVariables false
set_option linter.unusedSimpArgs false
set_option maxRecDepth 100000
set_option maxHeartbeats 16000000
namespace Go.Proofs.YtgoojkiccdjplaaGreatDoor
open Go.RowKit Go.Sort Go.Lib
def nP:NodeD:=⟨12,sp,noRat,[],0⟩
def nY:NodeD:=⟨12,sy,noRat,[],1⟩
def P1:TermD:=addN A0 nP
def P2:TermD:=addN P1 nX
def P3:TermD:=addN P2 nY
theorem sort_p:sortedD A0 12 sp []=(0,true):=by
 show callD A0 sp []=_
 rw [callD_data]
 decide +kernel
theorem sort_x1:sortedD P1 12 sx []=(1,true):=by
 show callD P1 sx []=_
 rw [callD_data]
 decide +kernel
theorem sort_y2:sortedD P2 12 sy []=(1,true):=by
 show callD P2 sy []=_
 rw [callD_data]
 decide +kernel
theorem mk_p:makeD A0 12 sp noRat []=((0,0),P1):=(make_put (by decide +kernel) (by decide +kernel) rfl sort_p).trans (put_addN rfl (by decide))
theorem mk_x1:makeD P1 12 sx noRat []=((1,0),P2):=(make_put (by decide +kernel) (by decide +kernel) rfl sort_x1).trans (put_addN (by decide +kernel) (by decide +kernel))
theorem mk_y2:makeD P2 12 sy noRat []=((2,0),P3):=(make_put (by decide +kernel) (by decide +kernel) rfl sort_y2).trans (put_addN (by decide +kernel) (by decide +kernel))
abbrev NoX:Nat→Prop:=fun _=>False
theorem inner_grow {op a : Int} : ∀ (l : List Int) {T : TermD} (_ : TermG T) (out : List Int), TermG (innerC T op a l out).2
  | [], _, h, _ => h
  | b :: l, T, h, out => by
    unfold innerC
    split
    · exact inner_grow l (pair_grow h op a b).1 _
    · exact (pair_grow h op a b).1
theorem outer_grow {op : Int} : ∀ (l : List Int) {T : TermD} (_ : TermG T) (out : List Int), TermG (outerC T op l out).2
  | [], _, h, _ => h
  | a :: l, T, h, out => by
    unfold outerC
    generalize (if op = 9 then l else l.take 1) = m
    split
    · exact outer_grow l (inner_grow _ h _) _
    · exact inner_grow _ h _
theorem chain_grow {T:TermD} (h:TermG T) (id:Int):TermG (chainD T id).2:=by
 unfold chainD
 split
 ·split
  ·exact h
  ·exact outer_grow _ h _
 ·exact h
theorem app_call {w0 w:World} {p:Nat} {T:TermD} {X:Nat→Prop} (hE:EnvT w0) (h:St w0 p { T with X:=X } w) (hG:TermG T) (nm:ByteArray) (hn:nm.size≤1000000) :
  Calls Tryz.prog 33 #[.pointer (some ⟨p,0,none⟩),.int .i64 12,.string nm,.agg #[.bool false,.slice none 0 0,.slice none 0 0],.slice none 0 0] w fun e w'=>
   e = .returned (.tuple #[.int .i64 (makeD T 12 nm noRat []).1.1,.int .i64 (makeD T 12 nm noRat []).1.2])∧St w0 p { (makeD T 12 nm noRat []).2 with X:=X } w'∧TStep p w w':=by
 have hm:=make_any w0.heap.size p { T with X:=X } 12 nm noRat [] none none none 0 0 0 w h.t (hG.ok.sm.X X) (h.env hE) (app_args w nm hn)
 unfold MakePost at hm
 rw [makeD_X] at hm
 refine hm.mono ?_
 rintro e w' ⟨rfl,t,s⟩
 exact⟨rfl,h.step t s,s⟩
def mk3 (T:TermD) (op a b c:Int):(Int × Int) × TermD:=makeD T op ⟨#[]⟩ noRat [a,b,c]
theorem mk3_grow {T:TermD} (h:TermG T) (op a b c:Int):TermG (mk3 T op a b c).2:=(h.make op (nm:=⟨#[]⟩) (val:=noRat) [a,b,c] (by decide) (by decide) (by decide)).g
theorem mk3_call {w0 w:World} {p:Nat} {T:TermD} {X:Nat→Prop} (hE:EnvT w0) (h:St w0 p { T with X:=X } w) (hG:TermG T) (op a b c:Int) (ho:okI op) (h11:op≠11) (ha:okI a) (hb:okI b) (hc:okI c) :
  Calls Tryz.prog 33 #[.pointer (some ⟨p,0,none⟩),.int .i64 op,.string ⟨#[]⟩,.agg #[.bool false,.slice none 0 0,.slice none 0 0],.slice (some ⟨w.heap.size,0,none⟩) 3 3] (w.alloc (.cells #[.int .i64 a,.int .i64 b,.int .i64 c] 3)) fun e w'=>
   e = .returned (.tuple #[.int .i64 (mk3 T op a b c).1.1,.int .i64 (mk3 T op a b c).1.2])∧St w0 p { (mk3 T op a b c).2 with X:=X } w'∧TStep p w w':=by
 have hl:=h.lit (.cells #[.int .i64 a,.int .i64 b,.int .i64 c] 3)
 have hm:=make_any w0.heap.size p { T with X:=X } op ⟨#[]⟩ noRat [a,b,c] none none (some ⟨w.heap.size,0,none⟩) 0 0 3 _ hl.t (hG.ok.sm.X X) (hl.env hE) (lit_args w op [a,b,c] ho (by intro x hx;simp at hx;rcases hx with rfl | rfl | rfl <;> assumption) (by show 3≤maxLen;decide) h11)
 unfold MakePost at hm
 rw [makeD_X] at hm
 refine hm.mono ?_
 rintro e w' ⟨rfl,t,s⟩
 exact⟨rfl,hl.step t s,(TStep.of_below h.t.plt ((Below.refl _ _).alloc (Nat.le_refl _) _)).trans s⟩
def W4:TermD:=(mk3 P3 10 0 1 2).2
def W5:TermD:=(mk2 W4 8 3 1).2
def W6:TermD:=(mk3 W5 9 1 2 3).2
def W7:TermD:=(allLift W6 [4]).2
def W8:TermD:=(chainD W7 5).2
theorem w4_v:(mk3 P3 10 0 1 2).1=(3,0):=by decide +kernel
theorem w5_v:(mk2 W4 8 3 1).1=(4,0):=by decide +kernel
theorem w6_v:(mk3 W5 9 1 2 3).1=(5,0):=by decide +kernel
theorem w7_v:(allLift W6 [4]).1.2.2=0∧(allLift W6 [4]).1.1.length=1∧(allLift W6 [4]).1.2.1.length=2:=by decide +kernel
theorem w8_v:(chainD W7 5).1.2=0∧(chainD W7 5).1.1.length=3:=by decide +kernel
theorem w9_v:boolsT W8 [1]=false:=by decide +kernel
theorem w9_b:allLift W8 [1]=(([],[],1),W8):=by unfold allLift;rw [w9_v];rfl
theorem w10_v:(chainD W8 4).1=([4],0):=by decide +kernel
theorem w_len:5<W7.nodes.length∧4<W8.nodes.length∧W6.fresh≤1000000000∧W8.fresh≤1000000000:=by decide +kernel
theorem g_A0:TermG A0:=⟨ok_A0,fun x hx=>(by cases hx)⟩
theorem g_P1:TermG P1:=by have:=(g_A0.make 12 (nm:=sp) (val:=noRat) [] (by decide) (by decide) (by decide)).g;rw [mk_p] at this;exact this
theorem g_P2:TermG P2:=by have:=(g_P1.make 12 (nm:=sx) (val:=noRat) [] (by decide) (by decide) (by decide)).g;rw [mk_x1] at this;exact this
theorem g_P3:TermG P3:=by have:=(g_P2.make 12 (nm:=sy) (val:=noRat) [] (by decide) (by decide) (by decide)).g;rw [mk_y2] at this;exact this
theorem g_W4:TermG W4:=mk3_grow g_P3 _ _ _ _
theorem g_W5:TermG W5:=mk2_grow g_W4 _ _ _
theorem g_W6:TermG W6:=mk3_grow g_W5 _ _ _ _
theorem w4_e:mk3 P3 10 0 1 2=((3,0),W4):=Prod.ext w4_v rfl
theorem w5_e:mk2 W4 8 3 1=((4,0),W5):=Prod.ext w5_v rfl
theorem w6_e:mk3 W5 9 1 2 3=((5,0),W6):=Prod.ext w6_v rfl
theorem okI_n {x:Int} (h:0≤x∧x≤100):okI x:=⟨by omega,by omega⟩
theorem lit_free {w0 w:World} {p:Nat} {T:TermD} (h:St w0 p T w) (o:Obj):0<1→∀x,some (⟨w.heap.size,0,none⟩:Addr)=some x→x.block<(w.alloc o).heap.size∧¬ownT p (w.alloc o) x.block:=fun _ x e=>by
 injection e with e
 subst e
 exact⟨by simp,h.free o⟩
theorem awake16_any (w:World) (hE:EnvT w):Calls Tryz.prog 14 #[] w fun e w'=>e = .returned (.bool true)∧Below w.heap.size w w':=by
 have hE':=hid hE
 have htb:=hid (tables16_any w hE.env)
 clear hE
 go_enter Tryz.func14,Tryz.ntmps14
 go_wp2_with fail
 refine htb.out.mono ?_;rintro e w1 ⟨p,r,rfl,t1,b1⟩
 have I1:=hid (show St w p { A0 with X:=NoX } w1 from⟨t1,b1⟩)
 have h1:=app_call hE'.out I1.out g_A0 sp (by decide)
 rw [mk_p] at h1
 have h1':=hid h1
 clear t1 b1 htb h1
 go_wp2_with fail
 refine h1'.out.mono ?_;rintro e w2 ⟨rfl,i2,_⟩
 have I2:=hid i2
 have h2:=app_call hE'.out I2.out g_P1 sx (by decide)
 rw [mk_x1] at h2
 have h2':=hid h2
 clear i2 h1' h2 I1
 go_wp2_with fail
 refine h2'.out.mono ?_;rintro e w3 ⟨rfl,i3,_⟩
 have I3:=hid i3
 have h3:=app_call hE'.out I3.out g_P2 sy (by decide)
 rw [mk_y2] at h3
 have h3':=hid h3
 clear i3 h2' h3 I2
 go_wp2_with fail
 refine h3'.out.mono ?_;rintro e w4 ⟨rfl,i4,_⟩
 have I4:=hid i4
 have h4:=mk3_call hE'.out I4.out g_P3 10 0 1 2 (okI_n (by decide)) (by decide) (okI_n (by decide)) (okI_n (by decide)) (okI_n (by decide))
 rw [w4_e] at h4
 have h4':=hid h4
 clear i4 h3' h4 I3
 go_wp2_with fail
 refine h4'.out.mono ?_;rintro e w5 ⟨rfl,i5,_⟩
 have I5:=hid i5
 have h5:=mk2_call hE'.out I5.out g_W4 8 3 1 (okI_n (by decide)) (by decide) (okI_n (by decide)) (okI_n (by decide))
 rw [w5_e] at h5
 have h5':=hid h5
 clear i5 h4' h5 I4
 go_wp2_with fail
 refine h5'.out.mono ?_;rintro e w6 ⟨rfl,i6,_⟩
 have I6:=hid i6
 have h6:=mk3_call hE'.out I6.out g_W5 9 1 2 3 (okI_n (by decide)) (by decide) (okI_n (by decide)) (okI_n (by decide)) (okI_n (by decide))
 rw [w6_e] at h6
 have h6':=hid h6
 clear i6 h5' h6 I5
 go_wp2_with fail
 refine h6'.out.mono ?_;rintro e w7 ⟨rfl,i7,_⟩
 have I7:=hid i7
 have I7a:=I7.out.lit (.cells #[.int .i64 4] 3)
 have h7:=liftAll_any hE'.out p NoX W6 (some ⟨w7.heap.size,0,none⟩) 1 1 [4] (w7.alloc (.cells #[.int .i64 4] 3)) I7a g_W6 w_len.2.2.1 (RdI.lit [4] 3 w7 (by intro x hx;simp at hx;subst hx;exact⟨by decide,by decide⟩)) (lit_free I7.out _) (by decide)
 obtain ⟨v1,v2,v3⟩:=w7_v
 unfold AllPost at h7
 rw [v1,v2,v3] at h7
 have h7':=hid h7
 clear i7 h6' h7 I6 I7a v1 v2 v3
 go_wp2_with fail
 refine h7'.out.mono ?_;rintro e w8 ⟨a1,c1,a2,c2,rfl,_,_,_,i8,_,g8⟩
 have I8:=hid (show St w p { W7 with X:=NoX } w8 from i8)
 have G8:=hid (show TermG W7 from g8.g)
 have h8:=chain_any hE'.out p NoX W7 5 w8 I8.out G8.out w_len.1
 obtain ⟨v1,v2⟩:=w8_v
 rw [show((5:Nat):Int)=5 from rfl] at h8
 unfold ChoicePost at h8
 rw [v1,v2] at h8
 have h8':=hid h8
 have G9:=hid (show TermG W8 from chain_grow G8.out 5)
 clear i8 g8 h7' h8 I7 v1 v2
 go_wp2_with fail
 refine h8'.out.mono ?_;rintro e w9 ⟨a3,c3,rfl,_,i9,_⟩
 have I9:=hid (show St w p { W8 with X:=NoX } w9 from i9)
 have I9a:=I9.out.lit (.cells #[.int .i64 1] 3)
 have h9:=liftAll_any hE'.out p NoX W8 (some ⟨w9.heap.size,0,none⟩) 1 1 [1] (w9.alloc (.cells #[.int .i64 1] 3)) I9a G9.out w_len.2.2.2 (RdI.lit [1] 3 w9 (by intro x hx;simp at hx;subst hx;exact⟨by decide,by decide⟩)) (lit_free I9.out _) (by decide)
 unfold AllPost at h9
 rw [w9_b] at h9
 have h9':=hid h9
 clear i9 h8' h9 I8 I9a
 go_wp2_with fail
 refine h9'.out.mono ?_;rintro e w10 ⟨a4,c4,a5,c5,rfl,_,_,_,i10,_,_⟩
 have I10:=hid (show St w p { W8 with X:=NoX } w10 from i10)
 have h10:=chain_any hE'.out p NoX W8 4 w10 I10.out G9.out w_len.2.1
 rw [show((4:Nat):Int)=4 from rfl] at h10
 unfold ChoicePost at h10
 rw [w10_v] at h10
 have h10':=hid h10
 clear i10 h9' h10 I9
 go_wp2_with fail
 refine h10'.out.mono ?_;rintro e w11 ⟨a6,c6,rfl,o11,i11,_⟩
 have B11:=hid i11.b
 have hok4:∀x ∈ [(4:Int)],okI x:=by intro x hx;simp at hx;subst hx;exact okI_n (by decide)
 have R11:=OwnC.rdX (n:=1) (xs:=[4]) o11 hok4
 have hW:Below w11.heap.size w11 (w11.alloc (.cells #[.int .i64 4] 3)):=(Below.refl _ _).alloc (Nat.le_refl _) _
 have hii:=hid (ints_any a6 (some ⟨w11.heap.size,0,none⟩) 1 1 c6 1 [(4:Int)] [(4:Int)] _ (R11.below hW (Nat.le_refl _)) (RdI.lit [(4:Int)] 3 w11 hok4) (by decide))
 rw [show sameI [(4:Int)] [(4:Int)]=true from by decide] at hii
 have B12:=hid (B11.out.trans (hW.mono B11.out.size))
 clear h10' o11 i11 R11 hW hok4
 go_wp2_with fail
 refine hii.out.mono ?_;rintro e w12 ⟨rfl,q,hw12⟩
 have B13:=hid (show Below w.heap.size w w12 from by rw [hw12];exact B12.out.drewN q)
 clear hw12 hii
 go_wp2
 go_ret
 exact⟨rfl,B13.out⟩
end Go.Proofs.YtgoojkiccdjplaaGreatDoor
