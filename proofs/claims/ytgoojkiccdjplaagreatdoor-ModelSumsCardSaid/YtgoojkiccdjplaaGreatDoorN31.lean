/-
  Parts of this claim's texts, one behind the other: GG FP FR. No condition.
-/
import Derived.Test.YtgoojkiccdjplaaGreatDoorN30
import Derived.Test.YtgoojkiccdjplaaGreatDoorN24
import Derived.Test.YtgoojkiccdjplaaGreatDoorN28
set_option linter.unusedVariables false
set_option linter.unusedSimpArgs false
set_option maxRecDepth 100000
set_option maxHeartbeats 16000000
namespace Go.Proofs.YtgoojkiccdjplaaGreatDoor
open Go.RowKit Go.Sort Go.Lib
def nZ:bY:=⟨12,sz,dC,[],1⟩
def r23:cE:=⟨true,[2],[3]⟩
def nT:bY:=⟨11,⟨#[]⟩,r23,[],1⟩
def S2t:aR:=addN A1 nY
def S3t:aR:=addN S2t nZ
def S4t:aR:=addN S3t nT
def opS:Nat->Int
 | 0=>13
 | 1=>14
 | 2=>15
 | 3=>16
 | 4=>14
 | 5=>18
 | 6=>19
 | _=>9
def pZ:Nat->List Int
 | 2=>[3,0]
 | 3=>[0,3,3]
 | 4=>[0]
 | _=>[0,1,2]
def aNn:Nat->Int
 | 0=>1
 | 1=>1
 | 2=>1
 | 3=>1
 | 4=>1
 | _=>0
def nS (i:Nat):bY:=⟨opS i,⟨#[]⟩,dC,pZ i,aNn i⟩
def vK (i:Nat):aR:=addN S4t (nS i)
theorem aJy:aX A1 12 sy []=(1,true):=by
 show gF A1 sy []=_;rw [mL]
 decide +kernel
theorem aJz:aX S2t 12 sz []=(1,true):=by
 show gF S2t sz []=_;rw [mL]
 decide +kernel
theorem aMj:cD A1 12 sy dC []=((1,0),S2t):=(fE (by decide +kernel) (by decide +kernel) rfl aJy).trans (eH (by decide +kernel) (by decide +kernel))
theorem aMk:cD S2t 12 sz dC []=((2,0),S3t):=(fE (by decide +kernel) (by decide +kernel) rfl aJz).trans (eH (by decide +kernel) (by decide +kernel))
theorem aKe:cD S3t 11 ⟨#[]⟩ r23 []=((3,0),S4t):=(fE (s:=1) (by decide +kernel) (by decide +kernel) rfl rfl).trans (eH (by decide +kernel) (by decide +kernel))
theorem aMl (i:Nat) (h:i<8):cD S4t (opS i) ⟨#[]⟩ dC (pZ i)=((4,0),vK i):=by
 match i,h with
 | 0,_=>exact(fE (s:=1) (by decide +kernel) (by decide +kernel) (by decide +kernel) (by decide +kernel)).trans (eH (by decide +kernel) (by decide +kernel))
 | 1,_=>exact(fE (s:=1) (by decide +kernel) (by decide +kernel) (by decide +kernel) (by decide +kernel)).trans (eH (by decide +kernel) (by decide +kernel))
 | 2,_=>exact(fE (s:=1) (by decide +kernel) (by decide +kernel) (by decide +kernel) (by decide +kernel)).trans (eH (by decide +kernel) (by decide +kernel))
 | 3,_=>exact(fE (s:=1) (by decide +kernel) (by decide +kernel) (by decide +kernel) (by decide +kernel)).trans (eH (by decide +kernel) (by decide +kernel))
 | 4,_=>exact(fE (s:=1) (by decide +kernel) (by decide +kernel) (by decide +kernel) (by decide +kernel)).trans (eH (by decide +kernel) (by decide +kernel))
 | 5,_=>exact(fE (s:=0) (by decide +kernel) (by decide +kernel) (by decide +kernel) (by decide +kernel)).trans (eH (by decide +kernel) (by decide +kernel))
 | 6,_=>exact(fE (s:=0) (by decide +kernel) (by decide +kernel) (by decide +kernel) (by decide +kernel)).trans (eH (by decide +kernel) (by decide +kernel))
 | 7,_=>exact(fE (s:=0) (by decide +kernel) (by decide +kernel) (by decide +kernel) (by decide +kernel)).trans (eH (by decide +kernel) (by decide +kernel))
theorem sK {n:Nat} (h0:0<n) (h:n<18446744073709551616):aF n = [(n:Int)]:=by
 rw [eS h0,show aO=18446744073709551616 from rfl,Nat.mod_eq_of_lt h,Nat.div_eq_of_lt h,cB]
theorem aH8:gC (-2) 3=r23:=by
 show(⟨_,aF (2 / Nat.gcd 2 3),aF (3 / Nat.gcd 2 3)⟩:cE)=_;rw [show 2 / Nat.gcd 2 3=2 from by decide,show 3 / Nat.gcd 2 3=3 from by decide,sK (by decide) (by decide),sK (by decide) (by decide)];rfl
def mS (x y z:Int):iF:=[⟨sx,[],aH x 2⟩,⟨sy,[],aH y 2⟩,⟨sz,[],aH z 2⟩]
def gW (x y z:Int):Nat->bP
 | 0=>aH (x+y+z) 2
 | 1=>aH (x - y - z) 2
 | 2=>aH (-x) 3
 | 3=>aH (9 * x) 8
 | 4=>aH (-x) 2
 | 5=>eJ (decide (x<y) && decide (y<z))
 | 6=>eJ (decide (y<=x) && decide (z<=y))
 | _=>eJ (!decide (x=y) && !decide (y=z) && !decide (x=z))
theorem sZ (n:Int):gC n 2=kH (fK n 2):=iZ (d:=2) (by decide)
theorem sm2 {n:Int} (h:-1000000<=n/\n<=1000000):sY (fK n 2):=oX (d:=2) (by decide) h (by decide)
theorem aKf {x y:Int} (hx:-10000<=x/\x<=10000) (hy:-10000<=y/\y<=10000):jZ (gC x 2) (gC y 2)=(gC (x+y) 2,0):=by
 rw [sZ,sZ,sZ,uO (sm2 ⟨by omega,by omega⟩) (sm2 ⟨by omega,by omega⟩),aHy];exact jK (sm2 ⟨by omega,by omega⟩)
theorem aKg {x y:Int} (hx:-10000<=x/\x<=10000) (hy:-10000<=y/\y<=10000):pM (gC x 2) (gC y 2)=(gC (x - y) 2,0):=by
 rw [sZ,sZ,sZ,aHv (sm2 ⟨by omega,by omega⟩) (sm2 ⟨by omega,by omega⟩),aHz];exact jK (sm2 ⟨by omega,by omega⟩)
theorem aMm {x:Int} (hx:-10000<=x/\x<=10000):jS (gC x 2)=gC (-x) 2:=by
 rw [sZ,sZ,aA4 (sm2 ⟨by omega,by omega⟩),aH0]
theorem aIa:gC (-2) 3=kH (fK (-2) 3):=iZ (d:=3) (by decide)
theorem aLk:sY (fK (-2) 3):=oX (d:=3) (by decide) (by decide) (by decide)
theorem aMn {x:Int} (hx:-10000<=x/\x<=10000):nA (gC (-2) 3) (gC x 2)=(gC (-x) 3,0):=by
 rw [sZ,aIa,aHw aLk (sm2 ⟨by omega,by omega⟩),aH1,show gC (-x) 3=kH (fK (-x) 3) from iZ (d:=3) (by decide)];exact jK (oX (d:=3) (by decide) ⟨by omega,by omega⟩ (by decide))
theorem aMo:fK (-2) 3≠0:=by decide +kernel
theorem wU (x:Int):fK x 2 / fK (-2) 3=fK (-3 * x) 4:=by
 rw [fL,fL,fL,Rat.intCast_mul];show(x:Rat) / 2 / ((-2:Rat) / 3)=(-3:Rat) * x / 4;generalize (x:Rat)=q
 grind
theorem aE4 (x:Int):fK (-3 * x) 4 / fK (-2) 3=fK (9 * x) 8:=by rw [<-wU,aH2]
theorem aMp {x:Int} (hx:-10000<=x/\x<=10000):lO (gC x 2) (gC (-2) 3)=(gC (-3 * x) 4,0):=by
 rw [sZ,aIa,aA5 (sm2 ⟨by omega,by omega⟩) aLk aMo,wU,show gC (-3 * x) 4=kH (fK (-3 * x) 4) from iZ (d:=4) (by decide)];exact jK (oX (d:=4) (by decide) ⟨by omega,by omega⟩ (by decide))
theorem aMq {x:Int} (hx:-10000<=x/\x<=10000):lO (gC (-3 * x) 4) (gC (-2) 3)=(gC (9 * x) 8,0):=by
 rw [show gC (-3 * x) 4=kH (fK (-3 * x) 4) from iZ (d:=4) (by decide),aIa,aA5 (a:=fK (-3 * x) 4) (oX (d:=4) (by decide) ⟨by omega,by omega⟩ (by decide)) aLk aMo,aE4,show gC (9 * x) 8=kH (fK (9 * x) 8) from iZ (d:=8) (by decide)];exact jK (oX (d:=8) (by decide) ⟨by omega,by omega⟩ (by decide))
theorem aDm {x y:Int} (hx:-10000<=x/\x<=10000) (hy:-10000<=y/\y<=10000):kU (gC x 2) (gC y 2)=nP x y:=by
 rw [sZ,sZ,aHx (sm2 ⟨by omega,by omega⟩) (sm2 ⟨by omega,by omega⟩)];exact aJq (by decide)
theorem aKh (x y:Int):gG 18 (nP x y)=decide (x<y):=by
 unfold gG nP;by_cases h:x<y
 ·rw [if_pos h,if_pos (by decide),decide_eq_true h];rfl
 ·rw [if_neg h,decide_eq_false h];by_cases h2:x=y
  ·rw [if_pos h2];rfl
  ·rw [if_neg h2];rfl
theorem aKi (x y:Int):gG 19 (nP x y)=decide (y<=x):=by
 unfold gG nP;by_cases h:x<y
 ·rw [if_pos h,if_pos (by decide),decide_eq_false (show ¬y<=x by omega)];rfl
 ·rw [if_neg h,decide_eq_true (show y<=x by omega)];by_cases h2:x=y
  ·rw [if_pos h2];rfl
  ·rw [if_neg h2];rfl
def aLl (x y z:Int):Nat->List bP
 | 2=>[aH (-2) 3,aH x 2]
 | 3=>[aH x 2,aH (-2) 3,aH (-2) 3]
 | 4=>[aH x 2]
 | _=>[aH x 2,aH y 2,aH z 2]
section
variable {x y z : Int}
theorem iL {op:Int} {a b:cE} {v:bP} {l:List bP} (h:qW op a v.num=(b,0)):eA op a (v :: l)=eA op b l:=by
 show(if (qW op a v.num).2=0 then eA op (qW op a v.num).1 l else qW op a v.num)=_;rw [h];rfl
theorem aNo {m:iF} (hx:-1000<=x/\x<=1000) (hy:-1000<=y/\y<=1000) (hz:-1000<=z/\z<=1000) (i:Nat) (h:i<8):bG m (nS i) (aLl x y z i)=(gW x y z i,0):=by
 have hc:∀(op:Int) (l:List bP) (n d:Int),kC op l=(gC n d,0)->((⟨1,false,(kC op l).1,0⟩:bP),(kC op l).2)=(aH n d,0):=fun op l n d h=>by rw [h];rfl
 match i,h with
 |
  0,_=>
  refine hc 13 _ (x+y+z) 2 ?_;show eA 13 (gC x 2) [aH y 2,aH z 2]=_;rw [iL (op:=13) (a:=gC x 2) (v:=aH y 2) (b:=gC (x+y) 2) (aKf ⟨by omega,by omega⟩ ⟨by omega,by omega⟩),iL (op:=13) (a:=gC (x+y) 2) (v:=aH z 2) (b:=gC (x+y+z) 2) (aKf ⟨by omega,by omega⟩ ⟨by omega,by omega⟩)];rfl
 |
  1,_=>
  refine hc 14 _ (x - y - z) 2 ?_;show eA 14 (gC x 2) [aH y 2,aH z 2]=_;rw [iL (op:=14) (a:=gC x 2) (v:=aH y 2) (b:=gC (x - y) 2) (aKg ⟨by omega,by omega⟩ ⟨by omega,by omega⟩),iL (op:=14) (a:=gC (x - y) 2) (v:=aH z 2) (b:=gC (x - y - z) 2) (aKg ⟨by omega,by omega⟩ ⟨by omega,by omega⟩)];rfl
 |
  2,_=>
  refine hc 15 _ (-x) 3 ?_;show eA 15 (gC (-2) 3) [aH x 2]=_;rw [iL (op:=15) (a:=gC (-2) 3) (v:=aH x 2) (b:=gC (-x) 3) (aMn ⟨by omega,by omega⟩)];rfl
 |
  3,_=>
  refine hc 16 _ (9 * x) 8 ?_;show eA 16 (gC x 2) [aH (-2) 3,aH (-2) 3]=_;rw [iL (op:=16) (a:=gC x 2) (v:=aH (-2) 3) (b:=gC (-3 * x) 4) (aMp ⟨by omega,by omega⟩),iL (op:=16) (a:=gC (-3 * x) 4) (v:=aH (-2) 3) (b:=gC (9 * x) 8) (aMq ⟨by omega,by omega⟩)];rfl
 |
  4,_=>
  refine hc 14 _ (-x) 2 ?_;show(jS (gC x 2),(0:Int))=_;rw [aMm ⟨by omega,by omega⟩]
 |
  5,_=>
  show(eJ (gG 18 (kU (gC x 2) (gC y 2)) && (gG 18 (kU (gC y 2) (gC z 2)) && true)),(0:Int))=_;rw [aDm ⟨by omega,by omega⟩ ⟨by omega,by omega⟩,aDm ⟨by omega,by omega⟩ ⟨by omega,by omega⟩,aKh,aKh,Bool.and_true];rfl
 |
  6,_=>
  show(eJ (gG 19 (kU (gC x 2) (gC y 2)) && (gG 19 (kU (gC y 2) (gC z 2)) && true)),(0:Int))=_;rw [aDm ⟨by omega,by omega⟩ ⟨by omega,by omega⟩,aDm ⟨by omega,by omega⟩ ⟨by omega,by omega⟩,aKi,aKi,Bool.and_true];rfl
 |
  7,_=>
  show(eJ (((iQ (aH x 2) (aH y 2) == false) && ((iQ (aH x 2) (aH z 2) == false) && true)) && (((iQ (aH y 2) (aH z 2) == false) && true) && (true && true))),(0:Int))=(eJ (!decide (x=y) && !decide (y=z) && !decide (x=z)),0);rw [rX (by decide),rX (by decide),rX (by decide)]
  congr 2
  cases decide (x=y) <;> cases decide (y=z) <;> cases decide (x=z) <;> rfl
theorem aNp:bG (mS x y z) nX []=(aH x 2,0):=eval_const (t:=⟨sx,[],aH x 2⟩) (yP (l1:=[]) rfl (by simp) (uQ _)) rfl
theorem aNq:bG (mS x y z) nY []=(aH y 2,0):=eval_const (t:=⟨sy,[],aH y 2⟩) (yP (l1:=[⟨sx,[],aH x 2⟩]) rfl (fun u hu=>by obtain rfl:=List.mem_singleton.1 hu;show nQ sx sy=false;rw [nN];decide +kernel) (uQ _)) rfl
theorem aNr:bG (mS x y z) nZ []=(aH z 2,0):=eval_const (t:=⟨sz,[],aH z 2⟩) (yP (l1:=[⟨sx,[],aH x 2⟩,⟨sy,[],aH y 2⟩]) rfl (fun u hu=>by
 simp only [List.mem_cons,List.not_mem_nil,or_false] at hu;rcases hu with rfl | rfl
 ·show nQ sx sz=false;rw [nN];decide +kernel
 ·show nQ sy sz=false;rw [nN];decide +kernel) (uQ _)) rfl
theorem aNs {m:iF}:bG m nT []=(aH (-2) 3,0):=by
 show((⟨1,false,r23,0⟩:bP),(0:Int))=(⟨1,false,gC (-2) 3,0⟩,0);rw [aH8]
theorem aLm (hx:-1000<=x/\x<=1000) (hy:-1000<=y/\y<=1000) (hz:-1000<=z/\z<=1000) (i:Nat) (h:i<8):iY (mS x y z) (vK i) 4=(gW x y z i,0):=by
 have e0:∀i,∀F,bG (mS x y z) (nodeAt (vK i) 0) (gL F (nodeAt (vK i) 0).args)=(aH x 2,0):=fun _ _=>aNp
 have e1:∀i,∀F,bG (mS x y z) (nodeAt (vK i) 1) (gL F (nodeAt (vK i) 1).args)=(aH y 2,0):=fun _ _=>aNq
 have e2:∀i,∀F,bG (mS x y z) (nodeAt (vK i) 2) (gL F (nodeAt (vK i) 2).args)=(aH z 2,0):=fun _ _=>aNr
 have e3:∀i,∀F,bG (mS x y z) (nodeAt (vK i) 3) (gL F (nodeAt (vK i) 3).args)=(aH (-2) 3,0):=fun _ _=>aNs
 have e4:∀i,i<8->∀F,gL F (pZ i)=aLl x y z i->bG (mS x y z) (nodeAt (vK i) 4) (gL F (nodeAt (vK i) 4).args)=(gW x y z i,0):=fun i h F hF=>by
  show bG (mS x y z) (nS i) (gL F (pZ i))=_;rw [hF];exact aNo hx hy hz i h
 have h3:∀i,i<8->pZ i = [0,1,2]->aLl x y z i = [aH x 2,aH y 2,aH z 2]->(jB (vK i) [4]).2 = [0,1,2,4]->iD (vK i) 4=true->iY (mS x y z) (vK i) 4=(gW x y z i,0):=fun i h ha hv hw hh=>by
  unfold iY;rw [if_pos hh,hw,dE (e0 i _),if_pos rfl,dE (e1 i _),if_pos rfl,dE (e2 i _),if_pos rfl,dE (e4 i h _ (by rw [ha,hv];rfl)),if_pos rfl];rfl
 match i,h with
 | 0,h=>exact h3 0 h rfl rfl (by decide +kernel) (by decide +kernel)
 | 1,h=>exact h3 1 h rfl rfl (by decide +kernel) (by decide +kernel)
 |
  2,h=>
  unfold iY;rw [if_pos (by decide +kernel),show(jB (vK 2) [4]).2 = [3,0,4] from by decide +kernel,dE (e3 2 _),if_pos rfl,dE (e0 2 _),if_pos rfl,dE (e4 2 h _ rfl),if_pos rfl];rfl
 |
  3,h=>
  unfold iY;rw [if_pos (by decide +kernel),show(jB (vK 3) [4]).2 = [0,3,4] from by decide +kernel,dE (e0 3 _),if_pos rfl,dE (e3 3 _),if_pos rfl,dE (e4 3 h _ rfl),if_pos rfl];rfl
 |
  4,h=>
  unfold iY;rw [if_pos (by decide +kernel),show(jB (vK 4) [4]).2 = [0,4] from by decide +kernel,dE (e0 4 _),if_pos rfl,dE (e4 4 h _ rfl),if_pos rfl];rfl
 | 5,h=>exact h3 5 h rfl rfl (by decide +kernel) (by decide +kernel)
 | 6,h=>exact h3 6 h rfl rfl (by decide +kernel) (by decide +kernel)
 | 7,h=>exact h3 7 h rfl rfl (by decide +kernel) (by decide +kernel)
theorem aIb (hx:-1000<=x/\x<=1000) (hy:-1000<=y/\y<=1000) (hz:-1000<=z/\z<=1000):iK (mS x y z):=by
 refine⟨fun t ht=>?_,by show(3:Nat)<=_;decide⟩;have hn:∀n:Int,-1000<=n/\n<=1000->cZ (aH n 2):=fun n hn=>cC (by decide) ⟨by omega,by omega⟩ (by decide)
 unfold mS at ht;simp only [List.mem_cons,List.not_mem_nil,or_false] at ht;rcases ht with rfl | rfl | rfl
 ·exact⟨fun r hr=>(by cases hr),hn _ hx,aV⟩
 ·exact⟨fun r hr=>(by cases hr),hn _ hy,aV⟩
 ·exact⟨fun r hr=>(by cases hr),hn _ hz,aV⟩
end
theorem uR (w:World):Calls Tryz.prog 59 #[] w fun e w'=>aHq w e w':=by
 go_enter Tryz.func59,Tryz.ntmps59
 go_wp2;go_ret;have i1:=jP.lit [1] 3 w (by simp);generalize h1:w.alloc (.cells #[.int .i64 1] 3)=w1 at *;have i1':jP w1 (some ⟨w.heap.size,0,none⟩) 1 [1]:=by rw [<-h1];exact i1
 have s1:w1.heap.size=w.heap.size+1:=by rw [<-h1];simp
 have b1:Below w.heap.size w w1:=by rw [<-h1];exact bD
 have i2:=jP.lit [2,1] 3 w1 (by simp);generalize h2:w1.alloc (.cells #[.int .i64 2,.int .i64 1] 3)=w2 at *;have i2':jP w2 (some ⟨w.heap.size+1,0,none⟩) 2 [2,1]:=by rw [<-h2,<-s1];exact i2
 have s2:w2.heap.size=w.heap.size+1+1:=by rw [<-h2];simp [s1]
 have b2:Below w1.heap.size w1 w2:=by rw [<-h2];exact bD
 have i3:=jP.lit [2] 3 w2 (by simp);generalize h3:w2.alloc (.cells #[.int .i64 2] 3)=w3 at *;have i3':jP w3 (some ⟨w.heap.size+2,0,none⟩) 1 [2]:=by rw [<-h3,show w.heap.size+2=w2.heap.size by omega];exact i3
 have s3:w3.heap.size=w.heap.size+1+1+1:=by rw [<-h3];simp [s2]
 have b3:Below w2.heap.size w2 w3:=by rw [<-h3];exact bD
 have b4:Below w3.heap.size w3 (w3.alloc (.cells (aDe w.heap.size).flatten.toArray 114)):=bD;have hg:=heap_alloc_new w3 (.cells (aDe w.heap.size).flatten.toArray 114);rw [s3] at hg;have b34:=b3.trans (b4.mono b3.size);have b24:=b2.trans (b34.mono b2.size);have hS:∀(k o:Nat) (n:Nat) (x:Addr),0<n->some (⟨w.heap.size+k,o,none⟩:Addr)=some x->w.heap.size<=x.block:=fun k o n x _ e=>by injection e with e;rw [<-e];exact Nat.le_add_right _ _
 refine⟨rfl,bJ.ofCss (css:=aDe w.heap.size) hg (by show w.heap.size<=_;omega) rfl (aJg (bJ.ofI (i1'.below b24 aB) (fun x h e=>hS 0 0 1 x h e)) (bJ.ofI (i2'.below b34 aB) (fun x h e=>hS 1 0 2 x h e)) (bJ.ofI (i3'.below b4 aB) (fun x h e=>hS 2 0 1 x h e))),?_,?_⟩
 ·exact b1.trans (b24.mono b1.size)
 ·show(w3.heap.push _).size=_;rw [Array.size_push,s3]
theorem rE (w:World) (hE:Env w):Calls Tryz.prog 32 #[] w fun e w'=>aHs w e w':=by
 have hE':=hid hE;have pos0:=hE.pos;have htn:=hid (aFb w);clear hE;go_enter Tryz.func32,Tryz.ntmps32
 go_wp2_with fail
 refine htn.out.mono ?_;rintro e w1 ⟨p,rfl,t1,b1⟩;have I0:=hid (show Duo w p w1.heap.size ⟨[],[],[]⟩ (w1.alloc (.cells #[.slice none 0 0,.slice none 0 0,.slice none 0 0] 107)) from by
  have hB1:Below w1.heap.size w1 (w1.alloc (.cells #[.slice none 0 0,.slice none 0 0,.slice none 0 0] 107)):=bD;have hbq:=heap_alloc_new w1 (.cells #[.slice none 0 0,.slice none 0 0,.slice none 0 0] 107);refine⟨t1.all hB1,⟨b1.size,fun _ h=>h.elim,_,_,_,hbq,bK.nil _ _ _ _ _,bK.nil _ _ _ _ _,bK.nil _ _ _ _ _⟩,fun j hj=>?_,b1.trans (hB1.mono b1.size),hE'.out.all (b1.trans (hB1.mono b1.size))⟩;have hjq:j=w1.heap.size:=by
   rcases (oN hbq).1 hj with h | h | h | h
   ·exact h
   ·simp [Value.ownBlock] at h
   ·simp [Value.ownBlock] at h
   ·simp [Value.ownBlock] at h
  subst hjq;refine⟨by simp,fun e=>?_⟩;have:=(t1.ownB ((dQ.same (hB1.block p t1.plt)).1 e)).2;omega)
 clear t1 b1 htn
 go_wp2_with fail
 generalize (w1.alloc (.cells #[.slice none 0 0,.slice none 0 0,.slice none 0 0] 107))=w2 at *;generalize w1.heap.size=q at *;have hsp:=hid (aFc w.heap.size p ⟨[],[],[]⟩ sU w2 I0.out.t I0.out.e (by decide));refine hsp.out.mono ?_;rintro e w3 h3;obtain ⟨rfl,t3,s3⟩:=h3.yes aMe;obtain ⟨r3,ap3,b3,e3⟩:=I0.out.step pos0 s3;have J3:=hid (And.intro t3 (And.intro ap3 (And.intro b3 e3)));have R3:=hid r3;have hrs:=hid (aE0 w.heap.size q ⟨[],[],[]⟩ sU w3 r3 (by decide));clear h3 t3 s3 r3 ap3 b3 e3 hsp
 go_wp2_with fail
 refine hrs.out.mono ?_;rintro e w4 h4;have h4y:e = .returned (.tuple #[.int .i64 2,.int .i64 0])/\gK (fun _=>False) w.heap.size q (T7 0) w4/\eX q w3 w4:=by
  unfold lZ at h4;rw [if_neg (by rw [aMe];decide)] at h4;exact⟨h4.1.1,h4.1.2,h4.2⟩
 obtain ⟨rfl,r4,s4⟩:=h4y;have I4:=hid (Duo.step2 (T':=T7 0) pos0 J3.out.1 R3.out J3.out.2.1 J3.out.2.2.1 J3.out.2.2.2 r4 s4);have hdc:=hid (uR w4);clear h4 r4 s4 J3 R3 hrs
 go_wp2_with fail
 refine hdc.out.mono ?_;rintro e w5 ⟨rfl,hl5,b5,z5⟩;have I5:=hid (I4.out.all b5);have F5:=hid (show sH (fun k=>w4.heap.size<=k/\k<w5.heap.size) p q w5 from fun k hk=>⟨hk.2,fun e=>by
  have:=(I4.out.t.ownB ((dQ.same (b5.block p I4.out.t.plt)).1 e)).2;omega,fun e=>by
  have:=(I4.out.r.ownB ((dQ.same (b5.block q I4.out.r.plt)).1 e)).2;omega⟩)
 have L5:=hid (show bJ kP (fun k=>w4.heap.size<=k/\k<w5.heap.size) w5 (some ⟨w4.heap.size+3,0,none⟩) 10 jC from hl5.mono fun b hb hk=>⟨hk,hb⟩);clear hl5 b5 z5 hdc I0 I4;go_wp2;generalize w4.heap.size+3=g at *;generalize hSS:(fun k=>w4.heap.size<=k/\k<w5.heap.size)=SS at *;clear hSS
 go_loopw [5] (fun i wr=>∃k:Nat,k<=10/\i = .int .i64 k/\Hid (Duo w p q (T7 k) wr)/\Hid (sH SS p q wr)/\Hid (bJ kP SS wr (some ⟨g,0,none⟩) 10 jC)) (fun i _=>10 - (intOf i).toNat)
 case atStart=>exact⟨0,by omega,rfl,I5.out,F5.out,L5.out⟩
 case round=>
  obtain ⟨k,hk,rfl,hI,hF,hL⟩:=hrel;by_cases hlt:k<10
  ·have hf:jC[k]? = some (jC[k]'(by show k<10;omega)):=List.getElem?_eq_getElem _;generalize (jC[k]'(by show k<10;omega))=f at *;obtain ⟨b,o,a',c',hgo,k0,k1,k2,ra,or,nc,_⟩:=hL.out.funAt hf;cases hgo;simp only [Nat.zero_add] at k0 k1 k2;have hfa:f.args.length<=2:=by
    have:f∈jC:=List.mem_of_getElem? hf;simp [jC] at this;rcases this with rfl | rfl | rfl | rfl | rfl | rfl | rfl | rfl | rfl | rfl <;> decide
   obtain ⟨he,hadd⟩:=aNj hlt f hf;have hki:(k:Int)<10:=by omega
   have hfn:=hid (aIp w.heap.size p (T7 k) f a' c' wr hI.out.t (aCp k) hI.out.e ra.toI (by omega));have hadd':=hid hadd;have he':=hid he;have hf':=hid hf;clear hf he hadd or
   go_wp2_with fail
   refine hfn.out.mono ?_;rintro e w6 ⟨rfl,t6,s6⟩;rw [hadd'.out] at t6;obtain ⟨r6,ap6,b6,e6⟩:=hI.out.step pos0 s6;have hq6:=(s6.block q (hI.out.ap q (.inl rfl)).1 (hI.out.ap q (.inl rfl)).2).1;obtain ⟨F6,K6⟩:=hF.out.stepP s6 hq6;have L6:=hL.out.keep (fun b _ hb=>K6 b hb) s6.size;obtain ⟨b',o',a6,c6,hgo,q0,q1,q2,ra6,_,nc6,_⟩:=L6.funAt hf'.out;cases hgo;simp only [Nat.zero_add] at q0 q1 q2;have J6:=hid (And.intro t6 (And.intro ap6 (And.intro b6 e6)));have R6:=hid r6;have F6':=hid F6;have L6':=hid L6;have hrf:=hid (aHp w.heap.size q (T7 k) f a6 c6 w6 r6 (aCp k) ra6.toI (by omega) nc6);clear t6 s6 r6 ap6 b6 e6 hq6 F6 K6 L6 hfn k0 k1 k2 ra
   go_wp2_with fail
   refine hrf.out.mono ?_;rintro e w7 ⟨rfl,r7,s7⟩;rw [hadd'.out] at r7;have I7:=hid (Duo.step2 (T':=T7 (k+1)) pos0 J6.out.1 R6.out J6.out.2.1 J6.out.2.2.1 J6.out.2.2.2 r7 s7);have hap:=J6.out.2.1.symm fun j hj=>(J6.out.1.ownB hj).2
   have hp7:=(s7.block p (hap p (.inl rfl)).1 (hap p (.inl rfl)).2).1;obtain ⟨F7,K7⟩:=F6'.out.stepQ s7 hp7;have F7':=hid F7;have L7:=hid (L6'.out.keep (fun b _ hb=>K7 b hb) s7.size);clear r7 s7 hap hp7 F7 K7;go_wp2
   go_roundw
   case rel=>exact⟨k+1,by omega,by go_num,I7.out,F7'.out,L7.out⟩
   case measure=>simp [intOf];omega
  ·have hk10:k=10:=by omega
   subst hk10;have hnw:=hid (aI8 w.heap.size p (T7 10) wr hI.out.t)
   go_wp2_with fail
   refine hnw.out.mono ?_;rintro e w8 ⟨rfl,hT8,b8⟩;have T8:=hid hT8;have B8:=hid (hI.out.b.trans (b8.mono hI.out.b.size));have hsz:=hI.out.b.size;clear hT8 b8;go_wp2;go_ret2;have hBA:Below w8.heap.size w8 (w8.alloc (.cells #[.pointer (some ⟨q,0,none⟩),.slice none 0 0,.int .i64 0] 51)):=bD;exact⟨_,_,rfl,(T8.out.lower hsz).all hBA,aI B8 hBA⟩
structure mO (w0:World) (dm:Nat) (w:World):Prop where
 size:w0.heap.size<=w.heap.size
 block:∀q,q<w0.heap.size->q≠dm->w.heap[q]? = w0.heap[q]?
section
variable {S : Nat -> Prop} {w w0 W W' wr : World} {dm k : Nat} {F : Int -> Option bP} {T : aR} {tbs : iF}
theorem mO.refl (w0:World) (dm:Nat):mO w0 dm w0:=⟨aB,fun _ _ _=>rfl⟩
theorem mO.below (h:mO w0 dm W) (hb:Below W.heap.size W W'):mO w0 dm W':=⟨aK h.size hb.size,fun q hq e=>(hb.block q (bN hq h.size)).trans (h.block q hq e)⟩
theorem mO.turned (h:mO w0 dm W) (ht:W.mapTurned W' dm):mO w0 dm W':=⟨aK h.size ht.grown.size,fun q hq e=>(ht.grown.block q (bN hq h.size) fun z=>e (by injection z)).trans (h.block q hq e)⟩
theorem mO.at (h:mO w0 dm W) {q:Nat} {o:Obj} (hq:w0.heap[q]? = some o) (hd:q≠dm):W.heap[q]? = some o:=(h.block q (bQ hq).1 hd).trans hq
theorem aIc {l:List Int} (hk:k<l.length):mN tbs T (l.drop k) F=if (bG tbs (nodeAt T (nth l k)) (gL F (nodeAt T (nth l k)).args)).2=0 then mN tbs T (l.drop (k+1)) (aAz F (nth l k) (bG tbs (nodeAt T (nth l k)) (gL F (nodeAt T (nth l k)).args)).1) else(F,(bG tbs (nodeAt T (nth l k)) (gL F (nodeAt T (nth l k)).args)).2):=by
 rw [List.drop_eq_getElem_cons hk,<-cK hk];rfl
theorem aE5 {args:List Int} {j:Nat} (h:j<args.length):gL F (args.take (j+1))=gL F (args.take j) ++ [(F (nth args j)).getD bZ]:=by
 unfold gL;rw [List.take_succ_eq_append_getElem h,List.map_append,cK h];rfl
theorem aA8 (F:Int->Option bP) (l:List Int):(gL F l).length=l.length:=List.length_map _
theorem EvS.small (h:EvS S w dm F k W) (x:Int):cZ ((F x).getD bZ):=by
 obtain ⟨c,G,h1,h2,h3⟩:=h.mp;rcases h3 x with ⟨e1,_⟩ | ⟨v,a,c,b,d,e1,_,_,e4⟩
 ·rw [e1];exact oH
 ·rw [e1];exact e4
theorem EvS.smallL (h:EvS S w dm F k W) (l:List Int):∀v∈gL F l,cZ v:=fun v hv=>by
 obtain ⟨x,_,rfl⟩:=List.mem_map.1 hv;exact h.small x
end
theorem EvS.look2 {S:Nat->Prop} {w W W':World} {dm k:Nat} {F:Int->Option bP} (h:EvS S w dm F k W) (hb:Below W.heap.size W W') {x:Int} (hx:fG x):∃a c b d,(Instr.lookup 149 (.map (some dm)) (.int .i64 x) false).run Tryz.prog W' = .ok (jV ((F x).getD bZ) a c b d) W'/\dI (fun q=>Ev S w dm q/\q<W.heap.size) W' ((F x).getD bZ) a c b d:=by
 obtain ⟨c,G,h1,h2,h3⟩:=h.mp;have hl:=(h2.same (hb.block _ h2.lt)).look Tryz.underlying3 Tryz.underlying149 (aA1 W') hx;rcases h3 x with ⟨e1,e2⟩ | ⟨v,a,c,b,d,e1,e2,e3,e4⟩
 ·rw [e2] at hl;rw [e1];exact⟨none,0,none,0,hl,⟨⟨by decide,by decide⟩,⟨by decide,by decide⟩,.nil _ _ _ _,⟨aB,aV⟩,.nil _ _ _ _,⟨aB,aV⟩⟩⟩
 ·rw [e2] at hl;rw [e1];exact⟨a,c,b,d,hl,(e3.mono fun q hq hE=>⟨hE,hq⟩).below hb aB⟩
structure aMr (wr w7:World) (x:bY) (a:Option Addr) (c:Nat) (b:Option Addr) (d:Nat) (g:Option Addr) (h:Nat) (w8:World):Prop where
 hx:w8.heap[w7.heap.size]? = some (.cells #[.int .i64 x.op,.string x.name,.bool x.val.neg,.slice a x.val.num.length c,.slice b x.val.den.length d,.slice g x.args.length h,.int .i64 x.sort] 38 (0,0))
 n:dR (dM wr.heap.size w8) w8 x a c b d g h
 b:Below wr.heap.size wr w8
 s:w8.heap.size=w7.heap.size+1
theorem aMs {wr w7:World} {x:bY} {a:Option Addr} {c:Nat} {b:Option Addr} {d:Nat} {g:Option Addr} {h:Nat} (N:dR (dM wr.heap.size w7) w7 x a c b d g h) (hb:Below wr.heap.size wr w7) :
  aMr wr w7 x a c b d g h (w7.alloc (.cells #[.int .i64 x.op,.string x.name,.bool x.val.neg,.slice a x.val.num.length c,.slice b x.val.den.length d,.slice g x.args.length h,.int .i64 x.sort] 38)):=by
 have b8:Below w7.heap.size w7 (w7.alloc (.cells #[.int .i64 x.op,.string x.name,.bool x.val.neg,.slice a x.val.num.length c,.slice b x.val.den.length d,.slice g x.args.length h,.int .i64 x.sort] 38)):=bD;exact⟨heap_alloc_new w7 _,N.move (Below.dat b8) b8.size,hb.trans (b8.mono hb.size),by simp⟩
theorem aDn {S:Nat->Prop} {w:World}:dI S w bZ none 0 none 0:=⟨⟨by decide,by decide⟩,⟨by decide,by decide⟩,.nil _ _ _ _,⟨aB,aV⟩,.nil _ _ _ _,⟨aB,aV⟩⟩
theorem aId {v:bP} {er:Int} {w W:World} {p:Nat} {cs:Array Value} {a b:Option Addr} {c d:Nat} (hp:W.heap[p]? = some (.cells cs 64 (0,0))) (hwp:w.heap.size<=p) (h:dI (dM w.heap.size W) W v a c b d) (hb:Below w.heap.size w W) (l:List (Nat × Value)):EvP (v,er) w (.returned (.tuple #[jV v a c b d,.int .i64 er])) (setL p l W):=
 ⟨a,c,b,d,rfl,h.setL (by decide) (by decide) hp l,(cN (by decide) (by decide) l W cs hp).2.2 _ _ hwp hb⟩
def zV:List Value:=[.int .i64 0,.bool false,.bool false,.slice none 0 0,.slice none 0 0,.int .i64 0]
theorem oM {S:Nat->Prop} (B p:Nat) (T:aR) (tbs:iF) (ma:Option Addr) (mc:Nat) (i:Int) (w:World) (hT:cU B p T w) (hG:iB T) (hA:ArT T) (h:oQ S w tbs ma mc) (hm:iK tbs) (hi:fG i) :
  Calls Tryz.prog 35 #[.pointer (some ⟨p,0,none⟩),.agg #[.slice ma tbs.length mc],.int .i64 i] w fun e w'=>EvP (iY tbs T i) w e w':=by
 have hmm:=@run_makeMap Tryz.prog;obtain ⟨R,hR⟩:∃R,iY tbs T i=R:=⟨_,rfl⟩;have hRe:=hid hR;rw [hR];clear hR;have HT:=hid hT;have HG:=hid hG;have HA:=hid hA;have HM:=hid h;have HS:=hid hm;have HI:=hid hi;have X0:=hid (cY w (.cells #[.slice ma tbs.length mc] 71) (.cells zV.toArray 64));have XM:=hid (dG w (.cells #[.slice ma tbs.length mc] 71) (.cells zV.toArray 64));have hB0:=hid (bX w (.cells #[.slice ma tbs.length mc] 71) (.cells zV.toArray 64));have hsz0:=hid (show((w.alloc (.cells #[.slice ma tbs.length mc] 71)).alloc (.cells zV.toArray 64)).heap.size=w.heap.size+2 from by simp);have hsrt:=hid (aEc B p T i _ (hT.all hB0.out));clear hT hG hA h hm hi;unfold zV at X0 XM hB0 hsz0 hsrt;cases hh:iD T i
 case false=>
  have hso:mG T i=(0,false):=by unfold mG;rw [hh];rfl
  have hR2:=hid (show(bZ,(1:Int))=R from by rw [<-hRe.out];unfold iY;rw [hh];rfl);rw [hso] at hsrt;clear hso hh;go_enter Tryz.func35,Tryz.ntmps35
  go_wp2_with fail
  generalize (w.alloc (.cells #[.slice ma tbs.length mc] 71)).alloc (.cells [.int .i64 0,.bool false,.bool false,.slice none 0 0,.slice none 0 0,.int .i64 0].toArray 64)=w0 at *;refine hsrt.out.mono ?_;rintro e w' ⟨rfl,rfl⟩;clear hsrt;obtain ⟨z0,z1,z2,z3,z4,z5⟩:=dP X0.out;obtain ⟨f0,f1,f2,f3,f4,f5⟩:=fU X0.out;go_wp2;refine bodyPost_ret (v:=.tuple #[jV bZ none 0 none 0,.int .i64 1]) (by simp [results,Tryz.results35,go_sem,bZ,dC, *]) rfl ?_;rw [<-hR2.out];exact aId X0.out (by omega) aDn hB0.out [(0,.int .i64 0),(1,.bool false),(2,.bool false),(3,.slice none 0 0),(4,.slice none 0 0),(5,.int .i64 0)]
 case true=>
  have hso:mG T i=((nodeAt T i).sort,true):=by unfold mG;rw [hh];rfl
  have hR2:=hid (show rA (mN tbs T (jB T [i]).2 fun _=>none) i=R from by rw [<-hRe.out];unfold iY;rw [hh];rfl);rw [hso] at hsrt;dsimp only at hsrt;have hh':=hid hh;clear hso hh;generalize (nodeAt T i).sort=so at *;go_enter Tryz.func35,Tryz.ntmps35
  go_wp2_with fail
  generalize (w.alloc (.cells #[.slice ma tbs.length mc] 71)).alloc (.cells [.int .i64 0,.bool false,.bool false,.slice none 0 0,.slice none 0 0,.int .i64 0].toArray 64)=w0 at *;have q1:w0.cell? ⟨w.heap.size,0,none⟩=some (.slice ma tbs.length mc):=aC XM.out 0;have b5:=hid (nL w0 (.map #[] 0) (.cells #[.pointer (some ⟨p,0,none⟩),.slice ma tbs.length mc,.map (some w0.heap.size)] 151) (.cells #[.int .i64 i] 3));have m5:=hid ((lH.made (P:=Tryz.prog) (k:=3) w0).same (w':=((w0.alloc (.map #[] 0)).alloc (.cells #[.pointer (some ⟨p,0,none⟩),.slice ma tbs.length mc,.map (some w0.heap.size)] 151)).alloc (.cells #[.int .i64 i] 3)) ((nJ w0 _ _ _).trans (heap_alloc_new w0 _).symm));have x5:=hid (nK w0 (.map #[] 0) (.cells #[.pointer (some ⟨p,0,none⟩),.slice ma tbs.length mc,.map (some w0.heap.size)] 151) (.cells #[.int .i64 i] 3));have i5:=jP.lit [i] 3 ((w0.alloc (.map #[] 0)).alloc (.cells #[.pointer (some ⟨p,0,none⟩),.slice ma tbs.length mc,.map (some w0.heap.size)] 151)) (fun x hx=>by rw [List.mem_singleton.1 hx];exact HI.out);simp only [World.size_alloc] at i5;have I5:=hid i5;have s5:=hid (show(((w0.alloc (.map #[] 0)).alloc (.cells #[.pointer (some ⟨p,0,none⟩),.slice ma tbs.length mc,.map (some w0.heap.size)] 151)).alloc (.cells #[.int .i64 i] 3)).heap.size=w0.heap.size+3 from by simp);clear i5;refine hsrt.out.mono ?_;rintro e w' ⟨rfl,rfl⟩;clear hsrt
  go_wp2_with fail
  simp only [List.map_cons,List.map_nil] at I5;generalize ((w0.alloc (.map #[] 0)).alloc (.cells #[.pointer (some ⟨p,0,none⟩),.slice ma tbs.length mc,.map (some w0.heap.size)] 151)).alloc (.cells #[.int .i64 i] 3)=w5 at *;have B5:=hid (aI hB0 b5.out);have hwk:=hid (aGg B p T (some ⟨w0.heap.size+1+1,0,none⟩) 1 1 [i] w5 (HT.out.all B5.out) HG.out.ok I5.out (by decide));have hrange:=hid (aA7 HG.out.ok.ord [i]).2;have hlen:=hid (aA7 HG.out.ok.ord [i]).1.small.2;have hle:=hid HG.out.ok.sm.le;generalize (jB T [i]).2=L at *;refine hwk.out.mono ?_;rintro e w6 ⟨aL,cL,rfl,oL,b6⟩;have hL:=(jP.own oL (fun x hx=>by have:=hrange.out x hx;have:=hle.out;omega)).2.1;have R6:=hid hL;have hLd:=hid (fun x hx=>(show w0.heap.size+3<=Addr.block x from by have:=((jP.own oL (fun x hx=>by have:=hrange.out x hx;have:=hle.out;omega)).2.2 x hx).1;rw [s5.out] at this;exact this));have B6:=hid (aI B5 b6);have hz6:=hid (show w0.heap.size+3<=w6.heap.size from by have:=b6.size;have:=s5.out;omega);have XW:=hid ((b6.block _ (by have:=s5.out;omega)).trans x5.out);have XR:=hid ((b6.block _ (by have:=s5.out;have:=hsz0.out;omega)).trans ((b5.out.block _ (by have:=hsz0.out;omega)).trans X0.out));have E6:=hid (EvS.start (S:=S) (w:=w) (dm:=w0.heap.size) B6.out (by have:=hsz0.out;omega) (m5.out.same (b6.block _ (by have:=s5.out;omega))));clear hL oL b6 hwk b5 m5 x5 I5 s5 B5 q1 XM X0 w5;go_wp2
  go_loopw [7,12,13,14,15,17,18,19,39] (fun v7 _ _ _ _ _ _ _ v39 wr=>∃(k:Nat) (F:Int->Option bP),k<=L.length/\v39 = .int .i64 k/\v7 = .int .i64 0/\Hid (rA (mN tbs T (L.drop k) F) i=R)/\Hid (EvS S w w0.heap.size F k wr)/\Hid (mO w6 w0.heap.size wr)) (fun _ _ _ _ _ _ _ _ v39 _=>L.length - (intOf v39).toNat)
  case atStart=>exact⟨0,fun _=>none,aV,rfl,rfl,hR2.out,E6.out,mO.refl _ _⟩
  case round=>
   obtain ⟨k,F,hk,rfl,rfl,hE,hS,hK⟩:=hrel;clear E6 hR2 hRe;by_cases hlt:k<L.length
   case neg=>
    obtain rfl:k=L.length:=by omega
    have hRv:=hid (show((F i).getD bZ,(0:Int))=R from by have h:=hE.out;rw [List.drop_length] at h;exact h);obtain ⟨a8,c8,b8,d8,hlk,V8,hv8⟩:=hS.out.look HI.out;have how:=hid (lW ((F i).getD bZ) a8 b8 c8 d8 wr V8 hv8.1 hv8.2);have w2:wr.cell? ⟨w0.heap.size+1,2,none⟩=some (.map (some w0.heap.size)):=aC (hK.out.at XW.out (by omega)) 2;have XR1:=hid (hK.out.at XR.out (by have:=hsz0.out;omega));have BR:=hid hS.out.b;have hki:¬(L.length:Int)<L.length:=by omega
    clear V8 hv8 hE hS hK;generalize (F i).getD bZ=v at *;obtain ⟨s9,b9,⟨n9,u9,d9⟩,e9⟩:=v
    go_wp2_with fail
    refine how.out.mono ?_;rintro e w7 ⟨a,c,b,d,rfl,V7,hb7⟩;have X7:=hid (aJ hb7 XR1.out);have B7:=hid (aI BR hb7);have V7':=hid (V7.mono (S':=dM w.heap.size w7) fun q _ hq=>⟨hq.1,aK BR.out.size hq.2⟩);clear V7 hb7 how;obtain ⟨z0,z1,z2,z3,z4,z5⟩:=dP X7.out;obtain ⟨f0,f1,f2,f3,f4,f5⟩:=fU X7.out;go_wp2;refine bodyPost_ret (v:=.tuple #[jV ⟨s9,b9,⟨n9,u9,d9⟩,e9⟩ a c b d,.int .i64 0]) (by simp [results,Tryz.results35,go_sem, *]) rfl ?_;rw [<-hRv.out];exact aId (v:=⟨s9,b9,⟨n9,u9,d9⟩,e9⟩) X7.out (by omega) V7'.out B7.out [(0,.int .i64 s9),(1,.bool b9),(2,.bool n9),(3,.slice a u9.length c),(4,.slice b d9.length d),(5,.int .i64 e9)]
   case pos=>
    obtain ⟨bL,oL,rfl,kL⟩:=(R6.out.hold (w':=wr) (fun hn x hx=>hK.out.block _ (by
     obtain ⟨b1,o1,hb1,hlt1,_⟩:=R6.out.cells hn;rw [hb1] at hx;injection hx with hx;rw [<-hx];exact hlt1) (by have:=hLd.out x hx;omega)) hK.out.size).at k hlt
    obtain ⟨g0,g1⟩:=hrange.out (nth L k) (fF hlt);have hEk:=hE.out;rw [aIc hlt] at hEk;obtain ⟨j,hj⟩:=Int.eq_ofNat_of_zero_le g0;rw [hj] at kL g1 hEk;have hjn:j<T.nodes.length:=by omega
    have hng:=hid (HG.out.at hjn);have hal:(nodeAt T j).args.length<=64:=hng.out.args;have har:=hid (HA.out _ (List.mem_of_getElem? (fC hjn)));have hnd:=hid (aGc B p T j wr (HT.out.all hS.out.b) hjn HG.out.ok.sn);have hki:(k:Int)<L.length:=by omega
    have hjI:=hid (show fG (j:Int) from by have:=hle.out;unfold fG;omega);have hE2:=hid hEk;clear hE hEk g0 hj;generalize nodeAt T j=x at *;obtain ⟨op,nm,⟨ng,nu,de⟩,args,so'⟩:=x;dsimp only at hal
    go_wp2_with fail
    refine hnd.out.mono ?_;rintro e w7 ⟨a,c,b,d,g,h,rfl,N7,b7⟩;have NB:=hid (aMs N7 b7);dsimp only at NB;have hz7:=hid b7.size;clear N7 b7 hnd;go_wp2;generalize (w7.alloc (.cells #[.int .i64 op,.string nm,.bool ng,.slice a nu.length c,.slice b de.length d,.slice g args.length h,.int .i64 so'] 38))=w8 at *;have hw2:=hid (aC (hK.out.at XW.out (by omega)) 2);obtain ⟨i0,hi0,hi1,hi2,hi3⟩:=info_parts aG7;have RA:=hid NB.out.n.args.toI;have hac:=NB.out.n.ac;have hzd:=hid (show w0.heap.size<wr.heap.size from hS.out.dlt)
    go_loopw [15,17,52] (fun v15 _ v52 ww=>∃jj:Nat,jj<=args.length/\v52 = .int .i64 jj/\Hid (Below w8.heap.size w8 ww)/\Hid (bK fP (fun q=>Ev S w w0.heap.size q/\q<w8.heap.size) ww w8.heap.size 64 v15 (gL F (args.take jj)))) (fun _ _ v52 _=>args.length - (intOf v52).toNat)
    case atStart=>exact⟨0,aV,rfl,Below.refl _ _,bK.nil _ _ _ _ _⟩
    case round=>
     obtain ⟨jj,hjj,rfl,hB,hO⟩:=hrel;obtain ⟨wz,rfl⟩:∃W,W=wr:=⟨_,rfl⟩;by_cases hlj:jj<args.length
     case neg=>
      obtain rfl:jj=args.length:=by omega
      have hln:(gL F (args.take args.length)).length=args.length:=by rw [aA8,List.length_take,Nat.min_self]
      rw [List.take_length] at hO hln;obtain ⟨la,lc,rfl,hlc,_⟩:=hO.out.slice;have bwz:=hid (NB.out.b.trans (hB.out.mono NB.out.b.size));have XWz:=hid ((bwz.out.block _ (bN (bQ XW.out).1 hK.out.size)).trans (hK.out.at XW.out (by omega)));have XRz:=hid ((bwz.out.block _ (bN (bQ XR.out).1 hK.out.size)).trans (hK.out.at XR.out (by have:=hsz0.out;omega)));have BZ:=hid (hS.out.b.trans (bwz.out.mono hS.out.b.size));have hmn:=aEw (S:=Ev S w w0.heap.size) (w0.heap.size+1) tbs ma mc ⟨op,nm,⟨ng,nu,de⟩,args,so'⟩ a c b d g h la (gL F args).length lc (gL F args) wz (aC XWz.out 1)
       ⟨(HM.out.tbs.mono (S':=Ev S w w0.heap.size) fun q hq hs=>.inl ⟨hq,hs⟩).below BZ.out aB,HM.out.cap⟩ HS.out
       ((NB.out.n.mono (S':=Ev S w w0.heap.size) fun q _ hq=>.inr ⟨aK hS.out.b.size hq.2,by have:=hzd.out;have:=hq.2;omega⟩).below hB.out)
       (hO.out.read (fun q _ hq=>hq.1) fun q hq=>.inr (by have:=(hO.out.lt q hq).1;have:=NB.out.b.size;have:=hzd.out;have:=hS.out.b.size;exact⟨by omega,by omega⟩)) hlc (by omega) (hS.out.smallL args) (by rw [hln];exact har.out)
      obtain ⟨r,hr⟩:∃r,bG tbs ⟨op,nm,⟨ng,nu,de⟩,args,so'⟩ (gL F args)=r:=⟨_,rfl⟩;have hsv:=hid (show cZ r.1 from by rw [<-hr];exact aA0 HS.out hng.out (hS.out.smallL args));rw [hr] at hE2 hmn;obtain ⟨⟨s9,bo9,⟨n9,u9,de9⟩,e9⟩,er⟩:=r;have hmn':=hid hmn;have Y:=(hB.out.block _ (by rw [NB.out.s];exact Nat.lt_succ_self _)).trans NB.out.hx;obtain ⟨y0,y1,y2,y3,y4,y5,y6⟩:=aBf Y;have hzz:=hid (show w0.heap.size<wz.heap.size from bN hzd.out bwz.out.size);have HKz:=hid (hK.out.below bwz.out);have HSz:=hid (hS.out.below bwz.out);have hki2:¬(args.length:Int)<args.length:=by omega
      clear Y hmn hr NB hB hO RA hac har hng hS hK bwz hlc hln XW XR;generalize (gL F args).length=ln at *
      go_wp2_with fail
      refine hmn'.out.mono ?_;rintro e wn ⟨a9,c9,b9,d9,rfl,V9,bn⟩;have bA:Below wn.heap.size wn (wn.alloc (.cells #[.int .i64 s9,.bool bo9,.bool n9,.slice a9 u9.length c9,.slice b9 de9.length d9,.int .i64 e9] 64)):=bD;have bz10:=hid (bn.trans (bA.mono bn.size));have XV:=hid (heap_alloc_new wn (.cells #[.int .i64 s9,.bool bo9,.bool n9,.slice a9 u9.length c9,.slice b9 de9.length d9,.int .i64 e9] 64));have VV:=hid ((V9.mono (S':=Ev S w w0.heap.size) fun q _ hq=>hq.elim (fun h=>h.2) fun h=>.inr ⟨aK BZ.out.size h.2,by have:=hzz.out;have:=h.2;omega⟩).below bA aB);clear V9 bA bn hmn' y0 y1 y2 y3 y4 y5 y6;by_cases her:er=0
      case neg=>
       have hRv:=hid (show(bZ,er)=R from by
        have h:=hE2.out
        try dsimp only at h
        rw [if_neg her] at h;unfold rA at h
        try dsimp only at h
        rw [if_neg her] at h;exact h)
       have XR2:=hid (aJ bz10.out XRz.out);have B10:=hid (aI BZ bz10.out);clear hE2;have heb:(er == 0)=false:=by simpa using her
       obtain ⟨z0,z1,z2,z3,z4,z5⟩:=dP XR2.out;obtain ⟨f0,f1,f2,f3,f4,f5⟩:=fU XR2.out;go_wp2;refine bodyPost_ret (v:=.tuple #[jV bZ none 0 none 0,.int .i64 er]) (by simp [results,Tryz.results35,go_sem,bZ,dC, *]) rfl ?_;rw [<-hRv.out];exact aId XR2.out (by omega) aDn B10.out [(0,.int .i64 0),(1,.bool false),(2,.bool false),(3,.slice none 0 0),(4,.slice none 0 0),(5,.int .i64 0)]
      case pos=>
       subst her;have hE3:=hid (show rA (mN tbs T (L.drop (k+1)) (aAz F j ⟨s9,bo9,⟨n9,u9,de9⟩,e9⟩)) i=R from by have h:=hE2.out;rw [if_pos rfl] at h;exact h);clear hE2
       go_upto_region 18 with fail
       generalize (wn.alloc (.cells #[.int .i64 s9,.bool bo9,.bool n9,.slice a9 u9.length c9,.slice b9 de9.length d9,.int .i64 e9] 64))=wA at *;have XWA:=aJ bz10.out XWz.out;have w2:wA.cell? ⟨w0.heap.size+1,2,none⟩=some (.map (some w0.heap.size)):=aC XWA 2;have EA:=(HSz.out.below bz10.out).below (aG wA);obtain ⟨wS,hst,E11,ht11⟩:=EA.store (by have:=hle.out;have:=hlen.out;unfold maxLen;omega) hjI.out (VV.out.below (aG wA) aB) hsv.out;have K11:=hid (((HKz.out.below bz10.out).below (aG wA)).turned ht11);have E11':=hid E11;obtain ⟨v0,v1,v2,v3,v4,v5⟩:=dP XV.out;clear XWA EA E11 ht11
       try dsimp only at hst
       have hk16:L.length<=16384:=aK hlen.out hle.out
       go_region
       go_wp2
       go_roundw
       case rel=>exact⟨k+1,_,by omega,by go_num,rfl,hE3.out,E11'.out,K11.out⟩
       case measure=>simp [intOf];omega
     case pos=>
      obtain ⟨bA,oA,rfl,kA⟩:=(RA.out.below hB.out aB).at jj hlj;have hao:fG (nth args jj):=RA.out.wf _ (fF hlj);obtain ⟨a9,c9,b9,d9,hlk,V9⟩:=hS.out.look2 (W':=wz) (NB.out.b.trans (hB.out.mono NB.out.b.size)) hao;have w2:wz.cell? ⟨w0.heap.size+1,2,none⟩=some (.map (some w0.heap.size)):=aD (NB.out.b.trans (hB.out.mono NB.out.b.size)) hw2.out;have hji:(jj:Int)<args.length:=by omega
      have hln:=hid (show(gL F (args.take jj)).length=jj from by rw [aA8,List.length_take];omega);have hsucc:=hid (aE5 (F:=F) hlj);have V9':=hid (V9.mono (S':=fun q=>Ev S w w0.heap.size q/\q<w8.heap.size) fun q _ hq=>⟨hq.1,bN hq.2 NB.out.b.size⟩);obtain ⟨css,oc,ol,oe⟩:=hO.out;have OC:=hid oc;have OL:=hid ol;have OE:=hid oe;have hwz8:=hid hB.out.size;clear V9 oc ol oe hao;generalize (F (nth args jj)).getD bZ=v at *;generalize nth args jj=y at *;obtain ⟨s9,bo9,⟨n9,u9,de9⟩,e9⟩:=v
      go_wp2_with (at_builtin;refine eB rfl (.tmp 56) (.tmp 63) rfl Tryz.underlying78 hi0 hi1 hi2 hi3 rfl (by decide) rfl rfl (OC.out.alloc _) (Src.one (b:=wz.heap.size) (news:=qU ⟨s9,bo9,⟨n9,u9,de9⟩,e9⟩ a9 c9 b9 d9) rfl ?c1) ?c2 ?c3 ?c4 ?c5 ?_)
      case c1=>intro j u hu;first | (rw [World.cell?_alloc_new];simpa [qU] using hu) | exact hu
      case c2=>intro u hu;simp [qU] at hu;rcases hu with rfl | rfl | rfl | rfl | rfl | rfl <;> rfl
      case c3=>rw [hln.out];unfold maxLen;omega
      case c4=>rw [hln.out];omega
      case c5=>have:=hwz8.out;first | omega | (simp;omega)
      intro v' w4 ho4 hg4 _;have B4:=hid ((hB.out.alloc hB.out.size (.cells #[.int .i64 s9,.bool bo9,.bool n9,.slice a9 u9.length c9,.slice b9 de9.length d9,.int .i64 e9] 64)).grown hg4 (by simp;have:=hwz8.out;omega) (fun k hk=>(OC.out.lt k hk).1));have O4:=bK.push (R:=fP) (S:=fun q=>Ev S w w0.heap.size q/\q<w8.heap.size) (x:=⟨s9,bo9,⟨n9,u9,de9⟩,e9⟩) OL.out OE.out (kM.2 ⟨a9,c9,b9,d9,rfl,V9'.out⟩) ho4 (fun q hlt hq=>(bU hg4).block q hlt (fun e=>by have:=(OC.out.lt q e.symm).1;have:=hq.2;omega)) (bU hg4).size;rw [<-hsucc.out] at O4;have O5:=hid O4;clear ho4 hg4 hlk kA O4;go_wp2
      go_roundw
      case rel=>exact⟨jj+1,by omega,by go_num,B4.out,O5.out⟩
      case measure=>simp [intOf];omega
end Go.Proofs.YtgoojkiccdjplaaGreatDoor
