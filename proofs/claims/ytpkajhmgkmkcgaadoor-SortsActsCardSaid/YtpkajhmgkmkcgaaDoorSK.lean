/-
  theodolitelaw6.awake: what it asks, reckoned. No condition.
-/
import Derived.Test.YtpkajhmgkmkcgaaDoorSH
import Derived.Test.YtpkajhmgkmkcgaaDoorSJ
namespace Go.Proofs.YtpkajhmgkmkcgaaDoor
open Go.RowKit Go.Sort Go.Lib

def sU : ByteArray := ⟨#[85]⟩
def sBool : ByteArray := ⟨#[66, 111, 111, 108]⟩
def sf : ByteArray := ⟨#[102]⟩
def sg : ByteArray := ⟨#[103]⟩
def sx : ByteArray := ⟨#[120]⟩
def site : ByteArray := ⟨#[105, 116, 101]⟩
def fF : FunD := ⟨sf, [2, 1], 0⟩
def fG : FunD := ⟨sg, [0], 0⟩
def fX : FunD := ⟨sx, [], 2⟩
def aT0 : TabD := ⟨[], [], []⟩
def aT1 : TabD := ⟨[sU], [], []⟩
def aT2 : TabD := ⟨[sU], [fF], []⟩
def aT3 : TabD := ⟨[sU], [fF], [(1, 1)]⟩
def aT4 : TabD := ⟨[sU], [fF, fX], [(1, 1)]⟩
theorem toL (s : ByteArray) : s.toList = s.data.toList := Lib.toList_data s
theorem eqS_data (a b : ByteArray) : eqS a b = (a.data.toList == b.data.toList) := by unfold eqS; rw [toL, toL]
theorem mayB_data (s : ByteArray) : mayB s = (!s.data.toList.isEmpty && (decide (s.size ≤ 200) && !resB s)) := by unfold mayB; rw [toL]
theorem ite_res : resB site = true := by decide +kernel
theorem f_res : resB sf = false := by decide +kernel
theorem may_U : mayB sU = true := by rw [mayB_data]; decide +kernel
theorem may_Bool : mayB sBool = false := by rw [mayB_data]; decide +kernel
theorem may_f : mayB sf = true := by rw [mayB_data]; decide +kernel
theorem may_g : mayB sg = true := by rw [mayB_data]; decide +kernel
theorem may_x : mayB sx = true := by rw [mayB_data]; decide +kernel
theorem bad_U : badSort aT0 sU = false := by unfold badSort; rw [may_U]; decide +kernel
theorem bad_Bool : badSort aT1 sBool = true := by unfold badSort; rw [may_Bool]; rfl
theorem eq_fg : eqS sf sg = false := by rw [eqS_data]; decide +kernel
theorem eq_fx : eqS sf sx = false := by rw [eqS_data]; decide +kernel
theorem eq_ff : eqS sf sf = true := by rw [eqS_data]; decide +kernel
theorem find_f1 : findF aT1 sf = none := rfl
theorem find_g2 : findF aT2 sg = none := by unfold findF aT2; simp [fF, eq_fg]
theorem find_x3 : findF aT3 sx = none := by unfold findF aT3; simp [fF, eq_fx]
theorem find_x2 : findF aT2 sx = none := by unfold findF aT2; simp [fF, eq_fx]
theorem find_f2 : findF aT2 sf = some fF := by unfold findF aT2; simp [fF, eq_ff]
theorem fun_f : errFun aT1 fF = 0 ∧ addFun aT1 fF = aT2 := by
  have h : errFun aT1 fF = 0 := by
    unfold errFun mayFunB
    rw [show fF.name = sf from rfl, may_f, find_f1]
    decide +kernel
  exact ⟨h, by unfold addFun; rw [h]; rfl⟩
theorem fun_g : errFun aT2 fG = 1 ∧ addFun aT2 fG = aT2 := by
  have h : errFun aT2 fG = 1 := by
    unfold errFun mayFunB
    rw [show fG.name = sg from rfl, may_g, find_g2]
    decide +kernel
  exact ⟨h, by unfold addFun; rw [h]; rfl⟩
theorem fun_x : errFun aT3 fX = 0 ∧ addFun aT3 fX = aT4 := by
  have h : errFun aT3 fX = 0 := by
    unfold errFun mayFunB
    rw [show fX.name = sx from rfl, may_x, find_x3]
    decide +kernel
  exact ⟨h, by unfold addFun; rw [h]; rfl⟩
theorem pop_2 : errPop aT4 2 = 5 ∧ popT aT4 2 = aT4 := ⟨by decide, rfl⟩
theorem pop_1 : errPop aT4 1 = 0 ∧ popT aT4 1 = aT2 := ⟨by decide, rfl⟩
theorem name_2 : nameOf aT2 2 = (sU, true) := by decide +kernel
theorem small_0 : Small aT0 := ⟨by decide, by decide, by decide, by decide⟩
theorem small_1 : Small aT1 := ⟨by decide, by decide, by decide, by decide⟩
theorem small_2 : Small aT2 := ⟨by decide, by decide, by decide, fun f hf => by simp [aT2] at hf; subst hf; decide⟩
theorem small_3 : Small aT3 := ⟨by decide, by decide, by decide, fun f hf => by simp [aT3] at hf; subst hf; decide⟩
theorem small_4 : Small aT4 := ⟨by decide, by decide, by decide, fun f hf => by simp [aT4] at hf; rcases hf with rfl | rfl <;> decide⟩
theorem wf_4 : WfT aT4 := ⟨by simp [aT4], fun m hm => by simp [aT4] at hm; subst hm; decide⟩
theorem SortPost.no {X : Nat → Prop} {B p : Nat} {T : TabD} {s : ByteArray} {w w' : World} {e : Ending} (h : SortPost X B p T s w e w') (hb : badSort T s = true) : e = .returned (.tuple #[.int .i64 0, .int .i64 1]) ∧ TabX X B p T w' ∧ PStep p w w' := by
  unfold SortPost at h; rw [if_pos hb] at h; exact ⟨h.1.1, h.1.2, h.2⟩
theorem SortPost.yes {X : Nat → Prop} {B p : Nat} {T : TabD} {s : ByteArray} {w w' : World} {e : Ending} (h : SortPost X B p T s w e w') (hb : badSort T s = false) : e = .returned (.tuple #[.int .i64 ((T.sorts.length : Int) + 2), .int .i64 0]) ∧ TabX X B p { T with sorts := T.sorts ++ [s] } w' ∧ PStep p w w' := by
  unfold SortPost at h; rw [if_neg (by rw [hb]; decide)] at h; exact ⟨h.1.1, h.1.2, h.2⟩
end Go.Proofs.YtpkajhmgkmkcgaaDoor
