/-
  Parts of this claim's texts, one behind the other: VK CW. No condition.
-/
import Derived.Test.YtgoojkiccdjplaaGreatDoorL38
import Derived.Test.YtgoojkiccdjplaaGreatDoorL42
import Derived.Test.YtgoojkiccdjplaaGreatDoorL34
import Derived.Test.YtgoojkiccdjplaaGreatDoorL35
set_option linter.unusedVariables false
set_option linter.unusedSimpArgs false
set_option maxRecDepth 100000
set_option maxHeartbeats 16000000
namespace Go.Proofs.YtgoojkiccdjplaaGreatDoor
open Go.RowKit Go.Sort Go.Lib
theorem nameQ_decl:∀f∈(T7 10).funs,NameQ f.name:=by
 intro f hf
 have:f∈declL:=hf
 simp only [declL,List.mem_cons,List.not_mem_nil,or_false] at this
 rcases this with rfl | rfl | rfl | rfl | rfl | rfl | rfl | rfl | rfl | rfl <;> exact⟨by decide +kernel,by decide +kernel⟩
theorem decl_fr:∀f∈(T7 10).funs,∀k:Int,f.name≠freshName k:=fun f hf k e=>by
 have h1:=(by decide +kernel:∀f∈(T7 10).funs,f.name.data.toList.head? ≠ some 124) f hf
 rw [e] at h1
 exact h1 (by unfold freshName;simp)
theorem MdI.start:MdI (T7 10) (emptyT (T7 10)) 0:=
 ⟨⟨TermOk.empty 10,⟨fun k i h=>(by cases h),fun j n h=>(by simp [emptyT] at h),fun n h=>(by simp [emptyT] at h)⟩,⟨fun k x h=>(by simp [emptyT] at h),fun x h=>(by simp [emptyT] at h),fun x h=>(by simp [emptyT] at h)⟩,nameQ_decl⟩,⟨TermOk.empty 10,fun x h=>(by simp [emptyT] at h)⟩,Nat.le_refl _,rfl,rfl,⟨fun x h=>(by simp [emptyT] at h),fun x h=>(by simp [emptyT] at h),by decide +kernel,fun x h=>(by simp [emptyT] at h)⟩,⟨fun x h=>(by simp [emptyT] at h),decl_fr⟩⟩
end Go.Proofs.YtgoojkiccdjplaaGreatDoor
