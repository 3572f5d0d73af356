/- The law's own sanity returns true. Conditions: as each theorem says. -/
import Derived.Test.YtabidiilbgakoaaGreatDoorSd
import Derived.Test.YtabidiilbgakoaaGreatDoorSp
set_option maxRecDepth 100000
namespace Go.Proofs.SAN
open Go Go.AM Go.Proofs
def set:List (FuncId × List AV × List AV):=spt ++ sdt
theorem set_ok:JQ Tryz.prog set:=Qx spt_ok sdt_ok
theorem sanity_true:chk set 10 [] [.c (.bool true)]=true:=by kernel_rfl
theorem sanity_ok:zK Tryz.prog 10 [] (.c (.bool true)):=by
 intro h n
 have h1:=zZ set_ok J9 sanity_true
 exact h1 _ List.mem_cons_self h n _ fun x hx=>by
  simp only[List.mem_singleton] at hx
  exact⟨hx,rfl,rfl⟩
end Go.Proofs.SAN
