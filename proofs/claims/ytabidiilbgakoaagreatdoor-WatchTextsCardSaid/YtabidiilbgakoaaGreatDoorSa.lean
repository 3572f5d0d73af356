/- The closed calls of sanity, first table. Conditions: as each theorem says. -/
import Derived.KernelRfl
import Derived.Test.YtabidiilbgakoaaGreatDoorProg
import Derived.Test.YtabidiilbgakoaaGreatDoorAmg
set_option maxRecDepth 100000
namespace Go.Proofs.SAN
open Go Go.AM Go.Proofs
instance vars : Vars := { tab := [(0, (List.range 20).map fun i => Value.int .u64 ((10 ^ i : Nat) : Int)), (1, (List.range 256).map fun i => Value.int .u8 (if i = 32 then 1 else if 9 ≤ i then (if i ≤ 13 then 1 else 0) else 0))], typed := [131], errs := [3], keep := false }
def xt:List (FuncId × Nat):=[(185,0),(252,1),(217,2)]
def opn:FuncId→Nat:=fun g=>if g == 53 then 2 else 0
noncomputable def chk (tab : List (FuncId × List AV × List AV)) (g : FuncId) (args R : List AV) : Bool :=
 match qY Tryz.prog 300 (evT Tryz.prog 300 tab xt opn 40).1 (evT Tryz.prog 300 tab xt opn 40).2 g args with
 | some L=>JW L R
 | none=>false
theorem xt_one {g k:Nat} (h:(match Tryz.prog.funcs[g]? with | some fn=>!(fn.name == "runtime.NumGoroutine") && fn.body.isNone && (Extern.findNext fn).isNone | none=>false)=true) (h2:(Tryz.prog.funcs[g]?).bind Extern.find=some (extFn k)) :
  ∃fn,Tryz.prog.funcs[g]? = some fn∧(fn.name == "runtime.NumGoroutine")=false∧fn.body.isNone=true∧Extern.findNext fn=none∧Extern.find fn=some (extFn k):=by
 cases hf:Tryz.prog.funcs[g]? with
 | none=>rw[hf] at h;cases h
 | some fn=>
  rw[hf] at h h2
  simp only[Bool.and_eq_true,Bool.not_eq_true',Option.isNone_iff_eq_none] at h
  refine⟨fn,rfl,h.1.1,?_,h.2,by simpa using h2⟩
  simpa using h.1.2
theorem xt_ok:XtOk Tryz.prog xt:=by
 intro p hp
 simp only[xt,List.mem_cons,List.not_mem_nil,or_false] at hp
 rcases hp with rfl | rfl | rfl
 ·exact xt_one (by kernel_rfl) (by kernel_rfl)
 ·exact xt_one (by kernel_rfl) (by kernel_rfl)
 ·exact xt_one (by kernel_rfl) (by kernel_rfl)
theorem J9:JQ Tryz.prog []:=fun e he=>(by cases he)
theorem zZ {tab:List (FuncId × List AV × List AV)} (ht:JQ Tryz.prog tab) {g:FuncId} {args R:List AV} {new:List (FuncId × List AV × List AV)} (hn:JQ Tryz.prog new) (h:chk tab g args R=true):JQ Tryz.prog ((g,args,R) :: new):=by
 intro e he h0 n K hK
 rcases List.mem_cons.1 he with rfl | he
 ·unfold chk at h
  split at h
  ·rename_i L hL
   have:=jL _ _ h
   subst this
   exact evT_closed ht xt_ok hL hK
  ·cases h
 ·exact hn e he h0 n K hK
theorem Qx {a b:List (FuncId × List AV × List AV)} (ha:JQ Tryz.prog a) (hb:JQ Tryz.prog b):JQ Tryz.prog (a ++ b):=by
 intro e he
 rcases List.mem_append.1 he with h | h
 ·exact ha e h
 ·exact hb e h
def words:AV:=(.c (.string ⟨#[119,97,116,99,104,32,98,121,32,114,101,115,116,32,99,97,110,99,101,108,32,115,119,97,112,32,111,114,100,101,114,32,114,97,110,107,32,105,102,32,97,110,100,32,111,114,32,110,111,116,32,111,110,32,102,114,111,109,32,116,111,32,101,118,101,114,121,32,101,120,99,101,112,116,32,99,101,108,108,32,115,101,101,110,32,97,103,101,32,104,111,117,114,32,102,114,101,101]⟩))
def resv:AV:=.fslc false false 1 [(.c (.string ⟨#[119,97,116,99,104]⟩)),(.c (.string ⟨#[98,121]⟩)),(.c (.string ⟨#[114,101,115,116]⟩)),(.c (.string ⟨#[99,97,110,99,101,108]⟩)),(.c (.string ⟨#[115,119,97,112]⟩)),(.c (.string ⟨#[111,114,100,101,114]⟩)),(.c (.string ⟨#[114,97,110,107]⟩)),(.c (.string ⟨#[105,102]⟩)),(.c (.string ⟨#[97,110,100]⟩)),(.c (.string ⟨#[111,114]⟩)),(.c (.string ⟨#[110,111,116]⟩)),(.c (.string ⟨#[111,110]⟩)),(.c (.string ⟨#[102,114,111,109]⟩)),(.c (.string ⟨#[116,111]⟩)),(.c (.string ⟨#[101,118,101,114,121]⟩)),(.c (.string ⟨#[101,120,99,101,112,116]⟩)),(.c (.string ⟨#[99,101,108,108]⟩)),(.c (.string ⟨#[115,101,101,110]⟩)),(.c (.string ⟨#[97,103,101]⟩)),(.c (.string ⟨#[104,111,117,114]⟩)),(.c (.string ⟨#[102,114,101,101]⟩))]
def src:AV:=(.c (.string ⟨#[119,97,116,99,104,32,110,111,114,116,104,32,98,121,32,97,110,110,32,102,114,111,109,32,49,32,116,111,32,49,48,32,101,118,101,114,121,32,50,32,101,120,99,101,112,116,32,53,59,10,119,97,116,99,104,32,110,111,114,116,104,32,98,121,32,98,101,110,32,102,114,111,109,32,50,32,116,111,32,49,48,32,101,118,101,114,121,32,50,59,10,119,97,116,99,104,32,115,111,117,116,104,32,98,121,32,97,110,110,32,111,110,32,52,59,10,114,101,115,116,32,98,101,110,32,111,110,32,54,59,10,115,119,97,112,32,97,110,110,32,98,101,110,32,111,110,32,52,59,10,111,114,100,101,114,32,115,101,110,100,32,105,102,32,99,101,108,108,32,60,61,32,57,32,97,110,100,32,115,101,101,110,32,62,61,32,50,59,10,111,114,100,101,114,32,108,111,111,107,32,114,97,110,107,32,49,32,105,102,32,110,111,116,32,40,115,101,101,110,32,62,32,49,32,111,114,32,104,111,117,114,32,60,32,54,41,59,10]⟩))
def wat:AV:=(.agg [(.fslc false false 8 [(.agg [(.c (.int .i64 1)),(.c (.string ⟨#[110,111,114,116,104]⟩)),(.c (.string ⟨#[97,110,110]⟩)),(.c (.string ⟨#[]⟩)),(.c (.int .i64 1)),(.c (.int .i64 10)),(.c (.int .i64 2)),(.fslc false false 1 [(.c (.int .i64 5))])]),(.agg [(.c (.int .i64 1)),(.c (.string ⟨#[110,111,114,116,104]⟩)),(.c (.string ⟨#[98,101,110]⟩)),(.c (.string ⟨#[]⟩)),(.c (.int .i64 2)),(.c (.int .i64 10)),(.c (.int .i64 2)),(.fslc true true 0 [])]),(.agg [(.c (.int .i64 1)),(.c (.string ⟨#[115,111,117,116,104]⟩)),(.c (.string ⟨#[97,110,110]⟩)),(.c (.string ⟨#[]⟩)),(.c (.int .i64 4)),(.c (.int .i64 4)),(.c (.int .i64 1)),(.fslc true true 0 [])]),(.agg [(.c (.int .i64 2)),(.c (.string ⟨#[]⟩)),(.c (.string ⟨#[98,101,110]⟩)),(.c (.string ⟨#[]⟩)),(.c (.int .i64 6)),(.c (.int .i64 6)),(.c (.int .i64 1)),(.fslc true true 0 [])]),(.agg [(.c (.int .i64 4)),(.c (.string ⟨#[]⟩)),(.c (.string ⟨#[97,110,110]⟩)),(.c (.string ⟨#[98,101,110]⟩)),(.c (.int .i64 4)),(.c (.int .i64 4)),(.c (.int .i64 1)),(.fslc true true 0 [])])]),(.fslc false false 7 [(.agg [(.c (.string ⟨#[115,101,110,100]⟩)),(.c (.int .i64 0)),(.c (.int .i64 3)),(.c (.int .i64 0)),(.c (.int .i64 0)),(.c (.int .i64 0)),(.fslc false false 5 [(.agg [(.c (.int .i64 1)),(.c (.int .i64 0)),(.c (.int .i64 4)),(.c (.int .i64 9)),(.fslc true true 0 [])]),(.agg [(.c (.int .i64 1)),(.c (.int .i64 1)),(.c (.int .i64 6)),(.c (.int .i64 2)),(.fslc true true 0 [])])])]),(.agg [(.c (.string ⟨#[108,111,111,107]⟩)),(.c (.int .i64 1)),(.c (.int .i64 2)),(.c (.int .i64 0)),(.c (.int .i64 0)),(.c (.int .i64 0)),(.fslc false false 5 [(.agg [(.c (.int .i64 4)),(.c (.int .i64 0)),(.c (.int .i64 0)),(.c (.int .i64 0)),(.fslc false false 5 [(.agg [(.c (.int .i64 1)),(.c (.int .i64 1)),(.c (.int .i64 5)),(.c (.int .i64 1)),(.fslc true true 0 [])]),(.agg [(.c (.int .i64 1)),(.c (.int .i64 3)),(.c (.int .i64 3)),(.c (.int .i64 6)),(.fslc true true 0 [])])])])])])])])
def jW:List (FuncId × List AV × List AV):=[(216,[words],[resv])]
theorem tab1_ok:JQ Tryz.prog jW:=zZ J9 J9 (by kernel_rfl)
end Go.Proofs.SAN
