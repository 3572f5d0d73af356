/- What the rows' arguments read as in the abstract machine. Conditions: as each theorem says. -/
import Derived.Test.YtabidiilbgakoaaGreatDoorCards
import Derived.Test.YtabidiilbgakoaaGreatDoorTie
import Derived.WalkKit
import Derived.ProofKit
import Derived.OpenShut
import Derived.Lib.SmallJoins
import Derived.Lib.Space
import Derived.Lib.LaidTab
import Derived.Lib.ItoaNum
import Derived.Deep.Slices
import Derived.Deep.Fields
import Derived.Deep.DeepHandedRow
import Derived.Stop.LaidErr
import Derived.Test.YtabidiilbgakoaaGreatDoorDd
namespace Go.AM
open Go.RowKit Go.ChangeShapes Go.WideShapes Go.Proofs Go.Deep Cw
set_option maxRecDepth 10000
def G0 (W:World):Gh:=⟨fun _=>none,fun a=>W.cell? a,[],([],[],fun a=>W.cell? a),[]⟩
theorem inv0 (W:World) (hv:VarsOk (G0 W)∧TabsOk W):Inv W (G0 W) (fun _=>none) W:=
 ⟨BelowD.refl _ _,fun _ _ h=>h,fun _ _ h=>by simp at h,fun _ _ _ _ _ _ _ h=>by simp at h,fun _ _ _ _ _ h=>by simp at h,⟨fun b hb=>by simp[G0] at hb,fun b hb=>by simp[G0] at hb,List.nodup_nil,fun b hb=>by simp[G0] at hb,fun _ _ h _=>h,hv.1,hv.2⟩⟩
theorem run_true {f:FuncId} {args:List AV} (hc:zK Tryz.prog f args (bv true)) (W:World) (hvo:VarsOk (G0 W)∧TabsOk W) (vs:Array Value) (hv:RvL (G0 W) args vs.toList) :
  Calls Tryz.prog f vs W fun e W'=>e=.returned (.bool true)∧Below W.heap.size W W':=by
 have h:=(hc (fun _=>none) 0).2 W (G0 W) W vs.toList (inv0 W hvo) (fun _ _=>rfl) hv
 rw[Array.toArray_toList] at h
 refine h.mono fun e W' ⟨G',r,x,h',n',e1,_,I,_,_,hr,hx,_⟩=>?_
 subst hx
 simp only[Rv] at hr
 exact⟨by rw[e1,hr.1],I.below.toBelow⟩
theorem build {α:Type} {R:Nat→α→Prop}:∀(n:Nat),(∀i,i < n→∃x,R i x)→∃l:List α,l.length=n∧∀i x,l[i]? = some x→R i x
 | 0,_=>⟨[],rfl,by simp⟩
 | n + 1,h=>by
  obtain⟨l,h1,h2⟩:=build n fun i hi=>h i (by omega)
  obtain⟨x,hx⟩:=h n (by omega)
  refine⟨l ++ [x],by simp[h1],fun i y hy=>?_⟩
  rcases Nat.lt_or_ge i n with hi | hi
  ·rw[List.getElem?_append_left (by omega)] at hy;exact h2 i y hy
  ·rw[List.getElem?_append_right (by omega),h1] at hy
   have:i - n=0:=by
    rcases Nat.eq_zero_or_pos (i - n) with h' | h'
    ·exact h'
    ·rw[List.getElem?_eq_none (by simp;omega)] at hy;cases hy
   rw[this] at hy
   simp at hy;subst hy
   rw[show i=n by omega];exact hx
theorem rvE_build {α:Type} {G:Gh} {a:Addr} {s:Nat} (f:α→AV):∀(l:List α) (k:Nat),(∀i x,l[i]? = some x→(cellsOf (f x)).all AV.scalar=true∧∃v,Rv G (f x) v∧v.cells.size=s∧ImmAt G (a.add ((k + i) * s)) v.cells.toList)→RvE G a s (k * s) (l.map f)
 | [],_,_=>by simp[RvE]
 | x :: r,k,h=>by
  simp only[List.map_cons,RvE]
  refine⟨by simpa using h 0 x rfl,?_⟩
  rw[←Nat.succ_mul]
  exact rvE_build f r (k + 1) fun i y hy=>by
   have:=h (i + 1) y (by simpa using hy)
   rwa [show k + (i + 1)=k + 1 + i by omega] at this
section
variable {H : Type} {enc : TypeId × Value → H} {W : World} {base : Nat} {sp : Nat → Bool} {hd : Bool}
theorem qF {t:TypeId} {k:IntKind} {n:Nat} {v:Value} {y:DataW H × List MemPlace} (ht:Tryz.prog.underlying t=some (.int k)) (h:DataW.trod enc Tryz.prog W base sp hd n t [v]=some y):∃m,v=.int k m:=by
 obtain⟨m,e,_⟩:=DataW.trod_int ht h
 simp at e;exact⟨m,e⟩
theorem rd_slice {α:Type} {t e:TypeId} {s n:Nat} {v:Value} {y:DataW H × List MemPlace} (f:α→AV) (ht:Tryz.prog.underlying t=some (.slice e)) (hs:Tryz.prog.cellsOf e=s) (hsc:∀x,(cellsOf (f x)).all AV.scalar=true)
  (elem:∀cs n' y',n' < n→cs.length=s→DataW.trod enc Tryz.prog W base sp hd n' e cs=some y'→∃x u,Rv (G0 W) (f x) u∧u.cells=cs.toArray)
  (h:DataW.trod enc Tryz.prog W base sp hd n t [v]=some y):∃nl l,Rv (G0 W) (.fslc nl false s (l.map f)) v∧(nl=true→l=[])∧l.length≤maxLen:=by
 rcases DataW.trod_slice ht h with ⟨e1,_⟩ | ⟨a,len,cap,JX,rest,n2,en,hcs,_,hb,hl,hm,hle,hi,_,_⟩
 ·simp at e1;subst e1
  exact⟨true,[],by simp[Rv],by simp,by simp⟩
 ·simp at hcs;subst hcs
  rw[hs] at hi
  have hel:∀i,i < len→∃x:α,∃u,Rv (G0 W) (f x) u∧u.cells.size=s∧ImmAt (G0 W) (a.add (i * s)) u.cells.toList:=fun i hil=>by
   have h1:=hi i hil
   rw[List.getElem?_eq_getElem (by omega),Option.bind_eq_some_iff] at h1
   obtain⟨cs,hc,ht'⟩:=h1
   obtain⟨_,hcl,hat⟩:=World.cells?_some hc
   obtain⟨x,u,h1,h2⟩:=elem cs _ _ (by omega) hcl ht'
   refine⟨x,u,h1,by rw[h2];simpa using hcl,fun j w hj=>?_⟩
   rw[h2] at hj
   have hjl:j < s:=by
    have:=(List.getElem?_eq_some_iff.1 hj).1
    simp at this;omega
   have:=hat j hjl
   show W.cell? _=_
   rw[this];exact hj
  obtain⟨l,hl1,hl2⟩:=build len hel
  refine⟨false,l,?_,by simp,by omega⟩
  simp only[Rv]
  refine⟨some a,cap,by simp[hl1],by simpa [hl1] using hl,by simp,by simp,fun _=>⟨a,rfl,?_⟩⟩
  have:=rvE_build (G:=G0 W) (a:=a) (s:=s) f l 0 fun i x hx=>⟨hsc x,by simpa using hl2 i x hx⟩
  simpa using this
theorem encL_map:∀l:List Cnd,ZE l=l.map zn
 | []=>rfl
 | c :: r=>by simp only[ZE,List.map_cons,encL_map r]
theorem wfL_all:∀l:List Cnd,(∀x ∈ l,wf x)→wfL l
 | [],_=>trivial
 | c :: r,h=>⟨h c (by simp),wfL_all r fun x hx=>h x (by simp[hx])⟩
theorem elem_cond:∀(N n:Nat) (cs:List Value) (y:DataW H × List MemPlace),n≤N→cs.length=5→DataW.trod enc Tryz.prog W base sp hd n 54 cs=some y→∃x:Cnd,wf x∧∃u,Rv (G0 W) (zn x) u∧u.cells=cs.toArray
 | N,n,cs,y,hn,hc,h=>by
  obtain⟨xs,n',en,_,_,hx,hf⟩:=DataW.trod_struct Tryz.underlying54 h
  obtain⟨c0,c1,c2,c3,c4,rfl⟩:∃c0 c1 c2 c3 c4,cs=[c0,c1,c2,c3,c4]:=by
   match cs,hc with
   | [c0,c1,c2,c3,c4],_=>exact⟨c0,c1,c2,c3,c4,rfl⟩
  have h3:Tryz.prog.cellsOf 3=1:=by kernel_rfl
  have h22:Tryz.prog.cellsOf 52=1:=by kernel_rfl
  have f0:DataW.trod enc Tryz.prog W base sp hd n' 3 (List.take (Tryz.prog.cellsOf 3) (List.drop 0 [c0,c1,c2,c3,c4]))=xs[0]?:=hf 0 _ rfl
  have f1:DataW.trod enc Tryz.prog W base sp hd n' 3 (List.take (Tryz.prog.cellsOf 3) (List.drop 1 [c0,c1,c2,c3,c4]))=xs[1]?:=hf 1 _ rfl
  have f2:DataW.trod enc Tryz.prog W base sp hd n' 3 (List.take (Tryz.prog.cellsOf 3) (List.drop 2 [c0,c1,c2,c3,c4]))=xs[2]?:=hf 2 _ rfl
  have f3:DataW.trod enc Tryz.prog W base sp hd n' 3 (List.take (Tryz.prog.cellsOf 3) (List.drop 3 [c0,c1,c2,c3,c4]))=xs[3]?:=hf 3 _ rfl
  have f4:DataW.trod enc Tryz.prog W base sp hd n' 52 (List.take (Tryz.prog.cellsOf 52) (List.drop 4 [c0,c1,c2,c3,c4]))=xs[4]?:=hf 4 _ rfl
  simp only[h3,h22,List.drop_zero,List.take_succ_cons,List.take_zero,List.drop_succ_cons] at f0 f1 f2 f3 f4
  obtain⟨x0,x1,x2,x3,x4,rfl⟩:∃x0 x1 x2 x3 x4,xs=[x0,x1,x2,x3,x4]:=by
   match xs,hx with
   | [c0,c1,c2,c3,c4],_=>exact⟨c0,c1,c2,c3,c4,rfl⟩
  obtain⟨a,rfl⟩:=qF Tryz.underlying3 f0
  obtain⟨b,rfl⟩:=qF Tryz.underlying3 f1
  obtain⟨c,rfl⟩:=qF Tryz.underlying3 f2
  obtain⟨d,rfl⟩:=qF Tryz.underlying3 f3
  obtain⟨nl,l,hl,hnl,_⟩:=rd_slice (fun x:{x:Cnd // wf x}=>zn x.1) Tryz.underlying52 (by kernel_rfl:Tryz.prog.cellsOf 54=5) (fun x=>cellsC_sc x.1)
   (fun cs' n2 y' hlt hc' h'=>by
     obtain⟨x,hw,u,h1,h2⟩:=elem_cond (N - 1) n2 cs' y' (by omega) hc' h'
     exact⟨⟨x,hw⟩,u,h1,h2⟩) f4
  refine⟨.mk a b c d nl false 5 (l.map (·.1)),⟨?_,wfL_all _ fun x hx=>?_⟩,.agg #[.int .i64 a,.int .i64 b,.int .i64 c,.int .i64 d,c4],?_,rfl⟩
  ·cases nl with
   | true=>left;rw[hnl rfl];rfl
   | false=>right;exact⟨rfl,rfl⟩
  ·obtain⟨z,_,rfl⟩:=List.mem_map.1 hx
   exact z.2
  ·simp only[zn,encL_map,List.map_map]
   rw[Rv]
   exact⟨_,rfl,_,_,rfl,by simp[Rv,Value.oneCell'],_,_,rfl,by simp[Rv,Value.oneCell'],_,_,rfl,by simp[Rv,Value.oneCell'],_,_,rfl,by simp[Rv,Value.oneCell'],_,_,rfl,hl,rfl⟩
termination_by _ n => n
decreasing_by omega
theorem rd_cond {r:Reach} {b0:Nat} {v:Value} {d:DataW H} {p:List MemPlace} (hv:Value.okWide Tryz.prog W r b0 54 v) (h:DataW.Trod enc Tryz.prog W base sp hd 54 v d p):∃x:Cnd,wf x∧Rv (G0 W) (zn x) v:=by
 obtain⟨cs,rfl,hsz⟩:=okWide_struct Tryz.underlying54 hv
 have h24:Tryz.prog.cellsOf 54=5:=by kernel_rfl
 obtain⟨fuel,hf⟩:=h
 rw[h24] at hsz
 obtain⟨x,hw,u,h1,h2⟩:=elem_cond fuel fuel cs.toList _ (Nat.le_refl _) (by simpa using hsz) hf
 refine⟨x,hw,?_⟩
 cases x
 simp only[zn] at h1 ⊢
 rw[Rv] at h1 ⊢
 obtain⟨vs,e1,h3⟩:=h1
 subst e1
 have:vs=cs:=by simpa [Value.cells] using h2
 exact⟨vs,by rw[this],h3⟩
theorem Q9 {W W':World} (hb:Below W.heap.size W W'):∀{ts:List TypeId} {vs:List Value} {ds:List (DataW H)} {ps:List MemPlace},(∀t ∈ ts,Tryz.prog.readableRec t=true∧t < Tryz.prog.types.size)→(∀x ∈ ps,x.block < W.heap.size)→
  DataW.TrodAll enc Tryz.prog W 0 (fun _=>true) true ts vs ds ps→DataW.TrodAll enc Tryz.prog W' 0 (fun b=>decide (b < W.heap.size)) true ts vs ds ps
 | [],[],[],_,_,_,h=>h
 | t :: ts,v :: vs,d :: ds,ps,ht,hp,⟨p,q,h1,h2,e⟩=>by
  subst e
  have hl:laidOutB Tryz.prog=true:=by kernel_rfl
  exact⟨p,q,Below.trod hl (ht t (by simp)).1 (ht t (by simp)).2 h1 hb fun x hx=>hp x (by simp[hx]),Q9 hb (fun t' h'=>ht t' (by simp[h'])) (fun x hx=>hp x (by simp[hx])) h2,rfl⟩
end
theorem gSpace:Tryz.prog.globalNamed "strings.asciiSpace" = some 1:=by kernel_rfl
theorem gSpaceType:(Tryz.prog.globals[1]?).map (·.type)=some 297:=by kernel_rfl
theorem und288:Tryz.prog.underlying 297=some (.array 256 5):=by kernel_rfl
theorem cells288:Tryz.prog.cellsOf 297=256:=by kernel_rfl
theorem cells5:Tryz.prog.cellsOf 5=1:=by kernel_rfl
theorem gPowD:Tryz.prog.globalNamed "internal/strconv.uint64pow10" = some 0:=by kernel_rfl
theorem gPowType:(Tryz.prog.globals[0]?).map (·.type)=some 295:=by kernel_rfl
theorem undPow:Tryz.prog.underlying 295=some (.array 20 259):=by kernel_rfl
theorem cellsPow:Tryz.prog.cellsOf 295=20:=by kernel_rfl
theorem cellsU64:Tryz.prog.cellsOf 259=1:=by kernel_rfl
theorem tab_one {W:World} {name:String} {k:IntKind} {zs:List Int} {g:Nat} (hg:Tryz.prog.globalNamed name=some g) (h:Lib.TabIs Tryz.prog W name k zs) :
  (ImmAt (G0 W) ⟨g,0,none⟩ (zs.map fun z=>Value.int k z)∧∀v ∈ zs.map fun z=>Value.int k z,v.oneCell'=true)∧∃e z,W.heap[g]? = some (.cells (zs.map fun z=>Value.int k z).toArray e z):=by
 refine⟨⟨fun j v hj=>?_,fun v hv=>?_⟩,?_⟩
 ·simp only[List.getElem?_map,Option.map_eq_some_iff] at hj
  obtain⟨z,hz,rfl⟩:=hj
  have hlt:=(List.getElem?_eq_some_iff.1 hz).1
  have:=h.cell hg j hlt
  rw[List.getD_eq_getElem?_getD,hz] at this
  have e2:(⟨g,0,none⟩:Addr).add j=⟨g,j,none⟩:=by simp[Addr.add];omega
  show W.cell? ((⟨g,0,none⟩:Addr).add j)=_
  rw[e2,this];rfl
 ·obtain⟨z,_,rfl⟩:=List.mem_map.1 hv
  rfl
 ·unfold Lib.TabIs World.var? at h
  rw[hg] at h
  simp only[Option.bind_some] at h
  split at h
  ·rename_i cs e z hh
   cases h
   exact⟨e,z,hh⟩
  ·cases h
theorem trod_iface {P:Program} {W:World} {t:TypeId} (ht:(match P.underlying t with | some (.interface _)=>true | _=>false)=true) {nm:String} {d:DataW Unit} {p:List MemPlace}:∀{fuel:Nat} {cs:List Value},DataW.trod (fun _=>()) P W 0 (fun _=>true) false fuel t cs=some (.iface nm d,p)→∃u v,cs=[.iface u v]
 | 0,_,h=>by simp[DataW.trod] at h
 | fuel + 1,cs,h=>by
  split at ht
  ·rename_i I hI
   unfold DataW.trod at h
   rw[hI] at h
   split at h <;> first|(exact⟨_,_,rfl⟩)|(rename_i hx;cases hx;done)|(rename_i hx _;cases hx;done)|(cases h;done)|skip
  ·cases ht
theorem err_of_head {P:Program} {W:World} {name nm:String} {d:DataW Unit} {rest:List (String × DataW Unit)} {g:Nat} {t:TypeId} (hg:P.globalNamed name=some g) (hty:(P.globals[g]?).map (·.type)=some t) (ht:(match P.underlying t with | some (.interface _)=>true | _=>false)=true)
  (h:laidMet P ((name,.iface nm d) :: rest) W):∃e z u v,W.heap[g]? = some (.cells #[.iface u v] e z):=by
 obtain⟨ps,⟨g',t',cs,fuel,p,q,hg',ht',hvar,hd,_,_⟩,_⟩:=h
 obtain rfl:=Option.some.inj (hg.symm.trans hg')
 obtain rfl:=Option.some.inj (hty.symm.trans ht')
 obtain⟨u,v,hc⟩:=trod_iface ht hd
 unfold World.var? at hvar
 rw[hg] at hvar
 simp only[Option.bind_some] at hvar
 split at hvar
 ·rename_i cs' e z hh
  cases hvar
  have:cs = #[.iface u v]:=Array.ext' (by simpa using hc)
  subst this
  exact⟨e,z,u,v,hh⟩
 ·cases hvar
theorem gErrR:Tryz.prog.globalNamed "strconv.ErrRange" = some 3:=by kernel_rfl
theorem gErrRType:(Tryz.prog.globals[3]?).map (·.type)=some 133:=by kernel_rfl
theorem undErr:(match Tryz.prog.underlying 133 with | some (.interface _)=>true | _=>false)=true:=by kernel_rfl
theorem vars_of_table {W:World} (h0:Lib.TabIs Tryz.prog W "internal/strconv.uint64pow10" .u64 Lib.pow10Tab) (h:Lib.TabIs Tryz.prog W "strings.asciiSpace" .u8 Lib.asciiSpaceTab) (h3:∃e z u v,W.heap[3]? = some (.cells #[.iface u v] e z)):VarsOk (G0 W)∧TabsOk W:=by
 have e:(Vars.tab:List (Nat × List Value))=[(0,Lib.pow10Tab.map fun z=>Value.int .u64 z),(1,Lib.asciiSpaceTab.map fun z=>Value.int .u8 z)]:=by kernel_rfl
 have a0:=tab_one gPowD h0
 have a1:=tab_one gSpace h
 have e2:(Vars.errs:List Nat)=[3]:=by kernel_rfl
 refine⟨fun p hp=>?_,fun p hp=>?_,fun g hg=>?_⟩
 ·rw[e] at hp
  simp only[List.mem_cons,List.not_mem_nil,or_false] at hp
  rcases hp with rfl | rfl
  ·exact a0.1
  ·exact a1.1
 ·rw[e] at hp
  simp only[List.mem_cons,List.not_mem_nil,or_false] at hp
  rcases hp with rfl | rfl
  ·exact a0.2
  ·exact a1.2
 ·rw[e2,List.mem_singleton] at hg
  subst hg
  obtain⟨e,z,u,v,hh⟩:=h3
  exact⟨e,z,u,v,hh⟩
end Go.AM
namespace Go.AM
open Go.RowKit Go.ChangeShapes Go.WideShapes Go.Proofs Go.Deep Cw
set_option maxRecDepth 10000
section
variable {H : Type} {enc : TypeId × Value → H} {W : World} {base : Nat} {sp : Nat → Bool} {hd : Bool}
theorem elem_order {n:Nat} {cs:List Value} {y:DataW H × List MemPlace} (hc:cs.length=7) (h:DataW.trod enc Tryz.prog W base sp hd n 74 cs=some y):∃x:Ordr,wf x.cond∧∃u,Rv (G0 W) (zp x) u∧u.cells=cs.toArray:=by
 obtain⟨xs,n',en,_,_,hx,hf⟩:=DataW.trod_struct Tryz.underlying74 h
 obtain⟨c0,c1,c2,c3,c4,c5,c6,rfl⟩:∃c0 c1 c2 c3 c4 c5 c6,cs=[c0,c1,c2,c3,c4,c5,c6]:=by
  match cs,hc with
  | [c0,c1,c2,c3,c4,c5,c6],_=>exact⟨c0,c1,c2,c3,c4,c5,c6,rfl⟩
 have h3:Tryz.prog.cellsOf 3=1:=by kernel_rfl
 have h9:Tryz.prog.cellsOf 9=1:=by kernel_rfl
 have h24:Tryz.prog.cellsOf 54=5:=by kernel_rfl
 have f0:DataW.trod enc Tryz.prog W base sp hd n' 9 (List.take (Tryz.prog.cellsOf 9) (List.drop 0 [c0,c1,c2,c3,c4,c5,c6]))=xs[0]?:=hf 0 _ rfl
 have f1:DataW.trod enc Tryz.prog W base sp hd n' 3 (List.take (Tryz.prog.cellsOf 3) (List.drop 1 [c0,c1,c2,c3,c4,c5,c6]))=xs[1]?:=hf 1 _ rfl
 have f2:DataW.trod enc Tryz.prog W base sp hd n' 54 (List.take (Tryz.prog.cellsOf 54) (List.drop 2 [c0,c1,c2,c3,c4,c5,c6]))=xs[2]?:=hf 2 _ rfl
 simp only[h3,h9,h24,List.drop_zero,List.take_succ_cons,List.take_zero,List.drop_succ_cons] at f0 f1 f2
 obtain⟨x0,x1,x2,rfl⟩:∃x0 x1 x2,xs=[x0,x1,x2]:=by
  match xs,hx with
  | [c0,c1,c2],_=>exact⟨c0,c1,c2,rfl⟩
 obtain⟨s,e0,_⟩:=DataW.trod_string Tryz.underlying9 f0
 simp at e0;subst e0
 obtain⟨b,rfl⟩:=qF Tryz.underlying3 f1
 obtain⟨c,hw,u,h1,h2⟩:=elem_cond n' n' _ _ (Nat.le_refl _) (by simp) f2
 refine⟨⟨s,b,c⟩,hw,.agg #[.string s,.int .i64 b,c2,c3,c4,c5,c6],?_,rfl⟩
 cases c
 simp only[zn] at h1
 simp only[zp]
 rw[Rv] at h1 ⊢
 obtain⟨vs,e1,h3⟩:=h1
 subst e1
 have e2:vs = #[c2,c3,c4,c5,c6]:=by simpa [Value.cells] using h2
 subst e2
 exact⟨_,rfl,_,_,rfl,by simp[Rv,Value.oneCell'],_,_,rfl,by simp[Rv,Value.oneCell'],h3⟩
end
end Go.AM
namespace Go.AM
open Go.RowKit Go.ChangeShapes Go.WideShapes Go.Proofs Go.Deep Cw Du
set_option maxRecDepth 10000
section
variable {H : Type} {enc : TypeId × Value → H} {W : World} {base : Nat} {sp : Nat → Bool} {hd : Bool}
theorem rd_intsW {n:Nat} {v:Value} {y:DataW H × List MemPlace} (h:DataW.trod enc Tryz.prog W base sp hd n 70 [v]=some y):∃(nl:Bool) (l:List Int),(l=[]∨nl=false∧1=1)∧l.length≤9223372036854775807∧Rv (G0 W) (.fslc nl false 1 (l.map (iv .i64))) v:=by
 obtain⟨nl,l,hl,hnl,hlen⟩:=rd_slice (fun x:Int=>iv .i64 x) Tryz.underlying70 (by kernel_rfl:Tryz.prog.cellsOf 3=1) (fun x=>rfl)
  (fun cs' n2 y' hlt hc' h'=>by
    obtain⟨c,rfl⟩:∃c,cs'=[c]:=by
     match cs',hc' with
     | [c],_=>exact⟨c,rfl⟩
    obtain⟨a,rfl⟩:=qF Tryz.underlying3 h'
    exact⟨a,.int .i64 a,by simp[Rv,Value.oneCell'],rfl⟩) h
 refine⟨nl,l,?_,Nat.le_trans hlen (by decide),hl⟩
 cases nl with
 | true=>left;rw[hnl rfl]
 | false=>right;exact⟨rfl,rfl⟩
theorem cellsLn_sc (l:Lin):(cellsOf (zX l)).all AV.scalar=true:=by simp[zX,cellsOf,AV.scalar]
theorem elem_line {n:Nat} {cs:List Value} {y:DataW H × List MemPlace} (hc:cs.length=8) (h:DataW.trod enc Tryz.prog W base sp hd n 72 cs=some y):∃x:Lin,(QA x∧x.exc.length≤9223372036854775807)∧∃u,Rv (G0 W) (zX x) u∧u.cells=cs.toArray:=by
 obtain⟨xs,n',en,_,_,hx,hf⟩:=DataW.trod_struct Tryz.underlying72 h
 obtain⟨c0,c1,c2,c3,c4,c5,c6,c7,rfl⟩:∃c0 c1 c2 c3 c4 c5 c6 c7,cs=[c0,c1,c2,c3,c4,c5,c6,c7]:=by
  match cs,hc with
  | [c0,c1,c2,c3,c4,c5,c6,c7],_=>exact⟨c0,c1,c2,c3,c4,c5,c6,c7,rfl⟩
 have h3:Tryz.prog.cellsOf 3=1:=by kernel_rfl
 have h9:Tryz.prog.cellsOf 9=1:=by kernel_rfl
 have h24:Tryz.prog.cellsOf 70=1:=by kernel_rfl
 have f0:DataW.trod enc Tryz.prog W base sp hd n' 3 (List.take (Tryz.prog.cellsOf 3) (List.drop 0 [c0,c1,c2,c3,c4,c5,c6,c7]))=xs[0]?:=hf 0 _ rfl
 have f1:DataW.trod enc Tryz.prog W base sp hd n' 9 (List.take (Tryz.prog.cellsOf 9) (List.drop 1 [c0,c1,c2,c3,c4,c5,c6,c7]))=xs[1]?:=hf 1 _ rfl
 have f2:DataW.trod enc Tryz.prog W base sp hd n' 9 (List.take (Tryz.prog.cellsOf 9) (List.drop 2 [c0,c1,c2,c3,c4,c5,c6,c7]))=xs[2]?:=hf 2 _ rfl
 have f3:DataW.trod enc Tryz.prog W base sp hd n' 9 (List.take (Tryz.prog.cellsOf 9) (List.drop 3 [c0,c1,c2,c3,c4,c5,c6,c7]))=xs[3]?:=hf 3 _ rfl
 have f4:DataW.trod enc Tryz.prog W base sp hd n' 3 (List.take (Tryz.prog.cellsOf 3) (List.drop 4 [c0,c1,c2,c3,c4,c5,c6,c7]))=xs[4]?:=hf 4 _ rfl
 have f5:DataW.trod enc Tryz.prog W base sp hd n' 3 (List.take (Tryz.prog.cellsOf 3) (List.drop 5 [c0,c1,c2,c3,c4,c5,c6,c7]))=xs[5]?:=hf 5 _ rfl
 have f6:DataW.trod enc Tryz.prog W base sp hd n' 3 (List.take (Tryz.prog.cellsOf 3) (List.drop 6 [c0,c1,c2,c3,c4,c5,c6,c7]))=xs[6]?:=hf 6 _ rfl
 have f7:DataW.trod enc Tryz.prog W base sp hd n' 70 (List.take (Tryz.prog.cellsOf 70) (List.drop 7 [c0,c1,c2,c3,c4,c5,c6,c7]))=xs[7]?:=hf 7 _ rfl
 simp only[h3,h9,h24,List.drop_zero,List.take_succ_cons,List.take_zero,List.drop_succ_cons] at f0 f1 f2 f3 f4 f5 f6 f7
 have hx8:xs.length=8:=hx
 rw[List.getElem?_eq_getElem (by omega)] at f0 f1 f2 f3 f4 f5 f6 f7
 obtain⟨k,rfl⟩:=qF Tryz.underlying3 f0
 obtain⟨s1,e1,_⟩:=DataW.trod_string Tryz.underlying9 f1
 obtain⟨s2,e2,_⟩:=DataW.trod_string Tryz.underlying9 f2
 obtain⟨s3,e3,_⟩:=DataW.trod_string Tryz.underlying9 f3
 simp at e1 e2 e3;subst e1 e2 e3
 obtain⟨a,rfl⟩:=qF Tryz.underlying3 f4
 obtain⟨b,rfl⟩:=qF Tryz.underlying3 f5
 obtain⟨c,rfl⟩:=qF Tryz.underlying3 f6
 obtain⟨nl,l,hnl,hl,hr⟩:=rd_intsW f7
 refine⟨⟨k,s1,s2,s3,a,b,c,nl,false,1,l⟩,⟨hnl,hl⟩,.agg #[.int .i64 k,.string s1,.string s2,.string s3,.int .i64 a,.int .i64 b,.int .i64 c,c7],?_,rfl⟩
 simp only[zX]
 rw[Rv]
 exact⟨_,rfl,_,_,rfl,by simp[Rv,Value.oneCell'],_,_,rfl,by simp[Rv,Value.oneCell'],_,_,rfl,by simp[Rv,Value.oneCell'],_,_,rfl,by simp[Rv,Value.oneCell'],_,_,rfl,by simp[Rv,Value.oneCell'],_,_,rfl,by simp[Rv,Value.oneCell'],_,_,rfl,by simp[Rv,Value.oneCell'],_,_,rfl,hr,rfl⟩
theorem rd_linesW {n:Nat} {v:Value} {y:DataW H × List MemPlace} (h:DataW.trod enc Tryz.prog W base sp hd n 23 [v]=some y):∃(nl:Bool) (l:List Lin),(l=[]∨nl=false∧8=8)∧(∀x ∈ l,QA x∧x.exc.length≤9223372036854775807)∧l.length≤9223372036854775807∧Rv (G0 W) (.fslc nl false 8 (l.map zX)) v:=by
 obtain⟨nl,l,hl,hnl,hlen⟩:=rd_slice (fun x:{x:Lin // QA x∧x.exc.length≤9223372036854775807}=>zX x.1) Tryz.underlying23 (by kernel_rfl:Tryz.prog.cellsOf 72=8) (fun x=>cellsLn_sc x.1)
  (fun cs' n2 y' hlt hc' h'=>by
    obtain⟨x,hw,u,h1,h2⟩:=elem_line hc' h'
    exact⟨⟨x,hw⟩,u,h1,h2⟩) h
 refine⟨nl,l.map (·.1),?_,fun o ho=>?_,?_,?_⟩
 ·cases nl with
  | true=>left;rw[hnl rfl];rfl
  | false=>right;exact⟨rfl,rfl⟩
 ·obtain⟨z,_,rfl⟩:=List.mem_map.1 ho
  exact z.2
 ·rw[List.length_map];exact Nat.le_trans hlen (by decide)
 ·rw[List.map_map];exact hl
theorem rd_ordersW {n:Nat} {v:Value} {y:DataW H × List MemPlace} (h:DataW.trod enc Tryz.prog W base sp hd n 24 [v]=some y):∃(nl:Bool) (l:List Ordr),(l=[]∨nl=false∧7=7)∧wfO l∧l.length≤9223372036854775807∧Rv (G0 W) (.fslc nl false 7 (l.map zp)) v:=by
 obtain⟨nl,l,hl,hnl,hlen⟩:=rd_slice (fun x:{x:Ordr // wf x.cond}=>zp x.1) Tryz.underlying24 (by kernel_rfl:Tryz.prog.cellsOf 74=7) (fun x=>cellsO_sc x.1)
  (fun cs' n2 y' hlt hc' h'=>by
    obtain⟨x,hw,u,h1,h2⟩:=elem_order hc' h'
    exact⟨⟨x,hw⟩,u,h1,h2⟩) h
 refine⟨nl,l.map (·.1),?_,fun o ho=>?_,?_,?_⟩
 ·cases nl with
  | true=>left;rw[hnl rfl];rfl
  | false=>right;exact⟨rfl,rfl⟩
 ·obtain⟨z,_,rfl⟩:=List.mem_map.1 ho
  exact z.2
 ·rw[List.length_map];exact Nat.le_trans hlen (by decide)
 ·rw[List.map_map];exact hl
theorem rd_watch {r:Reach} {b0:Nat} {v:Value} {d:DataW H} {p:List MemPlace} (hv:Value.okWide Tryz.prog W r b0 26 v) (h:DataW.Trod enc Tryz.prog W base sp hd 26 v d p):∃(nlL nl:Bool) (ls:List Lin) (l:List Ordr),(ls=[]∨nlL=false∧8=8)∧(∀x ∈ ls,QA x∧x.exc.length≤9223372036854775807)∧ls.length≤9223372036854775807∧(l=[]∨nl=false∧7=7)∧wfO l∧l.length≤9223372036854775807∧Rv (G0 W) (.agg [.fslc nlL false 8 (ls.map zX),.fslc nl false 7 (l.map zp)]) v:=by
 obtain⟨cs,rfl,hsz⟩:=okWide_struct Tryz.underlying26 hv
 have hw:Tryz.prog.cellsOf 26=2:=by kernel_rfl
 obtain⟨fuel,hf⟩:=h
 rw[hw] at hsz
 obtain⟨cl⟩:=cs
 obtain⟨c0,c1,rfl⟩:∃c0 c1,cl=[c0,c1]:=by
  match cl,hsz with
  | [c0,c1],_=>exact⟨c0,c1,rfl⟩
 obtain⟨xs,n',en,_,_,hx,hf⟩:=DataW.trod_struct Tryz.underlying26 hf
 have h1:Tryz.prog.cellsOf 23=1:=by kernel_rfl
 have h2:Tryz.prog.cellsOf 24=1:=by kernel_rfl
 have f0:DataW.trod enc Tryz.prog W base sp hd n' 23 (List.take (Tryz.prog.cellsOf 23) (List.drop 0 [c0,c1]))=xs[0]?:=hf 0 _ rfl
 have f1:DataW.trod enc Tryz.prog W base sp hd n' 24 (List.take (Tryz.prog.cellsOf 24) (List.drop 1 [c0,c1]))=xs[1]?:=hf 1 _ rfl
 simp only[h1,h2,List.drop_zero,List.take_succ_cons,List.take_zero,List.drop_succ_cons] at f0 f1
 have hx2:xs.length=2:=hx
 rw[List.getElem?_eq_getElem (by omega)] at f0 f1
 obtain⟨nlL,ls,a1,a2,a3,a4⟩:=rd_linesW f0
 obtain⟨nl,l,b1,b2,b3,b4⟩:=rd_ordersW f1
 refine⟨nlL,nl,ls,l,a1,a2,a3,b1,b2,b3,?_⟩
 rw[Rv]
 exact⟨_,rfl,_,_,rfl,a4,_,_,rfl,b4,rfl⟩
end
end Go.AM
