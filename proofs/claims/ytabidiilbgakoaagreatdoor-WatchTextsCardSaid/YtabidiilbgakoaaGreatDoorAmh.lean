/- The abstract machine: calls that panic, deferred closures that recover. Conditions: as each theorem says. -/
import Derived.Test.YtabidiilbgakoaaGreatDoorAmg
namespace Go.AM
open Go.RowKit
def pnc (v:Value):List PanicEntry:=[{v,recovered:=false}]
def PBack [Vars] (w0:World) (n:Nat) (G:Gh) (v:Value) (KP:zI→Nat→Prop) (e:Ending) (w':World):Prop:=
 ∃G' h' n',e=.panicked (pnc v)∧(Ext n G G'∧G'.own=G.own)∧Inv w0 G' h' w'∧Zs n' G'∧n≤n'∧KP h' n'
def PCall [Vars] (P:Program) (v:Value) (f:FuncId) (args:List AV) (h:zI) (n:Nat) (KP:zI→Nat→Prop):Prop:=
 JZ P f=true∧∀w0 G w vs,Inv w0 G h w→Zs n G→RvL G args vs→Calls P f vs.toArray w (PBack w0 n G v KP)
theorem PCall.mono [Vars] {P:Program} {v:Value} {f:FuncId} {args:List AV} {h:zI} {n:Nat} {K K':zI→Nat→Prop} (hc:PCall P v f args h n K) (hk:∀h n,K h n→K' h n):PCall P v f args h n K':=
 ⟨hc.1,fun w0 G w vs I hf hr=>(hc.2 w0 G w vs I hf hr).mono fun _ _ ⟨G',h',n',e1,e2,e3,e4,e5,e6⟩=>⟨G',h',n',e1,e2,e3,e4,e5,hk _ _ e6⟩⟩
def ZW [Vars] (P:Program) (v:Value) (o:Oper) (s:List (Nat × AV)) (h:zI) (n:Nat) (KP:zI→Nat→Prop):Prop:=
 o.guard=none∧
  ((∃f args g first cap,Zo o.op=some (f,args)∧ev s f=.func (.func g) first cap∧PCall P v g (first ++ args.map (ev s) ++ cap) h n KP)∨
   (∃x t u,o.op=.panic x∧v=.iface t u∧(∀G z,Rv G (ev s x) z→z=v)∧KP h n))
theorem aPan_agree [Vars] {P:Program} {v:Value} {ops:Array Oper} {o:Oper} {s s':List (Nat × AV)} {h:zI} {n:Nat} {KP:zI→Nat→Prop} (ha:agreeOn (o.looksAt ops) s s') (hp:ZW P v o s h n KP):ZW P v o s' h n KP:=by
 obtain⟨hg,hp⟩:=hp
 have he:=ev_agree ha
 refine⟨hg,?_⟩
 rcases hp with ⟨f,args,g,first,cap,h1,h2,h3⟩ | ⟨x,t,u,h1,h2,h3,h4⟩
 ·left
  refine⟨f,args,g,first,cap,h1,?_⟩
  unfold Zo at h1
  split at h1
  ·rename_i f' aa ats hop
   simp only[Option.some.injEq,Prod.mk.injEq] at h1
   obtain⟨rfl,rfl⟩:=h1
   rw[hop] at he
   simp only[Op.operands,Call.operands] at he
   have e1:=he f' (by simp)
   have e2:aa.toList.map (ev s)=aa.toList.map (ev s'):=List.map_congr_left fun p hm=>he p (by simp only[Array.mem_append];exact .inr (by simpa using hm))
   rw[←e1,←e2]
   exact⟨h2,h3⟩
  ·cases h1
 ·right
  refine⟨x,t,u,h1,h2,?_,h4⟩
  rw[h1] at he
  have e1:=he x (by simp[Op.operands])
  rw[←e1];exact h3
theorem pan_ok [Vars] {P:Program} {v:Value} {w0:World} {G0:Gh} {fl base:Nat} {rem:List Nat} {G:Gh} {st:St} {a:Act} {w:World} {ops:Array Oper} {o:Oper} {KP:zI→Nat→Prop} {Q:Exit→Act→World→Prop}
  (S:RSim w0 G0 fl base rem G st a w) (h:ZW P v o st.s st.h st.n KP) {next:Act→World→Prop}
  (hQ:∀G' h' n' w',Ext fl G0 G'→fl≤n'→Sim w0 G' ⟨st.nt,st.s,h',n'⟩ a w'→KP h' n'→Q (.panic (pnc v)) a w') (r:Option Nat) :
  if Region.wanted o (yielded ops a.tmps) then o.wpIn (FR r) 0 P a w next Q else (∀f,o.about P w a.eval=some f→(FR r).fn f)∧next (a.put o.dst undef) w:=by
 obtain⟨hg,h⟩:=h
 have hsim:=S.sim
 have hev:∀x,Rv G (ev st.s x) (a.eval x):=Qe hsim.inv.oth.vars hsim.slots
 have hw:Region.wanted o (yielded ops a.tmps)=true:=by simp[Region.wanted,hg]
 rw[if_pos hw]
 refine⟨fun _ _=>trivial,?_⟩
 rcases h with ⟨f,args,g,first,cap,hop,hf,hgo,hc⟩ | ⟨x,t,u,hop,rfl,hx,hk⟩
 ·obtain⟨ats,aa,hop',rfl⟩:∃ats aa,o.op=.call {callee:=.value f,args:=aa,argTypes:=ats}∧aa.toList=args:=by
   unfold Zo at hop
   split at hop
   ·rename_i f' a' t' he
    simp only[Option.some.injEq,Prod.mk.injEq] at hop
    obtain⟨rfl,rfl⟩:=hop
    exact⟨_,_,he,rfl⟩
   ·cases hop
  have hnd:∀c,o.op≠.defer c:=fun c e=>by rw[e] at hop';cases hop'
  rw[Oper.semAt_eq _ _ _ hnd]
  have hfv:=hev f
  rw[hf] at hfv
  simp only[Rv] at hfv
  obtain⟨f',c',hfe,hfr,hcr⟩:=hfv
  have hargs:=RvL.append (RvL.append hfr (JH hev aa.toList)) hcr
  have harr:(f'.toList ++ aa.toList.map a.eval ++ c'.toList).toArray=f' ++ aa.map a.eval ++ c':=by
   apply Array.ext';simp
  have hcall:=hc w0 G w _ hsim.inv hsim.fresh hargs
  rw[harr] at hcall
  have hrun:(execOp a.eval o).run P w=.ok (.enter g (f' ++ aa.map a.eval ++ c')) w:=by
   simp only[execOp,hop',resolve,hfe,Deferred.ofValue,Sem.run_bind,Sem.run_pure,Result.andThen_ok,invoke,jp hgo]
  simp only[hrun,Oper.uponIn_enter]
  refine⟨qZ r,calls_FR (hcall.mono ?_)⟩
  rintro e w' ⟨G',h',n',rfl,⟨e2,eo⟩,e3,e4,e5,e6⟩
  have hle:=e2.le hsim.fresh
  refine hQ G' h' n' w' (S.ext.trans (e2.mono S.lim)) (Nat.le_trans S.lim e5) ⟨e3,hsim.size,?_,fun t=>(hsim.slots t).mono hle,e4⟩ e6
  rw[eo,e2.base];exact hsim.defers
 ·have hnd:∀c,o.op≠.defer c:=fun c e=>by rw[e] at hop;cases hop
  rw[Oper.semAt_eq _ _ _ hnd]
  have hz:=hx G _ (hev x)
  have hrun:(execOp a.eval o).run P w=.halt (.panic (.iface t u)) w:=by
   simp only[execOp,hop,hz,Instr.panic]
   rfl
  simp only[hrun,Oper.uponIn_panic]
  exact hQ G st.h st.n w S.ext S.lim hsim hk
theorem ac_pan [Vars] {P:Program} {v:Value} {fl:Nat} {Q:Exit→St→Prop} {st:St} {id:Nat} {ops:Array Oper} (k:Nat) {o:Oper} (KP:zI→Nat→Prop) (hk:ops[k]? = some o)
  (hQ:∀s,fl≤s.n→KP s.h s.n→Q (.panic (pnc v)) s)
  (h:Jb P ops st.n (fun s=>ZW P v o s.s s.h s.n KP) 0 (ops.toList.take k) {st with n:=st.n + ops.size}):ze P fl (.region id ops false) Q st:=by
 intro r w0 G a w hr S hf
 refine wpIn_region_list ?_
 have hk':k < ops.toList.length:=by rw[Array.length_toList];exact (Array.getElem?_eq_some_iff.1 hk).1
 have hd:ops.toList=ops.toList.take k ++ o :: ops.toList.drop (k + 1):=by
  have e:ops.toList[k]? = some o:=by simpa using hk
  rw[List.getElem?_eq_getElem hk'] at e
  cases e
  rw[←List.drop_eq_getElem_cons hk',List.take_append_drop]
 generalize ops.toList.drop (k + 1)=rest at hd
 have hsz:(ops.toList.take k).length≤ops.size:=by rw[List.length_take,Array.length_toList];omega
 rw[hd]
 refine ops_okR (fl:=fl) (r:=r) (w0:=w0) (G0:=G) hf ?_ _ 0 G _ a w (ZD S hf ops.size _ (fun j hj=>by simp only[List.mem_range'] at hj;obtain⟨q,hq,rfl⟩:=hj;omega)) h
 intro G2 s a2 w2 S2 hp
 refine wpListIn_step fun K' hK'=>?_
 exact pan_ok S2 hp (fun G' h' n' w' e1 e2 e3 e4=>⟨G',_,e1,e2,e3,hQ _ e2 e4⟩) r
def bdOK (ops:Array Oper) (k:Nat) (Bd:List Nat):Bool:=Bd.contains k && Bd.all fun i=>i == k || (match ops[i]? with | some o=>o.after.toList.any fun e=>Region.binds .any e && Bd.contains e.on | none=>true)
section
variable {P : Program} {ops : Array Oper}
def aQP [Vars] (P:Program) (v:Value) (ops:Array Oper) (k:Nat) (Bd:List Nat) (KP:zI→Nat→Prop) (base nt:Nat) (h:zI) (n:Nat):Nat→List Oper→List (Nat × AV)→Prop
 | _,[],_=>True
 | i,o :: r,s=>(i=k∧ZW P v o s h n KP∧aQP P v ops k Bd KP base nt h n (i + 1) r (pS o.dst .undef s))∨(i≠k∧i ∈ Bd∧aQP P v ops k Bd KP base nt h n (i + 1) r (pS o.dst .undef s))∨
   (i ∉ Bd∧Zh nt o.dst=true∧∃x,Zx P ops (base + i) o s h n (fun x' h' n'=>x'=x∧h'=h∧n'=n)∧aQP P v ops k Bd KP base nt h n (i + 1) r (pS o.dst x s))
theorem aQP_facts [Vars] {v:Value} {k:Nat} {Bd:List Nat} (hkb:k ∈ Bd) {KP:zI→Nat→Prop} {base nt:Nat} {h:zI} {n:Nat} {S0:List (Nat × AV)}:∀(l:List Oper) (i:Nat) (X0:Nat→AV),ops.toList.drop i=l→aQP P v ops k Bd KP base nt h n i l (ZA ops S0 X0 i)→
  ∃X,(∀j,j < i→X j=X0 j)∧(∀j o,i≤j→ops[j]? = some o→j ∉ Bd→QF P ops base nt h n S0 X j o)∧∀o,i≤k→ops[k]? = some o→ZW P v o (ZA ops S0 X k) h n KP
 | [],i,X0,hd,hq=>by
  have hle:ops.size≤i:=by
   have:=congrArg List.length hd
   rw[List.length_drop,Array.length_toList] at this
   simp at this;omega
  refine⟨X0,fun _ _=>rfl,fun j o hj ho=>?_,fun o hj ho=>?_⟩
  ·have:=(Array.getElem?_eq_some_iff.1 ho).1;omega
  ·have:=(Array.getElem?_eq_some_iff.1 ho).1;omega
 | o :: r,i,X0,hd,hq=>by
  have hi:ops[i]? = some o:=by
   have:=congrArg List.head? hd
   rw[List.head?_drop] at this
   simpa using this
  have hd2:ops.toList.drop (i + 1)=r:=by
   have:=congrArg List.tail hd
   rw[List.tail_drop] at this
   simpa using this
  have go:∀x,aQP P v ops k Bd KP base nt h n (i + 1) r (pS o.dst x (ZA ops S0 X0 i))→∃X,(∀j,j < i→X j=X0 j)∧X i=x∧ZA ops S0 X i=ZA ops S0 X0 i∧(∀j o,i + 1≤j→ops[j]? = some o→j ∉ Bd→QF P ops base nt h n S0 X j o)∧∀o,i + 1≤k→ops[k]? = some o→ZW P v o (ZA ops S0 X k) h n KP:=by
   intro x h3
   obtain⟨X1,hX1⟩:∃X1:Nat→AV,X1=fun j=>if j=i then x else X0 j:=⟨_,rfl⟩
   have e0:ZA ops S0 X1 i=ZA ops S0 X0 i:=jJ i fun j hj=>by rw[hX1];simp only;rw[if_neg (by omega)]
   have e1:X1 i=x:=by rw[hX1];simp
   have e2:ZA ops S0 X1 (i + 1)=pS o.dst x (ZA ops S0 X0 i):=by
    simp only[ZA];rw[hi,e0,e1]
   rw[←e2] at h3
   obtain⟨X,g1,g2,g3⟩:=aQP_facts hkb r (i + 1) X1 hd2 h3
   refine⟨X,fun j hj=>?_,?_,?_,g2,g3⟩
   ·rw[g1 j (by omega),hX1];simp only;rw[if_neg (by omega)]
   ·rw[g1 i (by omega),e1]
   ·rw[←e0];exact jJ i fun j hj=>g1 j (by omega)
  rcases hq with ⟨rfl,hp,h3⟩ | ⟨hik,hib,h3⟩ | ⟨hib,h1,x,h2,h3⟩
  ·obtain⟨X,g1,g2,g3,g4,g5⟩:=go _ h3
   refine⟨X,g1,fun j o' hj ho' hjb=>?_,fun o' hj ho'=>?_⟩
   ·have:j≠i:=fun e=>hjb (e ▸ hkb)
    exact g4 j o' (by omega) ho' hjb
   ·rw[hi] at ho';cases ho'
    rw[g3];exact hp
  ·obtain⟨X,g1,g2,g3,g4,g5⟩:=go _ h3
   refine⟨X,g1,fun j o' hj ho' hjb=>?_,fun o' hj ho'=>g5 o' (by omega) ho'⟩
   have:j≠i:=fun e=>hjb (e ▸ hib)
   exact g4 j o' (by omega) ho' hjb
  ·obtain⟨X,g1,g2,g3,g4,g5⟩:=go _ h3
   refine⟨X,g1,fun j o' hj ho' hjb=>?_,fun o' hj ho'=>?_⟩
   ·by_cases hji:j=i
    ·subst hji
     rw[hi] at ho';cases ho'
     exact⟨h1,by rw[g3,g2];exact h2⟩
    ·exact g4 j o' (by omega) ho' hjb
   ·have:i≠k:=fun e=>hib (e ▸ hkb)
    exact g5 o' (by omega) ho'
theorem qpan_ok [Vars] (r:Option Nat) (hok:qOK ops=true) {v:Value} {k:Nat} {ok:Oper} {Bd:List Nat} (hbd:bdOK ops k Bd=true) (hk:ops[k]? = some ok) {KP:zI→Nat→Prop} {w0:World} {G0:Gh} {fl base nt n:Nat} {h:zI} {S0:List (Nat × AV)} {X:Nat→AV} (hfl:fl≤base) {Q:Exit→Act→World→Prop}
  (hF:∀i o,ops[i]? = some o→i ∉ Bd→QF P ops base nt h n S0 X i o) (hP:ZW P v ok (ZA ops S0 X k) h n KP)
  (hQ:∀G' s h' n' a w',Ext fl G0 G'→fl≤n'→Sim w0 G' ⟨nt,s,h',n'⟩ a w'→KP h' n'→Q (.panic (pnc v)) a w'):∀(fuel:Nat) (rem:List Nat) (listed:Array Bool) (G:Gh) (s:List (Nat × AV)) (a:Act) (w:World),
  rem.length≤fuel→rem.Pairwise (·< ·)→(∀j,j ∈ rem↔j < ops.size∧listed.getD j true=false)→listed.size=ops.size→(∀j,listed.getD j false=true→j ∉ Bd)→SI ops S0 X listed s→
  RSim w0 G0 fl base rem G ⟨nt,s,h,n⟩ a w→wpAnyIn (FR r) 0 P .any ops Q fuel listed a w:=by
 simp only[bdOK,Bool.and_eq_true,List.contains_iff_mem,List.all_eq_true] at hbd
 obtain⟨hkb,hbd⟩:=hbd
 have hks:=(Array.getElem?_eq_some_iff.1 hk).1
 intro fuel
 have hkrem:∀(rem:List Nat) (listed:Array Bool),(∀j,j ∈ rem↔j < ops.size∧listed.getD j true=false)→listed.size=ops.size→(∀j,listed.getD j false=true→j ∉ Bd)→k ∈ rem:=by
  intro rem listed hr hsz hnb
  refine (hr k).2 ⟨hks,?_⟩
  have hlt:k < listed.size:=by omega
  have:=hnb k
  simp only[Array.getD_eq_getD_getElem?,Array.getElem?_eq_getElem hlt,Option.getD_some] at this ⊢
  cases hv:listed[k] with
  | false=>rfl
  | true=>exact absurd hkb (this hv)
 induction fuel with
 | zero=>
  intro rem listed G s a w hf hs hr hsz hnb I S
  have:rem=[]:=List.length_eq_zero_iff.1 (by omega)
  subst this
  have:=hkrem [] listed hr hsz hnb
  simp at this
 | succ fuel ih=>
  intro rem listed G s a w hf hs hr hsz hnb I S
  have hkr:=hkrem rem listed hr hsz hnb
  refine⟨fun hnil=>?_,fun i hi=>?_⟩
  ·cases rem with
   | nil=>simp at hkr
   | cons i r=>
    exfalso
    obtain⟨hi1,hi2⟩:=(hr i).1 (by simp)
    have hready:i ∈ Region.ready .any ops listed:=by
     simp only[Region.ready,List.mem_filter,List.mem_range,Bool.and_eq_true,Bool.not_eq_true']
     refine⟨hi1,hi2,?_⟩
     rw[Array.getElem?_eq_getElem hi1]
     simp only[Option.map_some,Option.getD_some]
     refine Array.all_eq_true_iff_forall_mem.2 fun e he=>?_
     by_cases hb:Region.binds .any e=true
     ·have hlt:=qOK_edge hok (Array.getElem?_eq_getElem hi1) e he hb
      have:listed.getD e.on false=true:=by
       have hne:e.on ∉ i :: r:=by
        intro hm
        rcases List.mem_cons.1 hm with h' | h'
        ·omega
        ·have:=(List.pairwise_cons.1 hs).1 _ h';omega
       have h3:¬(e.on < ops.size∧listed.getD e.on true=false):=fun h'=>hne ((hr _).2 h')
       have hlt2:e.on < listed.size:=by omega
       simp only[Array.getD_eq_getD_getElem?,Array.getElem?_eq_getElem hlt2,Option.getD_some] at h3 ⊢
       cases hv:listed[e.on] with
       | true=>rfl
       | false=>exact absurd ⟨by omega,hv⟩ h3
      simp[this]
     ·simp[hb]
    rw[hnil] at hready
    cases hready
  ·obtain⟨h1,h2,o,ho,h3⟩:=jr hi
   have hirem:i ∈ rem:=(hr i).2 ⟨h1,h2⟩
   by_cases hik:i=k
   ·subst hik
    rw[hk] at ho;cases ho
    have hp:=aPan_agree (I.agree hok hk h3 h2) hP
    have hres:=pan_ok (ops:=ops) (Q:=Q) S hp (next:=wpAnyIn (FR r) 0 P .any ops Q fuel (listed.setIfInBounds i true)) (fun G' h' n' w' e1 e2 e3 e4=>hQ G' s h' n' a w' e1 e2 e3 e4) r
    unfold wpOpIn
    rw[hk]
    simp only
    split at hres
    ·rename_i hw;rw[if_pos hw];exact hres
    ·rename_i hw;rw[if_neg hw];exact hres
   ·have hib:i ∉ Bd:=by
     intro hib
     have:=hbd i hib
     rw[ho] at this
     simp only[Bool.or_eq_true,beq_iff_eq,List.any_eq_true,Bool.and_eq_true,List.contains_iff_mem] at this
     rcases this with h' | ⟨e,he,hb,hm⟩
     ·exact hik h'
     ·exact hnb e.on (h3 e (by simpa using he) hb) hm
    have hnd:rem.Nodup:=hs.imp (fun h=>Nat.ne_of_lt h)
    have hmove:∀j,j ∈ i :: rem.erase i→j ∈ rem:=fun j hj=>by
     rcases List.mem_cons.1 hj with rfl | hj
     ·exact hirem
     ·exact List.mem_of_mem_erase hj
    have hnot:i ∉ rem.erase i:=fun h'=>(hnd.mem_erase_iff.1 h').1 rfl
    obtain⟨f1,f2⟩:=hF i o ho hib
    have hop:aOp P ops (base + i) o ⟨nt,s,h,n⟩ (fun st'=>st'=⟨nt,pS o.dst (X i) s,h,n⟩):=
     ⟨f1,ZV ((Zc (I.agree hok ho h3 h2)).1 f2) fun x h' n' ⟨e1,e2,e3⟩=>by subst e1;subst e2;subst e3;exact put_pS _ _ _ _ _ _⟩
    have hres:=op_ok (Q:=Q) (S.sub hmove) hfl hnot hop (next:=wpAnyIn (FR r) 0 P .any ops Q fuel (listed.setIfInBounds i true)) ?_ r
    ·unfold wpOpIn
     rw[ho]
     simp only
     split at hres
     ·rename_i hw;rw[if_pos hw];exact hres
     ·rename_i hw;rw[if_neg hw];exact hres
    ·intro G' st' a' w' S' h'
     subst h'
     have hil:i < listed.size:=by omega
     refine ih (rem.erase i) _ G' _ a' w' ?_ (hs.sublist List.erase_sublist) (fun j=>?_) (by simpa using hsz) (fun j hj=>?_) (I.step hok ho (by omega) h3) S'
     ·rw[List.length_erase_of_mem hirem];omega
     ·rw[hnd.mem_erase_iff,hr j]
      simp only[Array.getD_eq_getD_getElem?,Array.getElem?_setIfInBounds]
      by_cases hji:i=j
      ·subst hji;simp[hil]
      ·rw[if_neg hji]
       constructor
       ·rintro⟨_,h3⟩;exact h3
       ·intro h3;exact⟨fun e=>hji e.symm,h3⟩
     ·simp only[Array.getD_eq_getD_getElem?,Array.getElem?_setIfInBounds] at hj
      by_cases hji:i=j
      ·subst hji;exact hib
      ·rw[if_neg hji] at hj
       exact hnb j (by simpa [Array.getD_eq_getD_getElem?] using hj)
theorem JY [Vars] {v:Value} {fl:Nat} {Q:Exit→St→Prop} {st:St} {id:Nat} (k:Nat) {o:Oper} (Bd:List Nat) (KP:zI→Nat→Prop) (hm:P.follows .mixedOrders=true) (hok:qOK ops=true) (hbd:bdOK ops k Bd=true) (hk:ops[k]? = some o)
  (hQ:∀s,fl≤s.n→KP s.h s.n→Q (.panic (pnc v)) s)
  (h:aQP P v ops k Bd KP st.n st.nt st.h (st.n + ops.size) 0 ops.toList st.s):ze P fl (.region id ops true) Q st:=by
 intro r w0 G a w hr S hf
 have S':Sim w0 G st a w.drew:=⟨S.inv.drew,S.size,S.defers,S.slots,S.fresh⟩
 have hkb:k ∈ Bd:=by
  simp only[bdOK,Bool.and_eq_true,List.contains_iff_mem] at hbd
  exact hbd.1
 obtain⟨X,_,hF,hP⟩:=aQP_facts hkb (S0:=st.s) ops.toList 0 (fun _=>.undef) rfl h
 refine wpIn_region_any hm (qpan_ok r (base:=st.n) (G0:=G) (w0:=w0) (nt:=st.nt) (n:=st.n + ops.size) (h:=st.h) (S0:=st.s) (X:=X) hok hbd hk hf (fun i o ho hb=>hF i o (Nat.zero_le i) ho hb) (hP o (Nat.zero_le k) hk) (fun G' s h' n' a w' e1 e2 e3 e4=>⟨G',_,e1,e2,e3,hQ _ e2 e4⟩) ops.size (List.range ops.size) _ G st.s a w.drew (by simp) (List.pairwise_lt_range) (fun j=>?_) (by simp) (fun j hj=>?_) ?_ (ZD S' hf ops.size _ (fun j hj=>by simpa using hj)))
 ·simp only[List.mem_range]
  constructor
  ·intro hj;exact⟨hj,by simp[Array.getD_eq_getD_getElem?,hj]⟩
  ·exact fun h=>h.1
 ·simp[Array.getD_eq_getD_getElem?] at hj
  rcases hj':(Array.replicate ops.size false)[j]? with _ | b
  ·simp[hj'] at hj
  ·simp[Array.getElem?_replicate] at hj'
   simp_all
 ·refine⟨fun t j o hj _ hl=>?_,fun t _=>rfl,fun j q hj hl=>?_⟩
  ·have hj':=(Array.getElem?_eq_some_iff.1 hj).1
   simp[Array.getD_eq_getD_getElem?,hj'] at hl
  ·have hj':=(Array.getElem?_eq_some_iff.1 hj).1
   simp[Array.getD_eq_getD_getElem?,hj'] at hl
end
end Go.AM
namespace Go.AM
open Go.RowKit
def J1 [Vars] (P:Program) (fl:Nat) (c:Code) (Q:Exit→St→Prop) (st:St):Prop:=
 ∀r w0 G a w,(∀l,r=some l→l ∈ G.lps)→Sim w0 G st a w→fl≤st.n→Code.wpIn (FR r) 0 P c (fun e a' w'=>∃G' st',Ext fl G G'∧G'.own=G.own∧fl≤st'.n∧Sim w0 G' st' a' w'∧Q e st') a w
section
variable {P : Program} {fl : Nat} {Q : Exit → St → Prop} {st : St}
theorem ao_seq [Vars] {x y:Code} (h:J1 P fl x (zG (J1 P fl y Q) Q) st):J1 P fl (.seq x y) Q st:=by
 intro r w0 G a w hr S hf
 refine wpIn_seq (wpIn_mono (h r w0 G a w hr S hf) ?_)
 rintro e a1 w1 ⟨G1,s1,e1,o1,e2,e3,hq⟩
 cases e with
 | normal=>
  refine wpIn_mono (hq r w0 G1 a1 w1 (fun l hl=>e1.lps _ (hr l hl)) e3 e2) ?_
  rintro e a2 w2 ⟨G2,s2,f1,o2,f2,f3,f4⟩
  exact⟨G2,s2,e1.trans f1,o2.trans o1,f2,f3,f4⟩
 | _=>exact⟨G1,s1,e1,o1,e2,e3,hq⟩
theorem ao_skip [Vars] (h:Q .normal st):J1 P fl .skip Q st:=fun _ _ G _ _ _ S hf=>wpIn_skip ⟨G,st,Ext.refl _ _,rfl,hf,S,h⟩
theorem ao_exit [Vars] {id:Nat} (h:Q (.exit id) st):J1 P fl (.exit id) Q st:=fun _ _ G _ _ _ S hf=>wpIn_exit ⟨G,st,Ext.refl _ _,rfl,hf,S,h⟩
theorem Jh [Vars] {c:Operand} {x y:Code} (h:∀Kt Kf:Prop,zC (J1 P fl x Q st→Kt)→zC (J1 P fl y Q st→Kf)→match ev st.s c with | .c (.bool b)=>(b=true→Kt)∧(b=false→Kf)|_=>False):J1 P fl (.cond c x y) Q st:=by
 have h1:=h _ _ (fun h=>h) (fun h=>h)
 split at h1
 ·rename_i b hc
  intro r w0 G a w hr S hf
  have:=Qe S.inv.oth.vars S.slots c
  rw[hc] at this
  simp only[Rv] at this
  exact wpIn_cond_split this.1 (fun h=>h1.1 h r w0 G a w hr S hf) (fun h=>h1.2 h r w0 G a w hr S hf)
 ·exact h1.elim
theorem ao_block [Vars] {id:Nat} {x:Code} (h:J1 P fl x (zN id Q) st):J1 P fl (.block id x) Q st:=by
 intro r w0 G a w hr S hf
 refine wpIn_block (wpIn_mono (h r w0 G a w hr S hf) ?_)
 rintro e a' w' ⟨G',st',e1,o1,e2,e3,e4⟩
 cases e with
 | exit id'=>
  simp only[zN] at e4
  simp only[Exit.inBlock]
  split
  ·rename_i hid;rw[if_pos hid] at e4;exact⟨G',st',e1,o1,e2,e3,e4⟩
  ·rename_i hid;rw[if_neg hid] at e4;exact⟨G',st',e1,o1,e2,e3,e4⟩
 | _=>exact⟨G',st',e1,o1,e2,e3,e4⟩
theorem ao_region [Vars] {id:Nat} {ops:Array Oper} (h:Jb P ops st.n (Q .normal) 0 ops.toList {st with n:=st.n + ops.size}):J1 P fl (.region id ops false) Q st:=by
 intro r w0 G a w hr S hf
 exact wpIn_region_list (ops_ok (base:=st.n) hf (fun G' s a' w' S' hq=>⟨G',s,S'.ext,S'.own,S'.lim,S'.sim,hq⟩) ops.toList 0 G _ a w
  (ZD S hf ops.size _ (fun j hj=>by simp only[List.mem_range',Array.length_toList] at hj;obtain⟨k,hk,rfl⟩:=hj;omega)) h)
variable {ops : Array Oper}
theorem ao_quiet [Vars] {fl:Nat} {Q:Exit→St→Prop} {st:St} {id:Nat} (hm:P.follows .mixedOrders=true) (hok:qOK ops=true)
  (h:aQ P ops st.n st.nt st.h (st.n + ops.size) (fun s=>Q .normal ⟨st.nt,s,st.h,st.n + ops.size⟩) 0 ops.toList st.s):J1 P fl (.region id ops true) Q st:=by
 intro r w0 G a w hr S hf
 have S':Sim w0 G st a w.drew:=⟨S.inv.drew,S.size,S.defers,S.slots,S.fresh⟩
 obtain⟨X,_,hF,hK⟩:=aQ_facts (S0:=st.s) ops.toList 0 (fun _=>.undef) rfl h
 refine wpIn_region_any hm (quiet_ok r (base:=st.n) (G0:=G) (w0:=w0) (nt:=st.nt) (n:=st.n + ops.size) (h:=st.h) (S0:=st.s) (X:=X) hok hf (fun i o ho=>hF i o (Nat.zero_le i) ho) (fun G' s a' w' S1 hq=>?_) ops.size (List.range ops.size) _ G st.s a w.drew (by simp) (List.pairwise_lt_range) (fun j=>?_) (by simp) ?_ (ZD S' hf ops.size _ (fun j hj=>by simpa using hj)))
 ·refine⟨G',⟨st.nt,ZA ops st.s X ops.size,st.h,st.n + ops.size⟩,S1.ext,S1.own,S1.lim,⟨S1.sim.inv,S1.sim.size,S1.sim.defers,fun t=>?_,S1.sim.fresh⟩,hK⟩
  have:=S1.sim.slots t
  rw[hq t] at this
  exact this
 ·simp only[List.mem_range]
  constructor
  ·intro hj;exact⟨hj,by simp[Array.getD_eq_getD_getElem?,hj]⟩
  ·exact fun h=>h.1
 ·refine⟨fun t j o hj _ hl=>?_,fun t _=>rfl,fun j q hj hl=>?_⟩
  ·have hj':=(Array.getElem?_eq_some_iff.1 hj).1
   simp[Array.getD_eq_getD_getElem?,hj'] at hl
  ·have hj':=(Array.getElem?_eq_some_iff.1 hj).1
   simp[Array.getD_eq_getD_getElem?,hj'] at hl
theorem ao_chain [Vars] (E:List Nat) (Hp:zI→Prop) {fl:Nat} {Q:Exit→St→Prop} {st:St} {id:Nat} (hm:P.follows .mixedOrders=true) (hok:chOK E ops=true) (hp:Hp st.h)
  (h:aC P ops E Hp st.n st.nt (st.n + ops.size) (fun s h=>Q .normal ⟨st.nt,s,h,st.n + ops.size⟩) 0 ops.toList st.s st.h):J1 P fl (.region id ops true) Q st:=by
 intro r w0 G a w hr S hf
 have S':Sim w0 G st a w.drew:=⟨S.inv.drew,S.size,S.defers,S.slots,S.fresh⟩
 obtain⟨X,M,_,hM,hF,hK⟩:=aC_facts (S0:=st.s) ops.toList 0 (fun _=>.undef) (fun _=>st.h) rfl (Nat.zero_le _) h
 have hM0:M 0=st.h:=hM 0 (Nat.le_refl _)
 have hF2:∀i o,ops[i]? = some o→CF P ops E Hp st.n st.nt (st.n + ops.size) st.s X M i o:=fun i o ho=>hF i o (Nat.zero_le i) ho
 have hnf:∀j,(Array.replicate ops.size false).getD j false=false:=fun j=>by
  simp only[Array.getD_eq_getD_getElem?,Array.getElem?_replicate]
  split <;> rfl
 have hnx:M (nx E ops.size (Array.replicate ops.size false))=st.h:=by
  have hlast:=chOK_last hok
  cases hE:E with
  | nil=>rw[hE] at hlast;cases hlast
  | cons x rr=>
   have hx0:E[0]? = some x:=by rw[hE];rfl
   unfold nx
   rw[List.find?_cons,hnf]
   simp only[Bool.not_false,Option.getD_some]
   have hxs:x≤ops.size:=by
    rw[List.getLast?_eq_getElem?] at hlast
    by_cases e:0=E.length - 1
    ·rw[←e,hx0] at hlast;cases hlast;omega
    ·have:=Zw hok hlast hx0 (by omega);omega
   have:=m_const hF2 (a:=0) x (by omega) (fun j _ j2 hj=>by
    obtain⟨l,hl⟩:=List.getElem?_of_mem hj
    rcases Nat.eq_zero_or_pos l with g | g
    ·subst g;rw[hx0] at hl;cases hl;omega
    ·have:=Zw hok hl hx0 g;omega)
   rw[Nat.zero_add] at this
   rw[this,hM0]
 refine wpIn_region_any hm (chain_ok r (base:=st.n) (G0:=G) (w0:=w0) (nt:=st.nt) (n:=st.n + ops.size) (S0:=st.s) (X:=X) (M:=M) hok hf hF2 (by rw[hM0];exact hp) (fun G' s a' w' S1 hq=>?_) ops.size (List.range ops.size) (Array.replicate ops.size false) G st.s a w.drew (by simp) (List.pairwise_lt_range) (fun j=>?_) (by simp) ?_ (fun i o _ hl=>by rw[hnf] at hl;cases hl) (by rw[hnx];exact ZD S' hf ops.size _ (fun j hj=>by simpa using hj)))
 ·refine⟨G',⟨st.nt,ZA ops st.s X ops.size,M ops.size,st.n + ops.size⟩,S1.ext,S1.own,S1.lim,⟨S1.sim.inv,S1.sim.size,S1.sim.defers,fun t=>?_,S1.sim.fresh⟩,hK⟩
  have:=S1.sim.slots t
  rw[hq t] at this
  exact this
 ·simp only[List.mem_range]
  constructor
  ·intro hj;exact⟨hj,by simp[Array.getD_eq_getD_getElem?,hj]⟩
  ·exact fun h=>h.1
 ·refine⟨fun t j o hj _ hl=>?_,fun t _=>rfl,fun j q hj hl=>?_⟩
  ·rw[hnf] at hl;cases hl
  ·rw[hnf] at hl;cases hl
theorem ao_seq_h [Vars] {x y:Code} (h:∀K:St→Prop,zC (∀s,J1 P fl y Q s→K s)→J1 P fl x (zG K Q) st):J1 P fl (.seq x y) Q st:=
 ao_seq (h _ fun _ h=>h)
theorem J8 [Vars] {id:Nat} {ops:Array Oper} (h:∀K:St→Prop,zC (∀s,Q .normal s→K s)→Jb P ops st.n K 0 ops.toList {st with n:=st.n + ops.size}):J1 P fl (.region id ops false) Q st:=
 ao_region (h _ fun _ h=>h)
theorem ao_quiet_h [Vars] {id:Nat} (hm:P.follows .mixedOrders=true) (hok:qOK ops=true)
  (h:∀K:List (Nat × AV)→Prop,zC (∀s,Q .normal ⟨st.nt,s,st.h,st.n + ops.size⟩→K s)→aQ P ops st.n st.nt st.h (st.n + ops.size) K 0 ops.toList st.s):J1 P fl (.region id ops true) Q st:=
 ao_quiet hm hok (h _ fun _ h=>h)
theorem ao_chain_h [Vars] {id:Nat} (E:List Nat) (Hp:zI→Prop) (hm:P.follows .mixedOrders=true) (hok:chOK E ops=true) (hp:Hp st.h)
  (h:∀K:List (Nat × AV)→zI→Prop,zC (∀s h,Q .normal ⟨st.nt,s,h,st.n + ops.size⟩→K s h)→aC P ops E Hp st.n st.nt (st.n + ops.size) K 0 ops.toList st.s st.h):J1 P fl (.region id ops true) Q st:=
 ao_chain E Hp hm hok hp (h _ fun _ _ h=>h)
end
end Go.AM
namespace Go.AM
open Go.RowKit
section
variable {P : Program} {fn : Func} {n : Nat} {w0 : World} {G : Gh} {h : zI} {w : World}
theorem qf [Vars] {st':St} {tmps:Array Value} {D:List Deferred} {R:Ending→World→Prop} {u:FrameMode} (hu:u≠.run):∀(l:List Nat) (G1:Gh) (w1:World),G1.own=l→G1.base.2.1=D→Sim w0 G1 st' {tmps,defers:=l.map mark ++ D} w1→
  (∀w2,Sim w0 {G1 with own:=[]} st' {tmps,defers:=D} w2→LeavesInM (FR none) 0 P fn tmps R D u w2)→LeavesInM (FR none) 0 P fn tmps R (l.map mark ++ D) u w1
 | [],G1,w1,q4,_,S1,h=>by
  have:{G1 with own:=[]}=G1:=by cases G1;simp_all
  rw[this] at h
  exact h w1 S1
 | b :: l,G1,w1,q4,q5,S1,h=>by
  refine⟨hu,.inl ⟨b,_,rfl,run_takeDeferred (S1.inv.oth.own b (by rw[q4];simp)).1,?_⟩⟩
  exact qf hu l {G1 with own:=l} _ rfl q5 ⟨S1.inv.shut q4,S1.size,by simp[q5],fun t=>Rv.mono (show VLe G1 {G1 with own:=l} from ⟨fun _ _ e=>e,fun _ _ e=>e⟩) _ _ (S1.slots t),S1.fresh⟩ h
theorem pleave_end [Vars] (I:Inv w0 G h w) {v:Value} {KP:zI→Nat→Prop} {G1:Gh} {st':St} {tmps:Array Value} {w1:World} (S1:Sim w0 G1 st' {tmps,defers:=[]} w1) (X:XE n G G1) (q5:G1.base=(G.own ++ G.base.1,[],G.base.2.2)) (hn:n≤st'.n) (hK:KP st'.h st'.n) :
  LeavesInM (FR none) 0 P fn tmps (PBack w0 n G v KP) [] (.panicking (pnc v)) w1:=by
 refine⟨{G1 with own:=G.own,base:=G.base},st'.h,st'.n,rfl,⟨⟨X.reg,X.imm,⟨[],rfl⟩,rfl,X.lps⟩,rfl⟩,
  S1.inv.reoth rfl rfl ⟨fun k hk=>⟨S1.inv.oth.base k (by rw[q5];exact List.mem_append.2 (.inl hk)),(I.oth.own k hk).2⟩,fun k hk=>S1.inv.oth.base k (by rw[q5];exact List.mem_append.2 (.inr hk)),I.oth.nd,S1.inv.oth.lps,fun a v e hl=>by have:=S1.inv.oth.old a v e hl;rw[q5] at this;exact this,S1.inv.oth.vars,S1.inv.oth.tabs⟩,S1.fresh,hn,hK⟩
theorem Jd [Vars] {f:FuncId} {c:Code} {args:List AV} {v:Value} {KP:zI→Nat→Prop} (hf:P.funcs[f]? = some fn) (hb:fn.body=some c) (hgo:JZ P f=true) (hlen:args.length≤fn.ntmps)
  (hc:ze P n c (fun e st=>e=.panic (pnc v)∧KP st.h st.n) {nt:=fn.ntmps,s:=zu 0 args,h,n}):PCall P v f args h n KP:=by
 refine⟨hgo,fun w0 G w vs I hfr hr=>?_⟩
 have hl:=hr.length
 obtain⟨Gc,hGc⟩:∃Gc:Gh,Gc = {G with own:=[],base:=(G.own ++ G.base.1,[],G.base.2.2)}:=⟨_,rfl⟩
 have r1:Gc.reg=G.reg:=by rw[hGc]
 have i1:Gc.imm=G.imm:=by rw[hGc]
 have hv1:VLe G Gc:=⟨fun k r e=>by rw[r1];exact e,fun a v e=>by rw[i1];exact e⟩
 have Ic:Inv w0 Gc h w:=I.reoth r1 i1 (by
  rw[hGc]
  refine⟨by simp,fun k hk=>?_,by simpa using I.oth.nd,I.oth.lps,I.oth.old,I.oth.vars,I.oth.tabs⟩
  rcases List.mem_append.1 hk with h' | h'
  ·exact (I.oth.own k h').1
  ·exact I.oth.base k h')
 have hrc:RvL Gc args vs:=hr.mono hv1
 have hfc:Zs n Gc:=fun k hk=>by rw[r1];exact hfr k hk
 refine callsIn_wide.1 (callsIn_of_wp_marks (F:=FR none) (n:=0) hf hb trivial (wpIn_mono (hc none w0 Gc _ w (fun l hl=>by cases hl) ⟨Ic,by simp;omega,by rw[hGc];rfl,fun t=>?_,hfc⟩ (Nat.le_refl _)) ?_))
 ·have:=jK args vs 0 hrc t
  simp only[Nat.zero_le,if_true,Nat.sub_zero] at this
  have e:(vs.toArray ++ Array.replicate (fn.ntmps - vs.toArray.size) undef).getD t undef=vs.getD t undef:=by
   simp only[Array.getD_eq_getD_getElem?,List.getD_eq_getElem?_getD]
   rcases Nat.lt_or_ge t vs.length with ht | ht
   ·rw[Array.getElem?_append_left (by simpa using ht)];simp
   ·rw[Array.getElem?_append_right (by simpa using ht),List.getElem?_eq_none ht]
    simp only[Array.getElem?_replicate]
    split <;> rfl
  rw[e];exact this
 ·rintro e a' w' ⟨G',st',e1,e2,e3,rfl,hK⟩
  have hbase:G'.base=(G.own ++ G.base.1,[],G.base.2.2):=by rw[e1.base,hGc]
  have X0:XE n G Gc:=⟨fun k _=>by rw[r1],fun a v e=>by rw[i1];exact e,fun k hk=>by rw[hGc];exact hk⟩
  have X1:XE n G G':=X0.ext e1 (Nat.le_refl _)
  show LeavesInM _ _ _ _ _ _ a'.defers _ _
  have hd:a'.defers=G'.own.map mark ++ []:=by rw[e3.defers,hbase]
  rw[hd]
  exact qf (by simp) G'.own G' w' rfl (by rw[hbase]) ⟨e3.inv,e3.size,by rw[hbase],e3.slots,e3.fresh⟩ fun w2 S2=>pleave_end I S2 (X1.same rfl rfl rfl) hbase e2 hK
def PDCalls [Vars] (P:Program) (v:Value) (f:FuncId) (args:List AV) (h:zI) (n:Nat) (K:AV→zI→Nat→Prop):Prop:=
 JZ P f=true∧∀w0 G w vs,Inv w0 G h w→Zs n G→RvL G args vs→
  CallsDIn (FR none) 0 P f vs.toArray (.panicking (pnc v)) w fun e u' w'=>u'=.panicking [{v,recovered:=true}]∧qU w0 n G K e w'
theorem dcl_gen [Vars] {f:FuncId} {id:Nat} {o:Oper} {rest:Code} {args:List AV} {K:AV→zI→Nat→Prop} {u u':FrameMode} {x:AV} {xv:Value} (hf:P.funcs[f]? = some fn) (hb:fn.body=some (.seq (.region id #[o] false) rest)) (hlen:args.length≤fn.ntmps)
  (ho:isRec o.op=true) (hg:o.guard=none) (hd:Zh fn.ntmps o.dst=true) (hx:∀G,Rv G x xv)
  (hrec:∀(c₀:Frame) (cs:List Frame),c₀.mode=u→(recoverD (c₀ :: cs)=some (xv,{c₀ with mode:=u'} :: cs))∨(recoverD (c₀ :: cs)=none∧xv=.nilIface∧u'=u))
  (hc:J1 P n rest (fun e st=>(e=.normal∨e=.ret)∧∃xs,j5 P st.s st.h fn.results.toList=some xs∧Zg n K (zr xs) st.h st.n) (put ⟨fn.ntmps,zu 0 args,h,n + 1⟩ o.dst x))
  {w0:World} {G:Gh} {w:World} {vs:List Value} (I:Inv w0 G h w) (hfr:Zs n G) (hr:RvL G args vs) :
  CallsDIn (FR none) 0 P f vs.toArray u w fun e u2 w'=>u2=u'∧qU w0 n G K e w':=by
 have hl:=hr.length
 obtain⟨Gc,hGc⟩:∃Gc:Gh,Gc = {G with own:=[],base:=(G.own ++ G.base.1,[],G.base.2.2)}:=⟨_,rfl⟩
 have r1:Gc.reg=G.reg:=by rw[hGc]
 have i1:Gc.imm=G.imm:=by rw[hGc]
 have hv1:VLe G Gc:=⟨fun k r e=>by rw[r1];exact e,fun a v e=>by rw[i1];exact e⟩
 have Ic:Inv w0 Gc h w:=I.reoth r1 i1 (by
  rw[hGc]
  refine⟨by simp,fun k hk=>?_,by simpa using I.oth.nd,I.oth.lps,I.oth.old,I.oth.vars,I.oth.tabs⟩
  rcases List.mem_append.1 hk with h' | h'
  ·exact (I.oth.own k h').1
  ·exact I.oth.base k h')
 have hrc:RvL Gc args vs:=hr.mono hv1
 have hfc:Zs n Gc:=fun k hk=>by rw[r1];exact hfr k hk
 have S0:Sim w0 Gc ⟨fn.ntmps,zu 0 args,h,n⟩ {tmps:=vs.toArray ++ Array.replicate (fn.ntmps - vs.toArray.size) undef,defers:=[]} w:=by
  refine⟨Ic,by simp;omega,by rw[hGc];rfl,fun t=>?_,hfc⟩
  have:=jK args vs 0 hrc t
  simp only[Nat.zero_le,if_true,Nat.sub_zero] at this
  have e:(vs.toArray ++ Array.replicate (fn.ntmps - vs.toArray.size) undef).getD t undef=vs.getD t undef:=by
   simp only[Array.getD_eq_getD_getElem?,List.getD_eq_getElem?_getD]
   rcases Nat.lt_or_ge t vs.length with ht | ht
   ·rw[Array.getElem?_append_left (by simpa using ht)];simp
   ·rw[Array.getElem?_append_right (by simpa using ht),List.getElem?_eq_none ht]
    simp only[Array.getElem?_replicate]
    split <;> rfl
  rw[e];exact this
 obtain⟨a0,ha0⟩:∃a0:Act,a0 = {tmps:=vs.toArray ++ Array.replicate (fn.ntmps - vs.toArray.size) undef,defers:=[]}:=⟨_,rfl⟩
 rw[←ha0] at S0
 refine callsDIn_of_wpSIn hf hb trivial fun c₀ cs hu=>?_
 rw[←ha0]
 refine wpSIn_seq (wpSIn_region ?_)
 have hsz:(#[o]:Array Oper).size=1:=rfl
 rw[hsz]
 have hr1:List.range 1=[0]:=rfl
 rw[hr1]
 simp only[wpOpsSIn]
 have h0:(#[o]:Array Oper)[0]? = some o:=rfl
 simp only[h0]
 refine⟨fun _ _=>trivial,?_⟩
 have hw:Region.wanted o (yielded #[o] a0.tmps)=true:=by simp[Region.wanted,hg]
 rw[hw]
 simp only[if_true]
 have hrun:(execOp a0.eval o).run P w=.ok .recover w:=by
  unfold isRec at ho
  split at ho
  ·rename_i c1 c2 c3 hop
   simp only[execOp,hop,resolve,Sem.run_bind,Sem.run_pure,Result.andThen_ok,invoke,builtin]
  ·cases ho
 simp only[hrun]
 have key:∀cs2,cs2 = {c₀ with mode:=u'} :: cs→rest.wpSIn (FR none) 0 P (bodyPostS P fn c₀ cs fun e u2 w'=>u2=u'∧qU w0 n G K e w') (a0.put o.dst xv) cs2 w:=by
  intro cs2 hcs2
  have S1:Sim w0 Gc (put ⟨fn.ntmps,zu 0 args,h,n + 1⟩ o.dst x) (a0.put o.dst xv) w:=by
   refine⟨?_,?_,?_,?_,?_⟩
   ·rw[put_nt.2.1];exact S0.inv
   ·rw[Jv,put_nt.1];exact S0.size
   ·rw[jj];exact S0.defers
   ·exact JA (st:=⟨fn.ntmps,zu 0 args,h,n + 1⟩) S0.slots S0.size hd (hx Gc)
   ·rw[put_nt.2.2];exact fun k hk=>hfc k (by simp only at hk;omega)
  refine wpSIn_of_wpIn rfl (wpIn_mono (hc none w0 Gc _ w (fun l hl=>by cases hl) S1 (by rw[put_nt.2.2];exact Nat.le_succ _)) ?_)
  rintro e' a' w' ⟨G',st',e1,o1,e2,e3,he,xs,e4,e5⟩
  have hbase:G'.base=(G.own ++ G.base.1,[],G.base.2.2):=by rw[e1.base,hGc]
  have hown:G'.own=[]:=by rw[o1,hGc]
  have hdef:a'.defers=[]:=by rw[e3.defers,hown,hbase];rfl
  have S':Sim w0 G' st' {tmps:=a'.tmps,defers:=[]} w':=⟨e3.inv,e3.size,by rw[hown,hbase];rfl,e3.slots,e3.fresh⟩
  obtain⟨v,h1,h2⟩:=qS (P:=P) (fn:=fn) (K:=K) I S' ⟨fun k hk=>by rw[e1.reg k hk,r1],fun a v e=>e1.imm _ _ (by rw[i1];exact e),fun b hb=>e1.lps _ (by rw[hGc];exact hb)⟩ hown hbase ⟨e2,xs,e4,e5⟩
  rcases he with rfl | rfl
  ·exact⟨hdef,u',hcs2,v,h1,rfl,h2⟩
  ·exact⟨hdef,u',hcs2,v,h1,rfl,h2⟩
 rcases hrec c₀ cs hu with hrc' | ⟨hrc',rfl,rfl⟩
 ·rw[hrc']
  exact key _ rfl
 ·rw[hrc']
  exact key _ (by rw[←hu])
theorem pdcalls_of [Vars] {f:FuncId} {id:Nat} {o:Oper} {rest:Code} {args:List AV} {K:AV→zI→Nat→Prop} {x:AV} {v:Value} (hf:P.funcs[f]? = some fn) (hb:fn.body=some (.seq (.region id #[o] false) rest)) (hgo:JZ P f=true) (hlen:args.length≤fn.ntmps)
  (ho:isRec o.op=true) (hg:o.guard=none) (hd:Zh fn.ntmps o.dst=true) (hx:∀G,Rv G x v)
  (hc:J1 P n rest (fun e st=>(e=.normal∨e=.ret)∧∃xs,j5 P st.s st.h fn.results.toList=some xs∧Zg n K (zr xs) st.h st.n) (put ⟨fn.ntmps,zu 0 args,h,n + 1⟩ o.dst x)):PDCalls P v f args h n K:=
 ⟨hgo,fun _ _ _ _ I hfr hr=>dcl_gen hf hb hlen ho hg hd hx (fun c₀ cs hu=>.inl (by simp[recoverD,hu,pnc])) hc I hfr hr⟩
theorem adcalls_of [Vars] {f:FuncId} {id:Nat} {o:Oper} {rest:Code} {args:List AV} {K:AV→zI→Nat→Prop} (hf:P.funcs[f]? = some fn) (hb:fn.body=some (.seq (.region id #[o] false) rest)) (hgo:JZ P f=true) (hlen:args.length≤fn.ntmps)
  (ho:isRec o.op=true) (hg:o.guard=none) (hd:Zh fn.ntmps o.dst=true)
  (hc:J1 P n rest (fun e st=>(e=.normal∨e=.ret)∧∃xs,j5 P st.s st.h fn.results.toList=some xs∧Zg n K (zr xs) st.h st.n) (put ⟨fn.ntmps,zu 0 args,h,n + 1⟩ o.dst (.c .nilIface))):J4 P f args h n K:=
 ⟨hgo,fun _ _ _ _ I hfr hr=>dcl_gen hf hb hlen ho hg hd (x:=.c .nilIface) (xv:=.nilIface) (fun G=>by simp[Rv,Value.oneCell']) (fun c₀ cs hu=>.inr ⟨by simp[recoverD,hu],rfl,rfl⟩) hc I hfr hr⟩
end
section
variable {P : Program} {fn : Func} {n : Nat} {K : AV → zI → Nat → Prop} {w0 : World} {G : Gh} {h : zI} {w : World}
theorem leave_deferP [Vars] (I:Inv w0 G h w) {v:Value} {G1:Gh} {st':St} {tmps:Array Value} {w1:World} {lo:List Nat} {d:Deferred} {g:FuncId} {dl:List AV}
  (S1:Sim w0 G1 st' {tmps,defers:=d :: lo.map mark} w1) (X:XE n G G1) (hn:n≤st'.n) (q4:G1.own=[]) (q5:G1.base=(lo ++ (G.own ++ G.base.1),d :: lo.map mark,G.base.2.2)) (hlo:∀b ∈ lo,w0.heap.size≤b)
  (hd:DOk G1 d g dl) (hc:PDCalls P v g dl st'.h st'.n fun _ h' n'=>Fin P fn n K {st' with h:=h',n:=n'}):LeavesInM (FR none) 0 P fn tmps (qU w0 n G K) (d :: lo.map mark) (.panicking (pnc v)) w1:=by
 obtain⟨f',c',rfl,hv⟩:=hd
 obtain⟨hgo,hc⟩:=hc
 have hcall:=hc w0 G1 w1 _ S1.inv S1.fresh hv
 have harr:(f'.toList ++ c'.toList).toArray=f' ++ c':=by apply Array.ext';simp
 rw[harr] at hcall
 refine⟨by simp,.inr ⟨qZ none,.func g,c',g,f' ++ c',rfl,?_,fun _ _=>trivial,hcall.mono ?_⟩⟩
 ·simp only[invoke,jp hgo]
 ·rintro e u' w2 ⟨rfl,G',r,x,h',n',rfl,⟨e2,eo⟩,e3,e4,e5,e6,e7⟩
  have hset:settle (.panicking [{v,recovered:=true}])=.returning:=rfl
  simp only[hset]
  have hle:=e2.le S1.fresh
  have hb:G'.base=(lo ++ (G.own ++ G.base.1),{target:=.fn (.func g) c',args:=f'} :: lo.map mark,G.base.2.2):=by rw[e2.base,q5]
  have ho:G'.own=[]:=by rw[eo,q4]
  have S2:Sim w0 {G' with own:=lo,base:=(G.own ++ G.base.1,[],G.base.2.2)} {st' with h:=h',n:=n'} {tmps,defers:=lo.map mark ++ []} w2:=by
   refine⟨e3.reoth rfl rfl ⟨fun k hk=>⟨e3.oth.base k (by rw[hb];exact List.mem_append.2 (.inl hk)),hlo k hk⟩,fun k hk=>e3.oth.base k (by rw[hb];exact List.mem_append.2 (.inr hk)),?_,e3.oth.lps,fun a v e hl=>by have:=e3.oth.old a v e hl;rw[hb] at this;exact this,e3.oth.vars,e3.oth.tabs⟩,S1.size,rfl,fun t=>Rv.mono (G:=G1) (G':={G' with own:=lo,base:=(G.own ++ G.base.1,[],G.base.2.2)}) ⟨hle.reg,hle.imm⟩ _ _ (S1.slots t),e4⟩
   have:=e3.oth.nd
   rw[ho,hb] at this
   simpa using this
  have:=jo (P:=P) (fn:=fn) (R:=qU w0 n G K) (D:=[]) lo _ w2 rfl rfl S2 fun w3 S3=>qS I S3 ⟨fun k hk=>?_,fun a v e=>e2.imm _ _ (X.imm _ _ e),fun b hb=>e2.lps _ (X.lps _ hb)⟩ rfl rfl e7
  ·simpa using this
  ·show G'.reg k=G.reg k
   rw[e2.reg k (by omega),X.reg k hk]
def DCX [Vars] (P:Program) (fn:Func) (n:Nat) (K:AV→zI→Nat→Prop) (c:Code) (st:St):Prop:=
 ∀(w0:World) (G:Gh) (h:zI) (w:World),Inv w0 G h w→∀G1 a w1,XE n G G1→G1.base=(G.own ++ G.base.1,[],G.base.2.2)→Sim w0 G1 st a w1→n≤st.n→
  Code.wpIn (FR none) 0 P c (bodyPostM (FR none) 0 P fn (qU w0 n G K)) a w1
def dcxK [Vars] (P:Program) (fn:Func) (n:Nat) (K:AV→zI→Nat→Prop) (y:Code):Exit→St→Prop
 | .normal,s=>DCX P fn n K y s
 | .ret,s=>Fin P fn n K s
 | _,_=>False
theorem dcx_seq [Vars] {x y:Code} {st:St} (hc:ze P n x (dcxK P fn n K y) st):DCX P fn n K (.seq x y) st:=by
 intro w0 G h w I G1 a w1 X hb S hn
 refine wpIn_seq (wpIn_mono (hc none w0 G1 a w1 (fun l hl=>by cases hl) S hn) ?_)
 rintro e a' w' ⟨G',st',e1,e2,e3,hq⟩
 cases e with
 | normal=>exact hq w0 G h w I G' a' w' (X.ext e1 (Nat.le_refl _)) (by rw[e1.base,hb]) e3 e2
 | ret=>exact dc_fin I (X.ext e1 (Nat.le_refl _)) (by rw[e1.base,hb]) e3 hq
 | _=>exact hq.elim
theorem calls_of_dcx [Vars] {f:FuncId} {c:Code} {args:List AV} {h:zI} (hf:P.funcs[f]? = some fn) (hb:fn.body=some c) (hgo:JZ P f=true) (hlen:args.length≤fn.ntmps)
  (hc:DCX P fn n K c {nt:=fn.ntmps,s:=zu 0 args,h,n}):zQ P f args h n K:=by
 refine⟨hgo,fun w0 G w vs I hfr hr=>?_⟩
 have hl:=hr.length
 obtain⟨Gc,hGc⟩:∃Gc:Gh,Gc = {G with own:=[],base:=(G.own ++ G.base.1,[],G.base.2.2)}:=⟨_,rfl⟩
 have r1:Gc.reg=G.reg:=by rw[hGc]
 have i1:Gc.imm=G.imm:=by rw[hGc]
 have hv1:VLe G Gc:=⟨fun k r e=>by rw[r1];exact e,fun a v e=>by rw[i1];exact e⟩
 have Ic:Inv w0 Gc h w:=I.reoth r1 i1 (by
  rw[hGc]
  refine⟨by simp,fun k hk=>?_,by simpa using I.oth.nd,I.oth.lps,I.oth.old,I.oth.vars,I.oth.tabs⟩
  rcases List.mem_append.1 hk with h' | h'
  ·exact (I.oth.own k h').1
  ·exact I.oth.base k h')
 have hrc:RvL Gc args vs:=hr.mono hv1
 have hfc:Zs n Gc:=fun k hk=>by rw[r1];exact hfr k hk
 refine callsIn_wide.1 (callsIn_of_wp_marks (F:=FR none) (n:=0) hf hb trivial (wpIn_mono (hc w0 G h w I Gc _ w ⟨fun k _=>by rw[r1],fun a v e=>by rw[i1];exact e,fun k hk=>by rw[hGc];exact hk⟩ (by rw[hGc]) ⟨Ic,by simp;omega,by rw[hGc];rfl,fun t=>?_,hfc⟩ (Nat.le_refl _)) ?_))
 ·have:=jK args vs 0 hrc t
  simp only[Nat.zero_le,if_true,Nat.sub_zero] at this
  have e:(vs.toArray ++ Array.replicate (fn.ntmps - vs.toArray.size) undef).getD t undef=vs.getD t undef:=by
   simp only[Array.getD_eq_getD_getElem?,List.getD_eq_getElem?_getD]
   rcases Nat.lt_or_ge t vs.length with ht | ht
   ·rw[Array.getElem?_append_left (by simpa using ht)];simp
   ·rw[Array.getElem?_append_right (by simpa using ht),List.getElem?_eq_none ht]
    simp only[Array.getElem?_replicate]
    split <;> rfl
  rw[e];exact this
 ·exact fun e a' w' hL=>hL
def defKX [Vars] (P:Program) (v:Value) (fn:Func) (n:Nat) (K:AV→zI→Nat→Prop) (fo:Operand) (as:List Operand) (B:Code) (st:St):Prop:=
 n≤st.n→∃g first cap,ev st.s fo=.func (.func g) first cap∧
  ze P st.n B (fun e s=>((e=.normal∨e=.ret)∧n≤s.n∧J4 P g (first ++ as.map (ev st.s) ++ cap) s.h s.n fun _ h' n'=>Fin P fn n K {s with h:=h',n:=n'})∨
   (e=.panic (pnc v)∧n≤s.n∧PDCalls P v g (first ++ as.map (ev st.s) ++ cap) s.h s.n fun _ h' n'=>Fin P fn n K {s with h:=h',n:=n'})) st
theorem dcx_defer [Vars] {v:Value} {id:Nat} {ops:Array Oper} {pre:List Oper} {o:Oper} {c:Call} {fo:Operand} {B:Code} {st:St} (hops:ops.toList=pre ++ [o]) (ho:o.op=.defer c) (hc:c.callee=.value fo) (hg:o.guard=none) (hdst:o.dst=none)
  (hp:Jb P ops st.n (defKX P v fn n K fo c.args.toList B) 0 pre {st with n:=st.n + ops.size}):DCX P fn n K (.seq (.region id ops false) B) st:=by
 intro w0 G h w I G1 a w1 X hb S hn
 refine wpIn_seq (wpIn_region_list ?_)
 rw[hops]
 have hsz:pre.length≤ops.size:=by rw[←Array.length_toList,hops];simp
 refine ops_okR (fl:=n) (r:=none) (w0:=w0) (G0:=G1) hn ?_ pre 0 G1 _ a w1 (ZD S hn ops.size _ (fun j hj=>by simp only[List.mem_range'] at hj;obtain⟨k,hk,rfl⟩:=hj;omega)) hp
 intro G2 s a2 w2 S2 hdk
 obtain⟨g,first,cap,hf,hB⟩:=hdk S2.lim
 refine wpListIn_step fun K' hK'=>?_
 have hw:Region.wanted o (yielded ops a2.tmps)=true:=by simp[Region.wanted,hg]
 rw[hw]
 simp only[if_true]
 have hev:=Qe S2.sim.inv.oth.vars S2.sim.slots
 have hfv:=hev fo
 rw[hf] at hfv
 simp only[Rv] at hfv
 obtain⟨f',c',hfe,hfr,hcr⟩:=hfv
 have hrun:(execOp a2.eval o).run P w2=.ok (.defer {target:=.fn (.func g) c',args:=f' ++ c.args.map a2.eval}) w2:=by
  simp only[execOp,ho,resolve,hc,hfe,Deferred.ofValue,Sem.run_bind,Sem.run_pure,Result.andThen_ok]
 refine⟨fun _ _=>trivial,?_⟩
 have e0:o.semAt (FR none).round a2.eval=execOp a2.eval o:=Oper.semAt_none _ _
 rw[e0,hrun,Oper.uponIn_defer]
 apply hK'
 refine wpListIn_nil ?_
 obtain⟨d,hd⟩:∃d:Deferred,d = {target:=.fn (.func g) c',args:=f' ++ c.args.map a2.eval}:=⟨_,rfl⟩
 rw[←hd]
 have hb2:G2.base=(G.own ++ G.base.1,[],G.base.2.2):=by rw[S2.ext.base,hb]
 obtain⟨G3,hG3⟩:∃G3:Gh,G3 = {G2 with own:=[],base:=(G2.own ++ (G.own ++ G.base.1),d :: G2.own.map mark,G.base.2.2)}:=⟨_,rfl⟩
 have hv3:VLe G2 G3:=by rw[hG3];exact⟨fun _ _ e=>e,fun _ _ e=>e⟩
 have S3:Sim w0 G3 s {tmps:=a2.tmps,defers:=d :: a2.defers} w2:=by
  have S:=S2.sim
  refine⟨S.inv.reoth (by rw[hG3]) (by rw[hG3]) ?_,S.size,by rw[hG3,S.defers,hb2];simp,fun t=>(S.slots t).mono hv3,by rw[hG3];exact S.fresh⟩
  rw[hG3]
  have o:=S.inv.oth
  refine⟨fun k hk=>(by cases hk),fun k hk=>?_,?_,o.lps,fun a v e hl=>by have:=o.old a v e hl;rw[hb2] at this;exact this,o.vars,o.tabs⟩
  ·rcases List.mem_append.1 hk with h' | h'
   ·exact (o.own k h').1
   ·exact o.base k (by rw[hb2];exact h')
  ·have:=o.nd
   rw[hb2] at this
   simpa using this
 have hput:(({a2 with defers:=d :: a2.defers}:Act).put o.dst undef) = {tmps:=a2.tmps,defers:=d :: a2.defers}:=by rw[hdst];rfl
 rw[hput]
 refine wpIn_mono (hB none w0 G3 _ w2 (fun l hl=>by cases hl) S3 (Nat.le_refl _)) ?_
 rintro e a4 w4 ⟨G4,s4,x1,x2,x3,hq⟩
 have hb4:G4.base=(G2.own ++ (G.own ++ G.base.1),d :: G2.own.map mark,G.base.2.2):=by rw[x1.base,hG3]
 have hd4:a4.defers=G4.own.map mark ++ (d :: G2.own.map mark):=by rw[x3.defers,hb4]
 have X3:XE n G G3:=(X.ext S2.ext (Nat.le_refl _)).same (by rw[hG3]) (by rw[hG3]) (by rw[hG3])
 have X4:XE n G G4:=X3.ext x1 (Nat.le_trans (by have:=S2.lim;omega) (Nat.le_refl _))
 have f3:Zs s.n G3:=S3.fresh
 rcases hq with ⟨he,hn4,hD⟩ | ⟨rfl,hn4,hD⟩
 ·have main:LeavesInM (FR none) 0 P fn a4.tmps (qU w0 n G K) a4.defers .returning w4:=by
   rw[hd4]
   refine jo G4.own G4 w4 rfl (by rw[hb4]) ⟨x3.inv,x3.size,by rw[hb4],x3.slots,x3.fresh⟩ fun w5 S5=>?_
   refine leave_defer (dl:=first ++ c.args.toList.map (ev s.s) ++ cap) I S5 (X4.same rfl rfl rfl) hn4 rfl hb4 (fun b hb=>(S2.sim.inv.oth.own b hb).2) ⟨f' ++ c.args.map a2.eval,c',hd,?_⟩ hD
   have hargs:=RvL.append (RvL.append hfr (JH hev c.args.toList)) hcr
   have:=(hargs.mono hv3).mono (x1.le f3)
   have h5:=RvL.mono (show VLe G4 {G4 with own:=[]} from ⟨fun _ _ e=>e,fun _ _ e=>e⟩) _ _ this
   simpa using h5
  rcases he with rfl | rfl <;> exact main
 ·show LeavesInM (FR none) 0 P fn a4.tmps (qU w0 n G K) a4.defers (.panicking (pnc v)) w4
  rw[hd4]
  refine qf (by simp) G4.own G4 w4 rfl (by rw[hb4]) ⟨x3.inv,x3.size,by rw[hb4],x3.slots,x3.fresh⟩ fun w5 S5=>?_
  refine leave_deferP (dl:=first ++ c.args.toList.map (ev s.s) ++ cap) I S5 (X4.same rfl rfl rfl) hn4 rfl hb4 (fun b hb=>(S2.sim.inv.oth.own b hb).2) ⟨f' ++ c.args.map a2.eval,c',hd,?_⟩ hD
  have hargs:=RvL.append (RvL.append hfr (JH hev c.args.toList)) hcr
  have:=(hargs.mono hv3).mono (x1.le f3)
  have h5:=RvL.mono (show VLe G4 {G4 with own:=[]} from ⟨fun _ _ e=>e,fun _ _ e=>e⟩) _ _ this
  simpa using h5
end
end Go.AM
