/- Reading a source with a function, and its deferred closure. Conditions: as each theorem says. -/
import Derived.Test.YtabidiilbgakoaaGreatDoorQf
namespace Go.AM
open Go.Proofs Cw Du
set_option maxRecDepth 10000
set_option maxHeartbeats 4000000
theorem rclo_ok {h:zI} {n a b c d:Nat} {K:AV→zI→Nat→Prop} (hk:∀n',n≤n'→K (.tup []) h n'):J4 Tryz.prog 107 [.ptr a 0,.ptr b 0,.ptr c 0,.ptr d 0] h n K:=by
 refine adcalls_of Tryz.func107 rfl (by kernel_rfl) (by simp[Tryz.ntmps107]) rfl rfl (by simp[Zh]) ?_
 replace hk:zC _:=hk
 simp only[go_sem]
 repeat' (first|(refine ao_seq_h fun K hK=>?_)|(refine J8 fun K hK=>?_;simp (disch:=omega) [go_sem, *,Tryz.ntmps107])|(apply zC.out hK;clear hK K;try with_reducible dsimp only[zG])|(apply zC.out ht;clear ht hf Kt Kf)|(refine ao_block ?_)|(refine Jh fun Kt Kf ht hf=>?_;simp (disch:=omega) [go_sem, *];try (refine⟨fun hc=>?_,fun hc=>?_⟩ <;> try (exfalso;omega))))
 dsimp only[zN,zG]
 exact⟨.inl rfl,[],rfl,zY (hk.out _ (by omega))⟩
theorem rclo_bad {T:List Tk} {nl fu:Bool} {z:Nat} {h:zI} {n a b c d o k:Nat} {s:ByteArray} {e0 a0:AV} (s1:h o=some (atO T nl fu z k)) (hfl:T=[]∨nl=false∧z=3) (_lT:T.length≤1000000) (_hs:s.size≤1000000) (h1:h a=some (.cells [sv s])) (h2:h b=some (.cells [e0])) (h3:h c=some (.cells [a0])) (h4:h d=some (.cells [.ptr o 0])) (hbn:b < n) (hcn:c < n) (han:a < n) (hdn:d < n) (hon:o < n)
  (q1:b≠c) (q2:d≠b) (q3:d≠c) (q4:o≠b) (q5:o≠c) {K:AV→zI→Nat→Prop}
  (hk:∀h' n',n≤n'→h' b=some (.cells [iv .i64 7])→h' c=some (.cells [iv .i64 (posM T s k)])→(∀x,x < n→x≠b→x≠c→h' x=h x)→K (.tup []) h' n') :
  PDCalls Tryz.prog zW 107 [.ptr a 0,.ptr b 0,.ptr c 0,.ptr d 0] h n K:=by
 refine pdcalls_of (x:=.iface 189 (.agg [])) Tryz.func107 rfl (by kernel_rfl) (by simp[Tryz.ntmps107]) rfl rfl (by simp[Zh]) (fun G=>by simp[Rv,RvL,zW]) ?_
 replace hk:zC _:=hk
 have kas:aAssert Tryz.prog (.iface 189 (.agg [])) 189 true=some (.tup [.agg [],bv true]):=by kernel_rfl
 have hTl:(T.map tkP).length=T.length:=List.length_map _
 simp only[go_sem]
 by_cases hlt:k < T.length
 ·obtain⟨t,ht,hts,_,hex⟩:=at_tk hlt
  have hne:T≠[]:=fun e=>by rw[e] at hlt;simp at hlt
  obtain⟨rfl,rfl⟩:=hfl.resolve_left hne
  have hpos:posM T s k=t.pos:=by rw[posM,hts]
  rw[hpos] at hk
  replace hk:zC _:=hk
  clear hfl hts hne ht hpos
  repeat' (first|(refine ao_seq_h fun K hK=>?_)|(refine J8 fun K hK=>?_;simp (disch:=omega) [go_sem, *,zB,Tryz.ntmps107])|(apply zC.out hK;clear hK K;try with_reducible dsimp only[zG])|(apply zC.out ht;clear ht hf Kt Kf)|(apply zC.out hf;clear ht hf Kt Kf)|(refine ao_block ?_)|(refine Jh fun Kt Kf ht hf=>?_;simp (disch:=omega) [go_sem, *];try (refine⟨fun hc=>?_,fun hc=>?_⟩ <;> try (exfalso;omega))))
  refine ao_quiet_h mixed (by kernel_rfl) fun K hK=>?_
  simp (disch:=omega) [go_sem, *]
  repeat' (first|(refine Z4 (by simp[go_sem]) (by simp (disch:=omega) [go_sem, *,zB,zO];first | exact rfl | exact⟨rfl,rfl,rfl⟩) ?_;try simp only[zU])|(refine ZH ?_)|(apply zC.out hK;clear hK K;try with_reducible dsimp only[zG])|(apply zC.out ht;clear ht hf Kt Kf)|(refine Jh fun Kt Kf ht hf=>?_;simp (disch:=omega) [go_sem, *];try (refine⟨fun hc=>?_,fun hc=>?_⟩ <;> try (exfalso;omega))))
  refine ao_chain_h [11] (fun h'=>h' o=some (atO T false fu 3 k)∧h' d=some (.cells [.ptr o 0])∧h' c=some (.cells [iv .i64 s.size])) mixed (by kernel_rfl) (by simp (disch:=omega) [go_sem,zB,s1,h4]) fun K hK=>?_
  simp (disch:=omega) [go_sem, *]
  repeat' (first|(refine aC_c (by simp[go_sem]) (by decide) (fun h' hh=>by (try dsimp only at hh);(try simp (disch:=omega) [go_sem, *,zP]);first | exact rfl | exact⟨rfl,rfl,rfl⟩) ?_;try simp only[zU])|(refine aC_x (by simp[go_sem]) (by decide) (by (try simp (disch:=omega) [go_sem, *]);first | exact rfl | exact⟨rfl,rfl⟩ | exact⟨rfl,rfl,rfl⟩) (by first | exact .inl rfl|(right;simp (disch:=omega) [go_sem,zB,s1,h4])) ?_;try simp only[ZB])|(refine j3 ?_;apply zC.out hK;clear hK K;try with_reducible dsimp only[zG]))
  repeat' (first|(refine ao_seq_h fun K hK=>?_)|(refine J8 fun K hK=>?_;simp (disch:=omega) [go_sem, *,zM,zB,ZJ,zV,ZK,zO,zT,zP,zg,Tryz.ntmps107])|(refine Z4 (by simp[go_sem]) (by simp (disch:=omega) [go_sem, *];first | exact rfl | exact⟨rfl,rfl,rfl⟩) ?_;try simp only[zU,ZB])|(refine Z4 (by simp[go_sem]) (by (try simp (disch:=omega) [go_sem, *]);first | exact rfl | exact⟨rfl,rfl,rfl⟩) ?_;try simp only[zU,ZB])|(refine ZH ?_)|(apply zC.out hK;clear hK K;try with_reducible dsimp only[zG])|(apply zC.out ht;clear ht hf Kt Kf)|(apply zC.out hf;clear ht hf Kt Kf)|(clear hK K;apply zC.out hK;clear hK K;try with_reducible dsimp only[zG])|(clear hK K;clear hK K;apply zC.out hK;clear hK K;try with_reducible dsimp only[zG])|(refine ao_block ?_)|(refine ao_skip ?_;simp only[zG,zN])|(refine ao_exit ?_;simp only[zG,zN,if_true,if_false,Nat.reduceEqDiff])|(with_reducible show nextK _ _ _ _ _ _ _;simp (disch:=omega) [go_sem, *,zM,zB,ZJ,zV,ZK,zO,zT,zP,zg,Tryz.ntmps107])|(refine JT (fun hc=>?_) (fun hc=>?_) <;> (try simp only[Bool.not_eq_true',Bool.not_eq_false',Bool.not_eq_eq_eq_not,Bool.not_true,Bool.not_false,decide_eq_true_eq,decide_eq_false_iff_not,Int.not_lt,Int.not_le] at hc) <;> (try (exfalso;omega)) <;> (try simp (disch:=omega) [go_sem, *,zM,zB,ZJ,zV,ZK,zO,zT,zP,zg,Tryz.ntmps107]))|(refine Jh fun Kt Kf ht hf=>?_;simp (disch:=omega) [go_sem, *,zM,zB,ZJ,zV,ZK,zO,zT,zP,zg,Tryz.ntmps107];try (refine⟨fun hc=>?_,fun hc=>?_⟩ <;> try (exfalso;omega))))
  dsimp only[zN,zG]
  refine⟨.inl rfl,[],rfl,zY (hk.out _ _ ?_ ?_ ?_ ?_)⟩
  ·(try simp only);omega
  ·simp (disch:=omega) [zB,zD]
  ·simp (disch:=omega) [zD]
  ·intro x hx hxb hxc;simp (disch:=omega) [zB]
 ·have hn:T[k]? = none:=List.getElem?_eq_none (by omega)
  have hpos:posM T s k=s.size:=by rw[posM,hn]
  rw[hpos] at hk
  replace hk:zC _:=hk
  replace hfl:zC _:=hfl
  clear hn hpos
  repeat' (first|(refine ao_seq_h fun K hK=>?_)|(refine J8 fun K hK=>?_;simp (disch:=omega) [go_sem, *,zB,Tryz.ntmps107])|(apply zC.out hK;clear hK K;try with_reducible dsimp only[zG])|(apply zC.out ht;clear ht hf Kt Kf)|(apply zC.out hf;clear ht hf Kt Kf)|(refine ao_block ?_)|(refine Jh fun Kt Kf ht hf=>?_;simp (disch:=omega) [go_sem, *];try (refine⟨fun hc=>?_,fun hc=>?_⟩ <;> try (exfalso;omega))))
  refine ao_quiet_h mixed (by kernel_rfl) fun K hK=>?_
  simp (disch:=omega) [go_sem, *]
  repeat' (first|(refine Z4 (by simp[go_sem]) (by simp (disch:=omega) [go_sem, *,zB,zT];first | exact rfl | exact⟨rfl,rfl,rfl⟩) ?_;try simp only[zU])|(refine ZH ?_)|(apply zC.out hK;clear hK K;try with_reducible dsimp only[zG])|(apply zC.out hf;clear ht hf Kt Kf)|(refine ao_skip ?_;simp only[zN])|(refine Jh fun Kt Kf ht hf=>?_;simp (disch:=omega) [go_sem, *];try (refine⟨fun hc=>?_,fun hc=>?_⟩ <;> try (exfalso;omega))))
  refine⟨.inl trivial,[],rfl,zY (hk.out _ _ ?_ ?_ ?_ ?_)⟩
  ·(try simp only);omega
  ·simp (disch:=omega) [zB,zD]
  ·simp (disch:=omega) [zD]
  ·intro x hx hxb hxc;simp (disch:=omega) [zB]
end Go.AM
namespace Go.AM
open Go.Proofs Cw Du
theorem ext_size {s:ByteArray} {i j:Nat}:(s.extract i j).size≤s.size:=by rw[ByteArray.size_extract];omega
theorem tkOk_of {s:ByteArray} {i:Nat} {x:UInt8} (hs:s.size≤1000000) (hx:s.data.toList[i]? = some x) {k:Int} {v j:Nat} (h:Ze s i x.toNat=.tok k v j):TkOk ⟨k,s.extract i j,v,i⟩:=by
 refine⟨Nat.le_trans ext_size hs,fun hk=>?_⟩
 simp only at hk
 subst hk
 unfold Ze at h
 split at h
 ·cases h
 ·split at h
  ·cases h
  ·split at h
   ·split at h
    ·cases h
    ·simp only[LSt.tok.injEq] at h
     have h1:=h.1
     split at h1 <;> cases h1
   ·split at h
    ·rename_i hd
     split at h
     ·cases h
     ·split at h
      ·cases h
      ·rename_i hle _
       simp only[LSt.tok.injEq] at h
       obtain⟨_,rfl,rfl⟩:=h
       have hdg:=num_dgts hx hd
       have hgt:=numE_le hx hd
       have hne:(s.extract i (qi s i x.toNat)).data.toList≠[]:=by
        intro e
        have:=congrArg List.length e
        rw[ZT,ByteArray.size_extract,List.length_nil] at this
        omega
       have:=atoi_dig hne hdg
       have hv:valN (s.extract i (qi s i x.toNat)).data.toList=Go.AM.numV s i x.toNat:=rfl
       rw[hv,if_pos (by omega)] at this
       exact⟨this,by show Go.AM.numV s i x.toNat≤10000;omega⟩
    ·split at h
     ·cases h
     ·simp only[LSt.tok.injEq] at h
      have h1:=h.1
      cases h1
theorem lexA_tk {s:ByteArray} (hs:s.size≤1000000):∀(f i:Nat) (acc T:List Tk),s.size - i≤f→i≤s.size→(∀t ∈ acc,TkOk t)→Jn s i acc=.ok T→(∀t ∈ T,TkOk t)∧T.length≤acc.length + (s.size - i)
 | f,i,acc,T,hf,hi,ha,h=>by
  rcases Nat.lt_or_ge i s.size with hlt | hge
  ·obtain⟨x,hx⟩:∃x,s.data.toList[i]? = some x:=⟨_,List.getElem?_eq_getElem (by rw[ZT];exact hlt)⟩
   rw[JI hx] at h
   obtain⟨f,rfl⟩:∃g,f=g + 1:=⟨f - 1,by omega⟩
   split at h
   ·rename_i j hj
    obtain⟨a,b⟩:=Qj hx hj
    obtain⟨p,q⟩:=lexA_tk hs f j acc T (by omega) b ha h
    exact⟨p,by omega⟩
   ·cases h
   ·rename_i k v j hj
    obtain⟨a,b⟩:=QJ hx hj
    obtain⟨p,q⟩:=lexA_tk hs f j _ T (by omega) b (fun t ht=>by
     rcases List.mem_append.1 ht with ht | ht
     ·exact ha t ht
     ·rw[List.mem_singleton] at ht;subst ht;exact tkOk_of hs hx hj) h
    rw[List.length_append,List.length_singleton] at q
    exact⟨p,by omega⟩
  ·obtain rfl:i=s.size:=by omega
   rw[lexA_end] at h
   cases h
   exact⟨ha,by omega⟩
theorem lexA_toks {s:ByteArray} (hs:s.size≤1000000) {T:List Tk} (h:Jn s 0 []=.ok T):(∀t ∈ T,TkOk t)∧T.length≤1000000:=by
 obtain⟨a,b⟩:=lexA_tk hs s.size 0 [] T (by omega) (by omega) (fun t ht=>by cases ht) h
 rw[List.length_nil] at b
 exact⟨a,by omega⟩
end Go.AM
namespace Go.AM
open Go.Proofs Cw Du
set_option maxRecDepth 10000
set_option maxHeartbeats 4000000
theorem apTk {nm m:Nat} {V:List Tk} {x:Tk} {h:zI} {b c:Bool} (hm:h m=acO (V.map tkP)) (hl:V.length≤2000000) :
  Z6 Tryz.prog nm 180 (acV 3 m (V.map tkP)) (.fslc b c 3 [tkP x]) h=some (.slc nm 0 (V.length + 1) 3,(h.upd m none).upd nm (some (.cells (flat ((V ++ [x]).map tkP))))):=by
 have hne:(V ++ [x]).map tkP≠[]:=by simp
 have:=ap_ac (P:=Tryz.prog) (T:=180) (e:=187) (s:=3) (by_:=32) (z:=.agg [iv .i64 0,sv ByteArray.empty,iv .i64 0]) (by kernel_rfl) (by kernel_rfl) (by kernel_rfl) (by kernel_rfl) (by simp[cellsOf,AV.scalar]) (nm:=nm) (m:=m) (L:=V.map tkP) (X:=[tkP x]) (nl:=b) (full:=c) hm (fun y hy=>by obtain⟨o,_,rfl⟩:=List.mem_map.1 hy;rfl) (by simp) (by simp;omega)
 have e:(V.map tkP ++ [tkP x])=(V ++ [x]).map tkP:=by simp
 rw[this,e,j0 hne,acO,if_neg hne];simp
theorem lexS_kind {s:ByteArray} {i u:Nat} {k:Int} {v j:Nat} (h:Ze s i u=.tok k v j):k=1∨k=2∨k=3:=by
 unfold Ze at h
 split at h
 ·cases h
 ·split at h
  ·cases h
  ·split at h
   ·split at h
    ·cases h
    ·simp only[LSt.tok.injEq] at h
     have h1:=h.1
     split at h1 <;> omega
   ·split at h
    ·split at h
     ·cases h
     ·split at h
      ·cases h
      ·simp only[LSt.tok.injEq] at h;omega
    ·split at h
     ·cases h
     ·simp only[LSt.tok.injEq] at h;omega
theorem ac_pan2 {P:Program} {v:Value} {fl:Nat} {Q:Exit→St→Prop} {st:St} {id:Nat} {ops:Array Oper} (k:Nat) {o:Oper} (KP:List (Nat × AV)→zI→Nat→Prop) (hk:ops[k]? = some o)
  (hQ:∀s,fl≤s.n→KP s.s s.h s.n→Q (.panic (pnc v)) s)
  (h:∀K:St→Prop,zC (∀s,ZW P v o s.s s.h s.n (KP s.s)→K s)→Jb P ops st.n K 0 (ops.toList.take k) {st with n:=st.n + ops.size}):ze P fl (.region id ops false) Q st:=by
 replace h:=h _ fun _ h=>h
 intro r w0 G a w hr S hf
 refine wpIn_region_list ?_
 have hk':k < ops.toList.length:=by rw[Array.length_toList];exact (Array.getElem?_eq_some_iff.1 hk).1
 have hd:ops.toList=ops.toList.take k ++ o :: ops.toList.drop (k + 1):=by
  have e:ops.toList[k]? = some o:=by simpa using hk
  rw[List.getElem?_eq_getElem hk'] at e
  cases e
  rw[←List.drop_eq_getElem_cons hk',List.take_append_drop]
 generalize ops.toList.drop (k + 1)=rest at hd
 have hsz:(ops.toList.take k).length≤ops.size:=by rw[List.length_take,Array.length_toList];omega
 rw[hd]
 refine ops_okR (fl:=fl) (r:=r) (w0:=w0) (G0:=G) hf ?_ _ 0 G _ a w (ZD S hf ops.size _ (fun j hj=>by simp only[List.mem_range'] at hj;obtain⟨q,hq,rfl⟩:=hj;omega)) h
 intro G2 s a2 w2 S2 hp
 refine wpListIn_step fun K' hK'=>?_
 exact pan_ok S2 hp (fun G' h' n' w' e1 e2 e3 e4=>⟨G',_,e1,e2,e3,hQ _ e2 e4⟩) r
theorem ac_fzT {fl:Nat} {code:Code} {Q:Exit→St→Prop} {st:St} {T:List Tk} {m p:Nat} (hp:st.h p=some (.cells [acV 3 m (T.map tkP),iv .i64 0])) (hm:st.h m=acO (T.map tkP)) (hmp:p≠m)
  (hk:∀nl fu z h2,(T=[]∨nl=false∧z=3)→h2 p=some (atO T nl fu z 0)→(∀x,x≠p→x≠m→h2 x=st.h x)→ze Tryz.prog fl code Q {st with h:=h2}):ze Tryz.prog fl code Q st:=by
 by_cases hT:T.map tkP=[]
 ·have:T=[]:=List.map_eq_nil_iff.1 hT
  subst this
  exact hk true true 0 st.h (.inl rfl) hp fun _ _ _=>rfl
 ·rw[acO,if_neg hT] at hm
  refine ac_fzcell m p true hmp hm hp ?_
  have hL:∀x ∈ T.map tkP,∃cs,x=.agg cs∧cs.length=3:=fun y hy=>by obtain⟨o,_,rfl⟩:=List.mem_map.1 hy;exact⟨_,rfl,rfl⟩
  have e:QM m (flat (T.map tkP)) true [acV 3 m (T.map tkP),iv .i64 0]=[.fslc false false 3 (T.map tkP),iv .i64 0]:=by
   simp only[QM,fz_row hL hT,j8,if_neg hT]
   rfl
  rw[e]
  refine hk false false 3 _ (.inr ⟨rfl,rfl⟩) (zD _ _ _) fun x h1 h2=>?_
  rw[zB _ _ _ _ h1,zB _ _ _ _ h2]
theorem fin_read {n:Nat} {H':zI} {E A:Int} {st:St} (h4:get st.s 4=.ptr (n + 1) 0) (h5:get st.s 5=.ptr (n + 2) 0) (e1:st.h (n + 1)=some (.cells [iv .i64 E])) (e2:st.h (n + 2)=some (.cells [iv .i64 A])) (fr:∀x,x < n→st.h x=H' x) (hn:n≤st.n) :
  Fin Tryz.prog Tryz.f53 n (fun x h' _=>(∀k,k < n→h' k=H' k)∧below n x∧x=.tup [iv .i64 E,iv .i64 A]∧True∧True) st:=by
 refine⟨hn,[iv .i64 E,iv .i64 A],?_,zY ⟨fr,by simp[zr,below,belowL,iv],rfl,trivial,trivial⟩⟩
 obtain⟨nt,s,h,m⟩:=st
 simp only at h4 h5 e1 e2
 show j5 Tryz.prog s h [.cell 4 32,.cell 5 3]=_
 simp[go_sem,h4,h5,e1,e2]
def ZF {ω:Type} (R:List Tk→PR ω) (s:ByteArray):Int × Int × Option ω:=
 if 6000 < s.size then (2,0,none) else match Jn s 0 [] with
  | .error j=>(7,(j:Int),none)
  | .ok T=>match R T with
   | .error k=>(7,(posM T s k:Int),none)
   | .ok (x,q)=>if q < T.length then (7,(posM T s q:Int),some x) else (0,0,some x)
def boxR {ω:Type} (W:ω→List AV) (b:Nat) (H:zI):Option ω→zI
 | none=>H
 | some x=>H.upd b (some (.cells (W x)))
theorem read_spec {ω:Type} (R:List Tk→PR ω) (W:ω→List AV) (g:FuncId) (s:ByteArray) (hs:s.size≤1000000) {H:zI} {n b:Nat} (hbn:b < n) (hW:∀x m,belowL m (W x))
  (hok:∀T nl fu z H1 o m,Jn s 0 []=.ok T→PSt T nl fu z H1 o 0→o < m→b < m→b≠o→H1 b=H b→(∀x q,R T=.ok (x,q)→q≤T.length∧ATurn Tryz.prog g [.ptr o 0,.ptr b 0] H1 m (.tup []) ((H1.upd o (some (atO T nl fu z q))).upd b (some (.cells (W x)))))∧
    ∀k,R T=.error k→PCall Tryz.prog zW g [.ptr o 0,.ptr b 0] H1 m (fun h' _=>PErr T nl fu z o k H1 m h')) :
  ATurn Tryz.prog 53 [sv s,.func (.func g) [] [.ptr b 0]] H n (.tup [iv .i64 (ZF R s).1,iv .i64 (ZF R s).2.1]) (boxR W b H (ZF R s).2.2):=by
 refine zQ.entry (by kernel_rfl) fun hb _=>?_
 have hB:HB (boxR W b H (ZF R s).2.2) n:=by
  cases (ZF R s).2.2 with
  | none=>exact hb
  | some x=>exact hb.set hbn (by simp only[QU];exact hW x n)
 refine zQ.keep _ hB (calls_of_dcx Tryz.func53 rfl (by kernel_rfl) (by simp[Tryz.ntmps53]) ?_)
 refine dcx_seq ?_
 repeat' (first|(refine zA fun K hK=>?_;simp (disch:=omega) [go_sem, *,Tryz.ntmps53])|(apply zC.out hK;clear hK K;try with_reducible dsimp only[zG]))
 show DCX _ _ _ _ _ _
 refine dcx_seq ?_
 replace hok:zC _:=hok
 replace hB:zC _:=hB
 replace hW:zC _:=hW
 by_cases h6:6000 < s.size
 ·have hR:ZF R s=(2,0,none):=by rw[ZF,if_pos h6]
  rw[hR]
  repeat' (first|(refine zF fun K hK=>?_)|(refine zA fun K hK=>?_;simp (disch:=omega) [go_sem, *,zB,zO])|(apply zC.out hK;clear hK K;try with_reducible dsimp only[zG])|(apply zC.out ht;clear ht hf Kt Kf)|(refine zH fun Kt Kf ht hf=>?_;simp (disch:=omega) [go_sem, *];try (refine⟨fun hc=>?_,fun hc=>?_⟩ <;> try (exfalso;omega))))
  refine zb ?_
  try dsimp only[zG,zN]
  show Fin _ _ _ _ _
  refine⟨by (try simp only);omega,_,(by first | rfl|(simp (disch:=omega) [go_sem,zB,zD] <;> rfl)),?_⟩
  dsimp only[zr,put,boxR]
  refine zY ⟨?_,by simp[below,belowL],rfl,rfl,rfl⟩
  intro x hx
  simp (disch:=omega) [zB]
 ·skip
  repeat' (first|(refine zF fun K hK=>?_)|(refine zA fun K hK=>?_;simp (disch:=omega) [go_sem, *,zB,zT])|(apply zC.out hK;clear hK K;try with_reducible dsimp only[zG])|(apply zC.out hf;clear ht hf Kt Kf)|(refine zL ?_;simp only)|(refine zH fun Kt Kf ht hf=>?_;simp (disch:=omega) [go_sem, *];try (refine⟨fun hc=>?_,fun hc=>?_⟩ <;> try (exfalso;omega))))
  show DCX _ _ _ _ _ _
  refine dcx_seq ?_
  repeat' (first|(refine zA fun K hK=>?_;simp (disch:=omega) [go_sem, *])|(apply zC.out hK;clear hK K;try with_reducible dsimp only[zG]))
  show DCX _ _ _ _ _ _
  refine dcx_seq ?_
  have kt:=tokens_spec s
  repeat' (first|(refine zF fun K hK=>?_)|(refine zA fun K hK=>?_;simp (disch:=omega) [go_sem, *,zB])|(apply zC.out hK;clear hK K;try with_reducible dsimp only[zG])|(with_reducible refine zK.gcall (kt) ?_;try simp (disch:=omega) [go_sem, *])|(refine zJ ?_))
  refine ac_rangeFunc (by rfl) ?_
  dsimp only
  generalize hLO:AObj.loop LoopState.ready none 47 _ _ _ _=LO
  replace hLO:zC _:=hLO
  generalize hQ:(rangeK _ _ _:AV→zI→Nat→Prop)=QQ
  replace hQ:zC _:=hQ
  show zQ Tryz.prog 172 [.yld (n + 3 + 3 + 4 + 2),.fptr [sv s]] _ _ _
  refine toks_iter s hs (n + 3 + 3 + 4 + 2) (fun i a h' n'=>∃q,a.length≤i∧i≤s.size∧n + 13≤n'∧n + 9≤q∧q≠n + 12∧q < n'∧h' (n + 12)=some LO∧h' (n + 8)=some (.cells [.ptr (n + 7) 0])∧h' (n + 7)=some (.cells [acV 3 q (a.map tkP),iv .i64 0])∧h' q=acO (a.map tkP)∧h' n=some (.cells [sv s])∧h' (n + 1)=some (.cells [iv .i64 0])∧h' (n + 2)=some (.cells [iv .i64 0])∧(∀x,x < n→h' x=H x)∧Jn s i a=Jn s 0 [])
   (fun h' n'=>∃(j:Nat) (stt:LoopState) (s1:List (Nat × AV)) (p1:Array Tmp) (c1 c2:Code),Jn s 0 []=.error j∧n + 13≤n'∧h' (n + 12)=some (.loop stt (some .ret) 47 s1 p1 c1 c2)∧stt≠.busy∧h' (n + 1)=some (.cells [iv .i64 7])∧h' (n + 2)=some (.cells [iv .i64 j])∧(∀x,x < n→h' x=H x)) _ _ _ ?_ ?_ ?_ ?_ ?_ ?_ ?_ ?_
  ·refine⟨n + 9,by simp,by omega,by omega,by omega,by omega,by omega,?_,?_,?_,?_,?_,?_,?_,?_,rfl⟩
   ·simp (disch:=omega) [zD]
   ·simp (disch:=omega) [zB,zD]
   ·simp (disch:=omega) [zB,zD,acV]
   ·simp (disch:=omega) [zB,acO];exact hb.none (by omega)
   ·simp (disch:=omega) [zB,zD]
   ·simp (disch:=omega) [zB,zD]
   ·simp (disch:=omega) [zB,zD]
   ·intro x hx;simp (disch:=omega) [zB]
  ·rintro i a h' n' ⟨q,_,_,w3,_⟩;omega
  ·rintro i a h' p1 p2 ⟨q,w1,w2,w3,w4,w5,w6,w7⟩ hp
   exact⟨q,w1,w2,by omega,w4,w5,by omega,w7⟩
  ·rintro i a h' n' h2 n2 x k v j ⟨q,w1,w2,w3,w4,w5,w6,w7,w8,w9,w10,w11,w12,w13,w14,w15⟩ hn2 hh hx hl KK hI hJ
   have hlo7:=hLO.out
   subst hlo7
   have e15:=JI hx a
   rw[hl] at e15
   have e15:Jn s j (a ++ [⟨k,s.extract i j,v,i⟩])=Jn s 0 []:=e15.symm.trans w15
   have hkd:=lexS_kind hl
   have hk0:(k == 0)=false:=by rcases hkd with rfl | rfl | rfl <;> rfl
   have hji:=QJ hx hl
   have w7':=(hh _ (by omega:n + 12 < n')).trans w7
   have w8':=(hh _ (by omega:n + 8 < n')).trans w8
   have w9':=(hh _ (by omega:n + 7 < n')).trans w9
   have w10':=(hh _ (by omega:q < n')).trans w10
   have w11':=(hh _ (by omega:n < n')).trans w11
   have w12':=(hh _ (by omega:n + 1 < n')).trans w12
   have w13':=(hh _ (by omega:n + 2 < n')).trans w13
   have w14':∀x,x < n→h2 x=H x:=fun x hx=>(hh _ (by omega)).trans (w14 x hx)
   clear w7 w8 w9 w10 w11 w12 w13 w14 w15 hh hkd
   replace hx:zC _:=hx
   replace hl:zC _:=hl
   replace e15:zC _:=e15
   replace w14':zC _:=w14'
   refine yield_at w7' rfl (by simp) ?_
   simp only[go_sem,tkA]
   repeat' (first|(refine zA fun K hK=>?_;simp (disch:=omega) [go_sem, *])|(apply zC.out hK;clear hK K;try with_reducible dsimp only[zG]))
   refine⟨_,_,_,_,_,(by simp (disch:=omega) [zB];exact w7'),?_⟩
   dsimp only
   generalize hH5:zI.upd (zI.upd (zI.upd h2 _ _) _ _) _ _=H5
   have k7:H5 (n + 12)=_:=(congrFun hH5 (n + 12)).symm.trans (zD _ _ _)
   have k8:H5 (n + 3 + 3 + 2)=some (.cells [.ptr (n + 3 + 3 + 1) 0]):=by rw[←hH5,zB _ _ _ _ (by omega),zB _ _ _ _ (by omega),zB _ _ _ _ (by omega)];exact w8'
   have k9:H5 (n + 3 + 3 + 1)=some (.cells [acV 3 q (a.map tkP),iv .i64 0]):=by rw[←hH5,zB _ _ _ _ (by omega),zB _ _ _ _ (by omega),zB _ _ _ _ (by omega)];exact w9'
   have k10:H5 q=acO (a.map tkP):=by rw[←hH5,zB _ _ _ _ (by omega),zB _ _ _ _ (by omega),zB _ _ _ _ (by omega)];exact w10'
   have k11:H5 n=some (.cells [sv s]):=by rw[←hH5,zB _ _ _ _ (by omega),zB _ _ _ _ (by omega),zB _ _ _ _ (by omega)];exact w11'
   have k12:H5 (n + 1)=some (.cells [iv .i64 0]):=by rw[←hH5,zB _ _ _ _ (by omega),zB _ _ _ _ (by omega),zB _ _ _ _ (by omega)];exact w12'
   have k13:H5 (n + 2)=some (.cells [iv .i64 0]):=by rw[←hH5,zB _ _ _ _ (by omega),zB _ _ _ _ (by omega),zB _ _ _ _ (by omega)];exact w13'
   have k14:∀x,x < n→H5 x=H x:=fun x hx=>by rw[←hH5,zB _ _ _ _ (by omega),zB _ _ _ _ (by omega),zB _ _ _ _ (by omega)];exact w14'.out x hx
   have k15:H5 n2=some (.cells [iv .i64 k,sv (s.extract i j),iv .i64 i]):=by rw[←hH5,zB _ _ _ _ (by omega),zD]
   clear hH5 w7' w8' w9' w10' w11' w12' w13' w14'
   have ka:=fun nm=>apTk (nm:=nm) (m:=q) (V:=a) (x:=⟨k,s.extract i j,v,i⟩) (h:=H5) (b:=false) (c:=false) k10 (by omega)
   simp only[tkP,tkA] at ka
   generalize hW:a ++ [(⟨k,s.extract i j,v,i⟩:Tk)]=W at *
   replace k7:zC _:=k7
   replace k10:zC _:=k10
   replace k14:zC _:=k14
   replace hW:zC _:=hW
   repeat' (first|(refine zF fun K hK=>?_)|(refine zA fun K hK=>?_;simp (disch:=omega) [go_sem, *])|(apply zC.out hK;clear hK K;try with_reducible dsimp only[zG])|(apply zC.out hf;clear ht hf Kt Kf)|(refine zJ ?_)|(refine zL ?_;simp only[zG])|(refine zH fun Kt Kf ht hf=>?_;simp (disch:=omega) [go_sem, *];try (refine⟨fun hc=>?_,fun hc=>?_⟩ <;> try (exfalso;omega))))
   have x1:AV.scalar (acV 3 q (a.map tkP))=true:=scal_acV
   simp only[AV.scalar] at x1
   refine ZU [6,7,10] (fun h'=>h' (n + 3 + 3 + 2)=some (.cells [.ptr (n + 3 + 3 + 1) 0])∧h' (n + 3 + 3 + 1)=some (.cells [acV 3 q (a.map tkP),iv .i64 0])∧h' n2=some (.cells [iv .i64 k,sv (s.extract i j),iv .i64 i])) mixed (by kernel_rfl) (by simp (disch:=omega) [go_sem,k8,k9,k15]) fun K hK=>?_
   simp (disch:=omega) [go_sem, *]
   repeat' (first|(refine aC_c (by simp[go_sem]) (by decide) (fun h' hh=>by (try dsimp only at hh);(try simp (disch:=omega) [go_sem, *]);first | exact rfl | exact⟨rfl,rfl,rfl⟩) ?_;try simp only[zU])|(refine aC_x (by simp[go_sem]) (by decide) (by (try simp (disch:=omega) [go_sem, *,zB]);first | exact rfl | exact⟨rfl,rfl⟩ | exact⟨rfl,rfl,rfl⟩) (by first | exact .inl rfl|(right;simp (disch:=omega) [go_sem,zB,k8,k9,k15])) ?_;try simp only[zU,ZB])|(refine j3 ?_;apply zC.out hK;clear hK K;try with_reducible dsimp only[zG]))
   dsimp only[zN,zG]
   refine⟨_,_,_,_,_,(by simp (disch:=omega) only[zB];exact k7.out),hI.out _ _ ⟨n2 + 2 + 3 + 7,?_,by omega,?_,by omega,by omega,?_,?_,?_,?_,?_,?_,?_,?_,?_,e15.out⟩⟩
   ·rw[←hW.out,List.length_append,List.length_singleton];omega
   ·(try simp only);omega
   ·exact Nat.add_lt_add_left (by decide) _
   ·exact zD _ _ _
   ·simp (disch:=omega) [zB];exact k8
   ·have e:=j0 (s:=3) (m:=n2 + 2 + 3 + 7) (L:=W.map tkP) (by rw[←hW.out];simp)
    have hWl:W.length=a.length + 1:=by rw[←hW.out];simp
    rw[e,List.length_map,hWl,zB _ _ _ _ (by omega)]
    exact zD _ _ _
   ·have hne:W.map tkP≠[]:=by rw[←hW.out];simp
    rw[acO,if_neg hne]
    simp (disch:=omega) only[zB,zD]
   ·simp (disch:=omega) only[zB];exact k11
   ·simp (disch:=omega) only[zB];exact k12
   ·simp (disch:=omega) only[zB];exact k13
   ·intro x hx;simp (disch:=omega) only[zB];exact k14.out x hx
  ·rintro i a h' n' h2 n2 x t j ⟨q,w1,w2,w3,w4,w5,w6,w7,w8,w9,w10,w11,w12,w13,w14,w15⟩ hn2 hh hx hl KK hI hJ
   have hlo7:=hLO.out
   subst hlo7
   have e15:=JI hx a
   rw[hl] at e15
   have e15:Jn s 0 []=.error j:=w15.symm.trans e15
   have w7':=(hh _ (by omega:n + 12 < n')).trans w7
   have w8':=(hh _ (by omega:n + 8 < n')).trans w8
   have w9':=(hh _ (by omega:n + 7 < n')).trans w9
   have w10':=(hh _ (by omega:q < n')).trans w10
   have w11':=(hh _ (by omega:n < n')).trans w11
   have w12':=(hh _ (by omega:n + 1 < n')).trans w12
   have w13':=(hh _ (by omega:n + 2 < n')).trans w13
   have w14':∀x,x < n→h2 x=H x:=fun x hx=>(hh _ (by omega)).trans (w14 x hx)
   clear w7 w8 w9 w10 w11 w12 w13 w14 w15 hh
   replace hx:zC _:=hx
   replace hl:zC _:=hl
   replace e15:zC _:=e15
   replace w14':zC _:=w14'
   refine yield_at w7' rfl (by simp) ?_
   simp only[go_sem,tkA]
   repeat' (first|(refine zA fun K hK=>?_;simp (disch:=omega) [go_sem, *])|(apply zC.out hK;clear hK K;try with_reducible dsimp only[zG]))
   refine⟨_,_,_,_,_,(by simp (disch:=omega) [zB];exact w7'),?_⟩
   dsimp only
   generalize hH5:zI.upd (zI.upd (zI.upd h2 _ _) _ _) _ _=H5
   have k7:H5 (n + 12)=_:=(congrFun hH5 (n + 12)).symm.trans (zD _ _ _)
   have k12:H5 (n + 1)=some (.cells [iv .i64 0]):=by rw[←hH5,zB _ _ _ _ (by omega),zB _ _ _ _ (by omega),zB _ _ _ _ (by omega)];exact w12'
   have k13:H5 (n + 2)=some (.cells [iv .i64 0]):=by rw[←hH5,zB _ _ _ _ (by omega),zB _ _ _ _ (by omega),zB _ _ _ _ (by omega)];exact w13'
   have k14:∀x,x < n→H5 x=H x:=fun x hx=>by rw[←hH5,zB _ _ _ _ (by omega),zB _ _ _ _ (by omega),zB _ _ _ _ (by omega)];exact w14'.out x hx
   have k15:H5 n2=some (.cells [iv .i64 0,sv t,iv .i64 j]):=by rw[←hH5,zB _ _ _ _ (by omega),zD]
   clear hH5 w7' w8' w9' w10' w11' w12' w13' w14'
   replace k7:zC _:=k7
   replace k14:zC _:=k14
   repeat' (first|(refine zF fun K hK=>?_)|(refine zA fun K hK=>?_;simp (disch:=omega) [go_sem, *])|(apply zC.out hK;clear hK K;try with_reducible dsimp only[zG])|(apply zC.out ht;clear ht hf Kt Kf)|(refine zJ ?_)|(refine zH fun Kt Kf ht hf=>?_;simp (disch:=omega) [go_sem, *];try (refine⟨fun hc=>?_,fun hc=>?_⟩ <;> try (exfalso;omega))))
   refine ZU [2,3] (fun h'=>h' n2=some (.cells [iv .i64 0,sv t,iv .i64 j])) mixed (by kernel_rfl) (by simp (disch:=omega) [go_sem,k15]) fun K hK=>?_
   simp (disch:=omega) [go_sem, *]
   repeat' (first|(refine aC_c (by simp[go_sem]) (by decide) (fun h' hh=>by (try dsimp only at hh);(try simp (disch:=omega) [go_sem, *]);first | exact rfl | exact⟨rfl,rfl,rfl⟩) ?_;try simp only[zU])|(refine aC_x (by simp[go_sem]) (by decide) (by (try simp (disch:=omega) [go_sem, *,zB]);first | exact rfl | exact⟨rfl,rfl⟩ | exact⟨rfl,rfl,rfl⟩) (by first | exact .inl rfl|(right;simp (disch:=omega) [go_sem,zB,k15])) ?_;try simp only[ZB])|(refine j3 ?_;apply zC.out hK;clear hK K;try with_reducible dsimp only[zG]))
   repeat' (first|(apply zC.out hK;clear hK K;try with_reducible dsimp only[zG]))
   refine zb ?_
   dsimp only[zN,zG]
   refine⟨_,_,_,_,_,(by simp (disch:=omega) only[zB];exact k7.out),hJ.out _ _ ⟨j,.done,_,_,_,_,e15.out,?_,zD _ _ _,by simp,?_,?_,?_⟩⟩
   ·(try simp only);omega
   ·simp (disch:=omega) only[zB,zD]
   ·simp (disch:=omega) only[zB,zD]
   ·intro x hx;simp (disch:=omega) only[zB];exact k14.out x hx
  ·rintro i a h' n' h2 n2 x j ⟨q,w1,w2,w3,w4,w5,w6,w7,w8,w9,w10,w11,w12,w13,w14,w15⟩ hn2 hh hx hl
   have e15:=JI hx a
   rw[hl] at e15
   have hji:=Qj hx hl
   exact⟨q,by omega,hji.2,by omega,w4,w5,by omega,(hh _ (by omega)).trans w7,(hh _ (by omega)).trans w8,(hh _ (by omega)).trans w9,(hh _ (by omega)).trans w10,(hh _ (by omega)).trans w11,(hh _ (by omega)).trans w12,(hh _ (by omega)).trans w13,fun x hx=>(hh _ (by omega)).trans (w14 x hx),e15.symm.trans w15⟩
  ·rintro a h' n' ⟨q,w1,w2,w3,w4,w5,w6,w7,w8,w9,w10,w11,w12,w13,w14,w15⟩
   rw[lexA_end] at w15
   rw[←hQ.out]
   show rangeK (n + 3 + 3 + 4 + 2) _ _ _ _ _
   rw[rangeK,show h' (n + 3 + 3 + 4 + 2)=some LO from w7,←hLO.out]
   refine⟨by simp,?_⟩
   dsimp only[zN,zG]
   show DCX _ _ _ _ _ _
   have hT:=w15.symm
   clear w15 hQ hLO
   refine dcx_defer (v:=zW) (pre:=[_]) rfl rfl rfl rfl rfl ?_
   generalize hDK:defKX _ _ _ _ _ _ _ _=DK
   replace hDK:zC _:=hDK
   simp (disch:=omega) [go_sem]
   rw[←hDK.out]
   intro hle
   refine⟨_,_,_,rfl,?_⟩
   refine ac_fzT (T:=a) (m:=q) (p:=n + 7) (by simp (disch:=omega) only[zB];exact w9) (by simp (disch:=omega) only[zB];exact w10) (by omega) fun nl fu z h2 hfl hat hfr=>?_
   obtain⟨hts,hlen⟩:=lexA_toks hs hT
   have S:PSt a nl fu z h2 (n + 7) 0:=⟨hat,hfl,hlen,by omega,hts⟩
   have x8:h2 (n + 3 + 3 + 2)=some (.cells [.ptr (n + 7) 0]):=(hfr _ (by omega) (by omega)).trans ((zB _ _ _ _ (by omega)).trans w8)
   have x11:h2 n=some (.cells [sv s]):=(hfr _ (by omega) (by omega)).trans ((zB _ _ _ _ (by omega)).trans w11)
   have x12:h2 (n + 1)=some (.cells [iv .i64 0]):=(hfr _ (by omega) (by omega)).trans ((zB _ _ _ _ (by omega)).trans w12)
   have x13:h2 (n + 2)=some (.cells [iv .i64 0]):=(hfr _ (by omega) (by omega)).trans ((zB _ _ _ _ (by omega)).trans w13)
   have x14:∀x,x < n→h2 x=H x:=fun x hx=>(hfr _ (by omega) (by omega)).trans ((zB _ _ _ _ (by omega)).trans (w14 x hx))
   clear hat hfr w7 w8 w9 w10 w11 w12 w13 w14 hDK DK hfl hts
   have hok':=fun m (h1:n + 7 < m) (h2:b < m)=>hok.out a nl fu z _ (n + 7) m hT S h1 h2 (by omega) (x14 b hbn)
   replace x14:zC _:=x14
   cases hRa:R a with
   | error k=>
    have hR:ZF R s=(7,(posM a s k:Int),none):=by rw[ZF,if_neg h6,hT];simp only[hRa]
    rw[hR]
    have bad:=fun m h1 h2=>(hok' m h1 h2).2 k hRa
    replace bad:zC _:=bad
    replace hok':zC _:=trivial
    dsimp only
    refine zF fun K hK=>?_
    refine ac_pan2 (id:=10) (v:=zW) 2 (fun sl h' _=>get sl 4=.ptr (n + 1) 0∧get sl 5=.ptr (n + 2) 0∧PErr a nl fu z (n + 7) k h2 (n' + 2) h') rfl (fun s1 hs1 hk=>?_) fun K hK=>?_
    ·obtain⟨g4,g5,hk1,hk2⟩:=hk
     have hs2:n' + 2≤s1.n:=hs1
     refine .inr ⟨rfl,by omega,?_⟩
     refine rclo_bad (T:=a) (o:=n + 7) (k:=k) (s:=s) hk1 S.fl S.len hs ((hk2 _ (by omega) (by omega)).trans x11) ((hk2 _ (by omega) (by omega)).trans x12) ((hk2 _ (by omega) (by omega)).trans x13) ((hk2 _ (by omega) (by omega)).trans x8) (by omega) (by omega) (by omega) (by omega) (by omega) (by omega) (by omega) (by omega) (by omega) (by omega) fun h3 n3 hn3 e1 e2 fr=>?_
     refine fin_read g4 g5 e1 e2 (fun x hx=>?_) (by (try simp only);omega)
     exact (fr x (by omega) (by omega) (by omega)).trans ((hk2 x (by omega) (by omega)).trans (x14.out x hx))
    ·simp (disch:=omega) [go_sem, *]
     refine hK.out _ ?_
     try dsimp only
     refine qL (L:=[.ptr (n + 7) 0,.ptr b 0]) rfl rfl rfl rfl ((bad.out _ ?_ ?_).mono fun _ _ hk=>⟨rfl,rfl,hk.back ?_ (fun x hx hne=>rfl)⟩)
     ·(try simp only);omega
     ·(try simp only);omega
     ·(try simp only);omega
   | ok y=>
    obtain⟨x,q'⟩:=y
    obtain⟨lq,cok⟩:q'≤a.length∧zC (∀m,n + 7 < m→b < m→ATurn Tryz.prog g [.ptr (n + 7) 0,.ptr b 0] h2 m (.tup []) ((h2.upd (n + 7) (some (atO a nl fu z q'))).upd b (some (.cells (W x))))):=⟨((hok' (n + 8) (by omega) (by omega)).1 x q' hRa).1,fun m h1 h2=>((hok' m h1 h2).1 x q' hRa).2⟩
    have hTl:(a.map tkP).length=a.length:=List.length_map _
    replace hok':zC _:=trivial
    by_cases hq:q' < a.length
    ·have hR:ZF R s=(7,(posM a s q':Int),some x):=by rw[ZF,if_neg h6,hT];simp only[hRa];rw[if_pos hq]
     rw[hR]
     dsimp only
     repeat' (first|(refine zF fun K hK=>?_)|(refine zA fun K hK=>?_;simp (disch:=omega) [go_sem, *])|(apply zC.out hK;clear hK K;try with_reducible dsimp only[zG])|(with_reducible refine ATurn.gcall (cok.out _ (by omega) (by omega)) ?_;try simp (disch:=omega) [go_sem, *]))
     refine zm mixed (by kernel_rfl) fun K hK=>?_
     simp (disch:=omega) [go_sem, *]
     have hmk:=hmkF
     repeat' (first|(refine ac_pan2 (id:=12) (v:=zW) 2 (fun sl h' _=>get sl 4=.ptr (n + 1) 0∧get sl 5=.ptr (n + 2) 0∧h'=(h2.upd (n + 7) (some (atO a nl fu z q'))).upd b (some (.cells (W x)))) rfl (fun s1 hs1 hk=>?_) fun K hK=>?_;rotate_left;simp (disch:=omega) [go_sem, *])|((with_reducible show ZW _ _ _ _ _ _ _);(try dsimp only);exact j7 rfl rfl rfl ⟨rfl,rfl,rfl⟩)|(refine Z4 (by simp[go_sem]) (by simp (disch:=omega) [go_sem, *,zB,zO,];first | exact rfl | exact⟨rfl,rfl,rfl⟩) ?_;try simp only[zU])|(refine ZH ?_)|(apply zC.out hK;clear hK K;try with_reducible dsimp only[zG])|(apply zC.out ht;clear ht hf Kt Kf)|(refine zH fun Kt Kf ht hf=>?_;simp (disch:=omega) [go_sem, *,];try (refine⟨fun hc=>?_,fun hc=>?_⟩ <;> try (exfalso;omega))))
     obtain⟨g4,g5,hk1⟩:=hk
     have hs2:n' + 2≤s1.n:=hs1
     refine .inr ⟨rfl,by omega,?_⟩
     refine rclo_bad (T:=a) (fu:=fu) (o:=n + 7) (k:=q') (s:=s) (e0:=iv .i64 0) (a0:=iv .i64 0) ?_ S.fl S.len hs ?_ ?_ ?_ ?_ (by omega) (by omega) (by omega) (by omega) (by omega) (by omega) (by omega) (by omega) (by omega) (by omega) fun h3 n3 hn3 e1 e2 fr=>?_
     ·rw[hk1,zB _ _ _ _ (by omega),zD]
     ·rw[hk1];simp (disch:=omega) only[zB];exact x11
     ·rw[hk1];simp (disch:=omega) only[zB];exact x12
     ·rw[hk1];simp (disch:=omega) only[zB];exact x13
     ·rw[hk1];simp (disch:=omega) only[zB];exact x8
     refine fin_read g4 g5 e1 e2 (fun x' hx=>?_) (by (try simp only);omega)
     have:=fr x' (by omega) (by omega) (by omega)
     rw[hk1] at this
     refine this.trans ?_
     show _=H.upd b (some (.cells (W x))) x'
     by_cases hxb:x'=b
     ·subst hxb;rw[zD,zD]
     ·rw[zB _ _ _ _ hxb,zB _ _ _ _ hxb,zB _ _ _ _ (by omega)];exact x14.out x' hx
    ·have hR:ZF R s=(0,0,some x):=by rw[ZF,if_neg h6,hT];simp only[hRa];rw[if_neg hq]
     rw[hR]
     dsimp only
     repeat' (first|(refine zF fun K hK=>?_)|(refine zA fun K hK=>?_;simp (disch:=omega) [go_sem, *])|(apply zC.out hK;clear hK K;try with_reducible dsimp only[zG])|(with_reducible refine ATurn.gcall (cok.out _ (by omega) (by omega)) ?_;try simp (disch:=omega) [go_sem, *]))
     refine zm mixed (by kernel_rfl) fun K hK=>?_
     simp (disch:=omega) [go_sem, *]
     repeat' (first|(refine zF fun K hK=>?_)|(refine zA fun K hK=>?_;simp (disch:=omega) [go_sem, *,zB])|(refine Z4 (by simp[go_sem]) (by simp (disch:=omega) [go_sem, *,zB,zT];first | exact rfl | exact⟨rfl,rfl,rfl⟩ | exact (cok.out _ (by omega) (by omega)).gcall ⟨rfl,rfl,rfl⟩) ?_;try simp only[zU])|(refine ZH ?_)|(apply zC.out hK;clear hK K;try with_reducible dsimp only[zG])|(apply zC.out hf;clear ht hf Kt Kf)|(refine zL ?_;simp only[zG])|(refine zH fun Kt Kf ht hf=>?_;simp (disch:=omega) [go_sem, *];try (refine⟨fun hc=>?_,fun hc=>?_⟩ <;> try (exfalso;omega))))
     refine zb ?_
     dsimp only
     refine .inl ⟨.inr rfl,by (try simp only);omega,rclo_ok fun n3 hn3=>fin_read rfl rfl ?_ ?_ (fun x' hx=>?_) (by (try simp only at hn3 ⊢);omega)⟩
     ·simp (disch:=omega) only[zB,zD]
     ·simp (disch:=omega) only[zD]
     ·show _=H.upd b (some (.cells (W x))) x'
      by_cases hxb:x'=b
      ·subst hxb;simp (disch:=omega) only[zB,zD]
      ·rw[zB _ _ _ _ hxb];simp (disch:=omega) only[zB];exact x14.out x' hx
  ·rintro h' n' ⟨j,stt,s1,p1,c1,c2,e1,w1,w2,w3,w4,w5,w6⟩
   rw[←hQ.out]
   show rangeK (n + 3 + 3 + 4 + 2) _ _ _ _ _
   rw[rangeK,show h' (n + 3 + 3 + 4 + 2)=some (.loop stt (some .ret) 47 s1 p1 c1 c2) from w2]
   refine⟨w3,?_⟩
   dsimp only[zN,zG]
   have hR:ZF R s=(7,(j:Int),none):=by rw[ZF,if_neg h6,e1]
   rw[hR]
   show Fin _ _ _ _ _
   refine⟨by (try simp only);omega,_,(by simp (disch:=omega) [go_sem,zB,w4,w5] <;> rfl),?_⟩
   dsimp only[zr,put,boxR]
   refine zY ⟨?_,by simp[below,belowL],rfl,trivial,trivial⟩
   intro x hx
   simp (disch:=omega) only[zB]
   exact w6 x hx
end Go.AM
