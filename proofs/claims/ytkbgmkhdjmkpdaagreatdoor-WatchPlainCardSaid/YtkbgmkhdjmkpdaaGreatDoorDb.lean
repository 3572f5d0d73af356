/- Duties: the library's sort; the specification's order. Conditions: as each theorem says. -/
import Derived.Shelf.SortM.Plain
import Derived.Shelf.Slices.CompactI
import Derived.Shelf.SlSortCmp.NoneTotal
import Derived.Shelf.SlGeneric
import Derived.Ground.SlsfProg
import Derived.Test.YtkbgmkhdjmkpdaaGreatDoorProg
import Derived.Test.YtkbgmkhdjmkpdaaGreatDoorDa
namespace Cw
/-! the numbers of a condition -/
mutual
def ask (j:Int):Cnd→List Int
 | .mk k f _ n _ _ _ ks=>(if k=1∧f=j then [n,min (n + 1) 10000] else []) ++ askL j ks
def askL (j:Int):List Cnd→List Int
 | []=>[]
 | c :: r=>ask j c ++ askL j r
end
def cptF:Int→List Int→List Int
 | _,[]=>[]
 | p,x :: r=>if x=p then cptF p r else x :: cptF x r
def cpt:List Int→List Int
 | []=>[]
 | x :: r=>x :: cptF x r
def sortI (l:List Int):List Int:=l.mergeSort fun x y=>decide (x≤y)
def numsP (j:Int) (cs:List Cnd):List Int:=cpt (sortI (askL j cs ++ [0]))
/-! choices in order -/
def tup:List (List Int)→List (List Int)
 | []=>[[]]
 | l :: r=>l.flatMap fun x=>(tup r).map (x :: ·)
def rest:List (List Int)→List Nat→List (List Int)
 | l :: r,i :: is=>(rest r is).map (l.getD i 0 :: ·) ++ (l.drop (i + 1)).flatMap fun x=>(tup r).map (x :: ·)
 | _,_=>[[]]
def candsP (cs:List Cnd):List (List Int):=[numsP 0 cs,numsP 1 cs,numsP 2 cs,numsP 3 cs,numsP 4 cs]
def cells5 (L:List (List Int)):Nat:=(L.map List.length).foldl (·* ·) 1
def few (cs:List Cnd):Bool:=decide (cells5 (candsP cs)≤20000)
end Cw
namespace Go.AM
open Go.RowKit Go.Proofs Go.Sort Go.Shelf
def ov (d:Array Int):Nat→List Int→Array Int
 | _,[]=>d
 | i,x :: r=>ov (d.setIfInBounds i x) (i + 1) r
theorem qT (w:World) (blk off:Nat):∀(xs:List Int) (d:Array Int) (i:Nat),i + xs.length≤d.size→
  (putRow (Value.int .i64) w blk off d).setCells blk (off + i) (xs.map (Value.int .i64))=putRow (Value.int .i64) w blk off (ov d i xs)
 | [],_,_,_=>rfl
 | x :: r,d,i,h=>by
  simp only[List.length_cons] at h
  simp only[List.map_cons,World.setCells,ov]
  rw[putRow_set (Value.int .i64) w blk off d i x (by omega),Nat.add_assoc]
  exact qT w blk off r _ (i + 1) (by simpa using by omega)
theorem ov_all:∀(xs:List Int) (d:Array Int) (i:Nat),i + xs.length=d.size→(ov d i xs).toList=d.toList.take i ++ xs
 | [],d,i,h=>by
  simp only[List.length_nil] at h
  rw[ov,List.append_nil,List.take_of_length_le (by simp;omega)]
 | x :: r,d,i,h=>by
  simp only[List.length_cons] at h
  rw[ov,ov_all r _ (i + 1) (by simp;omega),Array.toList_setIfInBounds]
  have e:(d.toList.set i x).take (i + 1)=d.toList.take i ++ [x]:=by
   rw[List.take_succ_eq_append_getElem (by simp;omega),List.take_set_of_le (by omega)]
   simp
  rw[e,List.append_assoc];rfl
variable {w0 : World} {G : Gh} {h : zI} {w : World}
theorem Inv.ahead [Vars] (I:Inv w0 G h w) (n:Nat):Inv w0 G h (Sort.ahead w n):=by
 refine⟨⟨⟨I.below.os,I.below.tape,I.below.output,I.below.size,I.below.block⟩,Nat.le_trans I.below.drawn (Nat.le_add_right _ _)⟩,I.imm,fun n o e=>?_,I.disj,I.sep,I.oth.keep rfl rfl rfl fun _ _ e _=>e⟩
 exact (I.obj n o e).keep (VLe.refl G) (Nat.le_refl _) (fun _ _ _ _=>⟨rfl,rfl⟩) (fun _ _ _=>rfl) (fun _ _ _ hp=>hp)
theorem Inv.grow [Vars] (I:Inv w0 G h w) (os:Array Obj):Inv w0 G h (Sort.grow w os):=by
 refine⟨⟨⟨I.below.os,I.below.tape,I.below.output,by rw[size_grow];exact Nat.le_trans I.below.size (Nat.le_add_right _ _),fun k hk=>?_⟩,I.below.drawn⟩,fun a v e=>?_,fun n o e=>?_,I.disj,I.sep,I.oth.keep rfl rfl rfl fun k o e _=>?_⟩
 ·rw[heap_grow_old w os (Nat.lt_of_lt_of_le hk I.below.size)];exact I.below.block k hk
 ·rw[cell?_grow w os a (I.imm_lt e)];exact I.imm a v e
 ·have ok:=I.obj n o e
  refine ok.keep (VLe.refl G) (by rw[size_grow];exact Nat.le_add_right _ _) (fun r hr a ha=>?_) (fun r hr _=>heap_grow_old w os (ok.lt hr)) (fun r p hr hp=>?_)
  ·have:a.block < w.heap.size:=by rw[ha.1];exact ok.lt hr
   exact⟨cell?_grow w os a this,frozen?_grow w os a this⟩
  ·rw[Zx (heap_grow_old w os (ok.lt hr))];exact hp
 ·rw[heap_grow_old w os (Array.getElem?_eq_some_iff.1 e).1];exact e
theorem relI:∀{zs:List Int} {vs:List Value},RvL G (zs.map (iv .i64)) vs→vs=zs.map (Value.int .i64)
 | [],_,h=>by simpa [RvL] using h
 | z :: r,_,h=>by
  simp only[List.map_cons,RvL,iv,Rv] at h
  obtain⟨v,vr,rfl,⟨rfl,_⟩,h⟩:=h
  rw[relI h];rfl
theorem relI':∀zs:List Int,RvL G (zs.map (iv .i64)) (zs.map (Value.int .i64))
 | []=>by simp[RvL]
 | z :: r=>by simp only[List.map_cons,RvL,iv,Rv];exact⟨_,_,rfl,⟨rfl,rfl⟩,relI' r⟩
theorem owned_row [Vars] {b lo t:Nat} {n:Nat} {zs:List Int} (I:Inv w0 G h w) (hn:h n=some (.cells (zs.map (iv .i64)))) (hreg:G.reg n=some (b,lo,t)):Holds (Value.int .i64) w b lo zs.toArray∧b < w.heap.size∧zs.length≤t:=by
 obtain⟨r,us,hr',ok⟩:=I.obj n _ hn
 rw[hreg] at hr';cases hr'
 have hus:=relI ok.rel
 have hlen:=ok.len
 simp only[List.length_map] at hlen
 refine⟨fun j hj=>?_,ok.lt,hlen⟩
 have hj':j < zs.length:=by simpa using hj
 refine⟨ok.val j _ ?_,ok.free j (by show j < t;omega)⟩
 rw[hus];simp[hj']
theorem Inv.putRow [Vars] {b lo t:Nat} {n:Nat} {zs ts:List Int} (I:Inv w0 G h w) (hn:h n=some (.cells (zs.map (iv .i64)))) (hreg:G.reg n=some (b,lo,t)) (hl:ts.length=zs.length) :
  Inv w0 G (h.upd n (some (.cells (ts.map (iv .i64))))) (Sort.putRow (Value.int .i64) w b lo ts.toArray):=by
 obtain⟨hH,_,hlen⟩:=owned_row I hn hreg
 have hst:w.setCells b (lo + 0) (ts.map (Value.int .i64))=Sort.putRow (Value.int .i64) w b lo ts.toArray:=by
  have e1:=qT w b lo ts zs.toArray 0 (by simp;omega)
  rw[putRow_self (Value.int .i64) w b lo _ hH] at e1
  rw[e1]
  congr 1
  apply Array.ext'
  rw[ov_all ts zs.toArray 0 (by simp;omega)]
  simp
 have hsc:(ts.map (iv .i64)).all AV.scalar=true:=by
  rw[List.all_eq_true];intro x hx;obtain⟨z,_,rfl⟩:=List.mem_map.1 hx;rfl
 have I1:=I.store hn hreg 0 (ts.map (iv .i64)) (ts.map (Value.int .i64)) (relI' ts) hsc (Nat.zero_le _) (by simp only[List.length_map];show 0 + ts.length≤t;omega)
 have hsp:z8 (zs.map (iv .i64)) 0 (ts.map (iv .i64))=ts.map (iv .i64):=by
  simp only[z8,List.take_zero,List.nil_append,List.length_map,Nat.zero_add]
  rw[List.drop_eq_nil_of_le (by simp;omega),List.append_nil]
 rw[hsp] at I1
 rw[←hst];exact I1
end Go.AM
namespace Go.AM
open Go.RowKit Go.Proofs Go.Sort Go.Shelf
variable {w0 : World} {G : Gh} {h : zI} {w : World}
def ovV (d:Array Value):Nat→List Value→Array Value
 | _,[]=>d
 | i,x :: r=>ovV (d.setIfInBounds i x) (i + 1) r
theorem Jt (w:World) (blk off:Nat):∀(xs:List Value) (d:Array Value) (i:Nat),i + xs.length≤d.size→
  (putRow id w blk off d).setCells blk (off + i) xs=putRow id w blk off (ovV d i xs)
 | [],_,_,_=>rfl
 | x :: r,d,i,h=>by
  simp only[List.length_cons] at h
  simp only[World.setCells,ovV]
  have e:=putRow_set id w blk off d i x (by omega)
  simp only[id] at e
  rw[e,Nat.add_assoc]
  exact Jt w blk off r _ (i + 1) (by simpa using by omega)
theorem ovV_all:∀(xs:List Value) (d:Array Value) (i:Nat),i + xs.length=d.size→(ovV d i xs).toList=d.toList.take i ++ xs
 | [],d,i,h=>by
  simp only[List.length_nil] at h
  rw[ovV,List.append_nil,List.take_of_length_le (by simp;omega)]
 | x :: r,d,i,h=>by
  simp only[List.length_cons] at h
  rw[ovV,ovV_all r _ (i + 1) (by simp;omega),Array.toList_setIfInBounds]
  have e:(d.toList.set i x).take (i + 1)=d.toList.take i ++ [x]:=by
   rw[List.take_succ_eq_append_getElem (by simp;omega),List.take_set_of_le (by omega)]
   simp
  rw[e,List.append_assoc];rfl
theorem relV:∀{us vs:List Value},RvL G (us.map AV.c) vs→vs=us
 | [],_,h=>by simpa [RvL] using h
 | z :: r,_,h=>by
  simp only[List.map_cons,RvL,Rv] at h
  obtain⟨v,vr,rfl,⟨rfl,_⟩,h⟩:=h
  rw[relV h]
theorem relV':∀us:List Value,(∀u ∈ us,u.oneCell'=true)→RvL G (us.map AV.c) us
 | [],_=>by simp[RvL]
 | z :: r,h=>by simp only[List.map_cons,RvL,Rv];exact⟨_,_,rfl,⟨rfl,h z (by simp)⟩,relV' r fun u hu=>h u (by simp[hu])⟩
theorem owned_rowV [Vars] {b lo t:Nat} {n:Nat} {us:List Value} (I:Inv w0 G h w) (hn:h n=some (.cells (us.map AV.c))) (hreg:G.reg n=some (b,lo,t)):Holds id w b lo us.toArray∧b < w.heap.size∧us.length≤t:=by
 obtain⟨r,vs,hr',ok⟩:=I.obj n _ hn
 rw[hreg] at hr';cases hr'
 have hus:=relV ok.rel
 have hlen:=ok.len
 simp only[List.length_map] at hlen
 refine⟨fun j hj=>?_,ok.lt,hlen⟩
 have hj':j < us.length:=by simpa using hj
 refine⟨ok.val j _ ?_,ok.free j (by show j < t;omega)⟩
 rw[hus];simp[hj']
theorem Inv.putRowV [Vars] {b lo t:Nat} {n:Nat} {us ts:List Value} (I:Inv w0 G h w) (hn:h n=some (.cells (us.map AV.c))) (hreg:G.reg n=some (b,lo,t)) (hl:ts.length=us.length) (h1:∀u ∈ ts,u.oneCell'=true) :
  Inv w0 G (h.upd n (some (.cells (ts.map AV.c)))) (Sort.putRow id w b lo ts.toArray):=by
 obtain⟨hH,_,hlen⟩:=owned_rowV I hn hreg
 have hst:w.setCells b (lo + 0) ts=Sort.putRow id w b lo ts.toArray:=by
  have e1:=Jt w b lo ts us.toArray 0 (by simp;omega)
  rw[putRow_self id w b lo _ hH] at e1
  rw[e1]
  congr 1
  apply Array.ext'
  rw[ovV_all ts us.toArray 0 (by simp;omega)]
  simp
 have hsc:(ts.map AV.c).all AV.scalar=true:=by
  rw[List.all_eq_true];intro x hx;obtain⟨z,_,rfl⟩:=List.mem_map.1 hx;rfl
 have I1:=I.store hn hreg 0 (ts.map AV.c) ts (relV' ts h1) hsc (Nat.zero_le _) (by simp only[List.length_map];show 0 + ts.length≤t;omega)
 have hsp:z8 (us.map AV.c) 0 (ts.map AV.c)=ts.map AV.c:=by
  simp only[z8,List.take_zero,List.nil_append,List.length_map,Nat.zero_add]
  rw[List.drop_eq_nil_of_le (by simp;omega),List.append_nil]
 rw[hsp] at I1
 rw[←hst];exact I1
theorem BelowD.grown {w w':World} (h:BelowD w.heap.size w w'):∃q os,w'=Sort.grow (w.drewN q) os:=by
 refine⟨w'.drawn - w.drawn,w'.heap.extract w.heap.size w'.heap.size,?_⟩
 obtain⟨hp,tp,dr,os,out⟩:=w'
 obtain⟨⟨h1,h2,h3,h4,h5⟩,h6⟩:=h
 simp only at h1 h2 h3 h4 h5 h6
 subst h1;subst h2;subst h3
 simp only[Sort.grow,World.drewN]
 have e1:w.drawn + (dr - w.drawn)=dr:=by omega
 have e2:w.heap ++ hp.extract w.heap.size hp.size=hp:=by
  apply Array.ext_getElem?
  intro i
  rw[Array.getElem?_append]
  split
  ·rename_i hi;exact (h5 i hi).symm
  ·rename_i hi
   rw[Array.getElem?_extract]
   simp only[Nat.min_self]
   split
   ·congr 1;omega
   ·rw[Array.getElem?_eq_none (by omega)]
 rw[e1,e2]
section
variable {α : Type} [Inhabited α]
theorem flatK_list (enc:α→List Value) (k:Nat) (hk:∀x,(enc x).length=k) (xs:List α):flatK enc k xs.toArray=(xs.flatMap enc).toArray:=by
 apply Array.ext'
 have hlen:(xs.flatMap enc).length=xs.length * k:=by
  induction xs with
  | nil=>simp
  | cons x r ih=>simp only[List.flatMap_cons,List.length_append,List.length_cons,hk,ih];rw[Nat.succ_mul];omega
 have key:∀(ys:List α) (t:Nat),t < ys.length * k→(ys.flatMap enc)[t]! = (enc ys.toArray[t / k]!)[t % k]!:=by
  intro ys
  induction ys with
  | nil=>intro t ht;simp at ht
  | cons y r ih=>
   intro t ht
   have hkp:0 < k:=by
    rcases Nat.eq_zero_or_pos k with h0 | h0
    ·subst h0;simp at ht
    ·exact h0
   simp only[List.length_cons,Nat.succ_mul] at ht
   rw[List.flatMap_cons]
   by_cases hlt:t < k
   ·rw[Nat.div_eq_of_lt hlt,Nat.mod_eq_of_lt hlt]
    simp[List.getElem!_eq_getElem?_getD,List.getElem?_append,hk,hlt]
   ·have e1:t / k=(t - k) / k + 1:=by
     have:t=(t - k) + k:=by omega
     conv=>lhs;rw[this]
     rw[Nat.add_div_right _ hkp]
    have e2:t % k=(t - k) % k:=by
     have:t=(t - k) + k:=by omega
     conv=>lhs;rw[this]
     rw[Nat.add_mod_right]
    have:=ih (t - k) (by omega)
    rw[e1,e2]
    simp only[List.getElem!_eq_getElem?_getD,List.getElem?_append,hk,hlt,if_false] at this ⊢
    rw[this]
    simp
 apply List.ext_getElem
 ·simp[hlen]
 ·intro t h1 h2
  have ht:t < xs.length * k:=by simpa [hlen] using h2
  have a:=get_flatK enc k xs.toArray t (by simpa using ht)
  have b:=key xs t ht
  rw[←a] at b
  have c1:(flatK enc k xs.toArray)[t]! = (flatK enc k xs.toArray).toList[t]:=by
   rw[getElem!_pos _ t (by simpa using ht)];simp
  have c2:(xs.flatMap enc)[t]! = (xs.flatMap enc)[t]'(by rw[hlen];exact ht):=getElem!_pos _ t (by rw[hlen];exact ht)
  rw[←c1,←b,c2]
end
def Gw (W:World):Gh:=⟨fun _=>none,fun a=>W.cell? a,[],([],[],fun a=>W.cell? a),[]⟩
theorem inv_w [Vars] (W:World) (hv:VarsOk (Gw W)):Inv W (Gw W) (fun _=>none) W:=
 ⟨BelowD.refl _ _,fun _ _ h=>h,fun _ _ h=>by simp at h,fun _ _ _ _ _ _ _ h=>by simp at h,fun _ _ _ _ _ h=>by simp at h,⟨fun b hb=>by simp[Gw] at hb,fun b hb=>by simp[Gw] at hb,List.nodup_nil,fun b hb=>by simp[Gw] at hb,fun _ _ h _=>h,hv⟩⟩
theorem vars_w [Vars] (I:Inv w0 G h w):VarsOk (Gw w):=fun p hp=>⟨fun j v e=>I.imm _ _ ((I.oth.vars p hp).1 j v e),(I.oth.vars p hp).2⟩
section
variable {P : Program} {α : Type}
theorem cmp_lays [Vars] {g:FuncId} {enc:α→List Value} {cf:α→α→Int} (h1:∀x,∀v ∈ enc x,v.oneCell'=true) (hc:∀x y,zL P g [.agg ((enc x).map .c),.agg ((enc y).map .c)] (iv .i64 (cf x y))) {W:World} (hv:VarsOk (Gw W)) (x y:α) :
  Calls P g #[.agg (enc x).toArray,.agg (enc y).toArray] W fun e w'=>e=.returned (.int .i64 (cf x y))∧∃q os',w'=Sort.grow (W.drewN q) os':=by
 have hk:=(hc x y (fun _=>none) 0).2 W (Gw W) W [.agg (enc x).toArray,.agg (enc y).toArray] (inv_w W hv) (fun _ _=>rfl) (by
  simp only[RvL,Rv]
  exact⟨_,_,rfl,⟨_,rfl,relV' _ (h1 x)⟩,_,_,rfl,⟨_,rfl,relV' _ (h1 y)⟩,rfl⟩)
 refine hk.mono fun e w' ⟨G',r,z,h',n',e1,_,I',_,_,hr,hz,_⟩=>?_
 subst hz
 rw[Rv_iv] at hr
 exact⟨by rw[e1,hr],I'.below.grown⟩
theorem sortF_ac [Vars] [Inhabited α] {ρ:Ren} (Ly:SlLaysF0.n6 P ρ) (k:Nat) (aE:∀w,(isAgg (ρ.t 24)).run P w=.ok true w) (zE:∀w,(Go.sizeOf (ρ.t 24)).run P w=.ok k w) (hgo:Q2 P (ρ.f 6)=true) (enc:α→List Value) (hk:∀x,(enc x).length=k) (h1:∀x,∀v ∈ enc x,v.oneCell'=true)
  (cf:α→α→Int) (hO:SWO (ltOf cf)) (hT:∀x y,(ltOf cf) x y=false→(ltOf cf) y x=false→x=y) (g:FuncId) (eg:∀args w,(callFunc g args).run P w=.ok (.enter g args) w)
  (hc:∀x y,zL P g [.agg ((enc x).map .c),.agg ((enc y).map .c)] (iv .i64 (cf x y))) (n nn:Nat) (h:zI) (xs:List α) (hn:h n=some (.cells ((xs.flatMap enc).map .c))) (hsz:xs.length < 4611686018427387904) :
  zS P (ρ.f 6) [.slc n 0 xs.length k,.func (.func g) [] []] h nn fun r h' n'=>r=.tup []∧h'=h.upd n (some (.cells (((xs.mergeSort fun x y=>!(ltOf cf) y x).flatMap enc).map .c)))∧n'=nn:=by
 refine⟨hgo,fun w0 G w vs I hf hr=>?_⟩
 simp only[RvL] at hr
 obtain⟨v,vr,rfl,hv,v2,vr2,rfl,hv2,rfl⟩:=hr
 rw[Rv] at hv
 obtain⟨b,lo,t,cap,hreg,rfl,hcap,htot,_⟩:=hv
 simp only[Rv] at hv2
 obtain⟨f',c',rfl,hf',hc'⟩:=hv2
 have hf0:f' = #[]:=by
  apply Array.ext'
  simpa [RvL] using hf'
 have hc0:c' = #[]:=by
  apply Array.ext'
  simpa [RvL] using hc'
 subst hf0;subst hc0
 obtain⟨hH,hlt,hlen⟩:=owned_rowV I hn hreg
 have hfk:=fun ys:List α=>flatK_list enc k hk ys
 have hflen:∀ys:List α,(ys.flatMap enc).length=ys.length * k:=fun ys=>by
  have:=congrArg Array.size (hfk ys)
  simpa using this.symm
 have h1f:∀ys:List α,∀u ∈ ys.flatMap enc,u.oneCell'=true:=fun ys u hu=>by
  obtain⟨x,_,hx⟩:=List.mem_flatMap.1 hu
  exact h1 x u hx
 have hput:∀ys:List α,ys.length=xs.length→∀m os,Inv w0 G (h.upd n (some (.cells ((ys.flatMap enc).map .c)))) (sortWorldK enc k w b lo m ys.toArray os):=fun ys hl m os=>by
  unfold sortWorldK putRowK
  rw[hfk]
  have I1:=(I.ahead m).putRowV hn hreg (ts:=ys.flatMap enc) (by rw[hflen,hflen,hl]) (h1f ys)
  exact I1.grow os
 have hHK:HoldsK enc k w b lo xs.toArray:=by
  unfold HoldsK;rw[hfk];exact hH
 have hcmp:CmpLays P g #[] enc k cf b lo xs.toArray.size w:=fun m os dk hs x y=>by
  have e:=hput dk.toList (by simpa using hs) m os
  rw[Array.toArray_toList] at e
  exact cmp_lays h1 hc (vars_w e) x y
 have hcall:=AnyQ.slices_SortFunc_total Ly k aE zE enc hk h1 cf hO g #[] b lo cap xs.toArray w eg hcmp hHK hlt (by simpa using hsz) hT
 rw[Nat.add_zero] at *
 refine hcall.mono fun e w' ⟨he,m,os,hw⟩=>?_
 have I2:=hput (xs.mergeSort fun x y=>!(ltOf cf) y x) (List.length_mergeSort _) m os
 rw[←show (xs.toArray.toList.mergeSort fun x y=>!(ltOf cf) y x).toArray=(xs.mergeSort fun x y=>!(ltOf cf) y x).toArray from rfl,←hw] at I2
 exact⟨G,_,.tup [],_,nn,he,⟨Ext.refl _ _,rfl⟩,I2,hf,Nat.le_refl _,by simp[Rv,RvL],rfl,rfl,rfl⟩
theorem sortF_none [Vars] {ρ:Ren} (Ly:SlLaysF0.n6 P ρ) (hgo:Q2 P (ρ.f 6)=true) (nl fu:Bool) (s:Nat) (f:AV) (h:zI) (nn:Nat) :
  zS P (ρ.f 6) [.fslc nl fu s [],f] h nn fun r h' n'=>r=.tup []∧h'=h∧n'=nn:=by
 refine⟨hgo,fun w0 G w vs I hf hr=>?_⟩
 simp only[RvL] at hr
 obtain⟨v,vr,rfl,hv,v2,vr2,rfl,hv2,rfl⟩:=hr
 rw[Rv] at hv
 obtain⟨a,cap,e1,_⟩:=hv
 have e1:v=.slice a 0 cap:=e1
 subst e1
 refine (AnyF.slices_SortFunc_none (P:=P) (ρ:=ρ) Ly a cap v2 w).mono fun e w' ⟨he,hw⟩=>?_
 subst hw
 exact⟨G,_,.tup [],_,nn,he,⟨Ext.refl _ _,rfl⟩,I,hf,Nat.le_refl _,by simp[Rv,RvL],rfl,rfl,rfl⟩
end
end Go.AM
namespace Go.Proofs
open Go.Shelf
def Tryz.laysortd_ren:Go.Shelf.Ren:=⟨fun | 6=>98 | 15=>151 | 14=>150 | 28=>188 | 29=>189 | 20=>161 | 21=>181 | 22=>182 | 23=>183 | 24=>184 | 25=>185 | 26=>186 | 27=>187 | 46=>220 | 47=>221 | 48=>222 | 49=>223 | 50=>224 | 57=>253 | n=>n,fun | 22=>28 | 24=>51 | 25=>136 | 3=>3 | 39=>216 | 0=>0 | 53=>246 | 55=>248 | 4=>4 | 46=>240 | 45=>239 | 50=>201 | 5=>5 | 9=>9 | 66=>268 | 70=>203 | 76=>296 | 77=>297 | n=>n,fun | n=>n⟩
theorem Tryz.laysortd:Go.Proofs.SlLaysF0.n6 Tryz.prog Tryz.laysortd_ren:={
 mixed:=by kernel_rfl
 f6:=⟨Tryz.f98.name,by decide,Tryz.func98.trans (congrArg some (by kernel_rfl))⟩
 f14:=⟨Tryz.f150.name,by decide,Tryz.func150.trans (congrArg some (by kernel_rfl))⟩
 f15:=Tryz.func151.trans (congrArg some (by kernel_rfl))
 f20:=⟨Tryz.f161.name,by decide,Tryz.func161.trans (congrArg some (by kernel_rfl))⟩
 f21:=⟨Tryz.f181.name,by decide,Tryz.func181.trans (congrArg some (by kernel_rfl))⟩
 f22:=⟨Tryz.f182.name,by decide,Tryz.func182.trans (congrArg some (by kernel_rfl))⟩
 f23:=⟨Tryz.f183.name,by decide,Tryz.func183.trans (congrArg some (by kernel_rfl))⟩
 f24:=⟨Tryz.f184.name,by decide,Tryz.func184.trans (congrArg some (by kernel_rfl))⟩
 f25:=⟨Tryz.f185.name,by decide,Tryz.func185.trans (congrArg some (by kernel_rfl))⟩
 f26:=⟨Tryz.f186.name,by decide,Tryz.func186.trans (congrArg some (by kernel_rfl))⟩
 f27:=⟨Tryz.f187.name,by decide,Tryz.func187.trans (congrArg some (by kernel_rfl))⟩
 f28:=Tryz.func188.trans (congrArg some (by kernel_rfl))
 f29:=Tryz.func189.trans (congrArg some (by kernel_rfl))
 f46:=⟨Tryz.f220.name,by decide,Tryz.func220.trans (congrArg some (by kernel_rfl))⟩
 f47:=Tryz.func221.trans (congrArg some (by kernel_rfl))
 f48:=Tryz.func222.trans (congrArg some (by kernel_rfl))
 f49:=⟨Tryz.f223.name,by decide,Tryz.func223.trans (congrArg some (by kernel_rfl))⟩
 f50:=⟨Tryz.f224.name,by decide,Tryz.func224.trans (congrArg some (by kernel_rfl))⟩
 f57:=⟨Tryz.f253.name,by decide,Tryz.func253.trans (congrArg some (by kernel_rfl))⟩
 t0:=Tryz.underlying0
 a0:=Tryz.isAgg0
 z0:=Tryz.sizeOf0
 v0:=Tryz.zeroValue0
 t3:=Tryz.underlying3
 a3:=Tryz.isAgg3
 z3:=Tryz.sizeOf3
 v3:=Tryz.zeroValue3
 t4:=Tryz.underlying4
 a4:=Tryz.isAgg4
 z4:=Tryz.sizeOf4
 v4:=Tryz.zeroValue4
 t5:=Tryz.underlying5
 a5:=Tryz.isAgg5
 z5:=Tryz.sizeOf5
 v5:=Tryz.zeroValue5
 t9:=Tryz.underlying9
 a9:=Tryz.isAgg9
 z9:=Tryz.sizeOf9
 v9:=Tryz.zeroValue9
 t22:=Tryz.underlying28
 a22:=Tryz.isAgg28
 z22:=Tryz.sizeOf28
 v22:=Tryz.zeroValue28
 t25:=Tryz.underlying136
 a25:=Tryz.isAgg136
 z25:=Tryz.sizeOf136
 v25:=Tryz.zeroValue136
 t39:=Tryz.underlying216
 a39:=Tryz.isAgg216
 z39:=Tryz.sizeOf216
 v39:=Tryz.zeroValue216
 t45:=Tryz.underlying239
 a45:=Tryz.isAgg239
 z45:=Tryz.sizeOf239
 v45:=Tryz.zeroValue239
 t46:=Tryz.underlying240
 a46:=Tryz.isAgg240
 z46:=Tryz.sizeOf240
 v46:=Tryz.zeroValue240
 t50:=Tryz.underlying201
 a50:=Tryz.isAgg201
 z50:=Tryz.sizeOf201
 v50:=Tryz.zeroValue201
 t53:=Tryz.underlying246
 a53:=Tryz.isAgg246
 z53:=Tryz.sizeOf246
 v53:=Tryz.zeroValue246
 t55:=Tryz.underlying248
 a55:=Tryz.isAgg248
 z55:=Tryz.sizeOf248
 v55:=Tryz.zeroValue248
 t66:=Tryz.underlying268
 a66:=Tryz.isAgg268
 z66:=Tryz.sizeOf268
 v66:=Tryz.zeroValue268
 t70:=Tryz.underlying203
 a70:=Tryz.isAgg203
 z70:=Tryz.sizeOf203
 v70:=Tryz.zeroValue203
 t76:=Tryz.underlying296
 a76:=Tryz.isAgg296
 z76:=Tryz.sizeOf296
 v76:=Tryz.zeroValue296
 t77:=Tryz.underlying297
 a77:=Tryz.isAgg297
 z77:=Tryz.sizeOf297
 v77:=Tryz.zeroValue297}
end Go.Proofs
namespace Go.AM
open Go.Proofs Cw Du Go.RowKit
set_option maxRecDepth 10000
set_option maxHeartbeats 4000000
theorem isNaNS (a:ByteArray):zL Tryz.prog 121 [sv a] (bv false):=by
 intro h n
 refine zS.pure (zS.entry (by kernel_rfl) fun hb _=>zX Tryz.func121 rfl (by kernel_rfl) (by simp[Tryz.ntmps121]) ?_)
 repeat' (first|(refine zF fun K hK=>?_)|(refine zB fun K hK=>?_;simp (disch:=omega) [go_sem, *,Tryz.ntmps121])|(apply zC.out hK;clear hK K;try with_reducible dsimp only[zD]))
 exact zR
theorem compareS (a b:ByteArray):zL Tryz.prog 64 [sv a,sv b] (iv .i64 (jp a b)):=by
 intro h n
 have k1:=isNaNS a
 have k2:=isNaNS b
 refine zS.pure (zS.entry (by kernel_rfl) fun hb _=>zX Tryz.func64 rfl (by kernel_rfl) (by simp[Tryz.ntmps64]) ?_)
 cases c1:Go.Op.bytesLess a.toList b.toList with
 | true=>
  have e:jp a b=-1:=by simp[jp,bl,c1]
  rw[e]
  repeat' (first|(refine zF fun K hK=>?_)|(refine zB fun K hK=>?_;simp (disch:=omega) [go_sem, *,Tryz.ntmps64])|(apply zC.out hK;clear hK K;try with_reducible dsimp only[zD])|(apply zC.out ht;clear ht hf Kt Kf)|(apply zC.out hf;clear ht hf Kt Kf)|(with_reducible refine zL.gcall (k1) ?_;try simp (disch:=omega) [go_sem, *])|(with_reducible refine zL.gcall (k2) ?_;try simp (disch:=omega) [go_sem, *])|(refine zK ?_;simp only[zD])|(refine zH fun Kt Kf ht hf=>?_;simp (disch:=omega) [go_sem, *];try (refine⟨fun hc=>?_,fun hc=>?_⟩ <;> try (exfalso;omega))))
  exact zR
 | false=>
  cases c2:(a.toList == b.toList) with
  | true=>
   have e:jp a b=0:=(cmpS_zero a b).2 ((ZM a b).1 c2)
   rw[e]
   repeat' (first|(refine zF fun K hK=>?_)|(refine zB fun K hK=>?_;simp (disch:=omega) [go_sem, *,Tryz.ntmps64])|(apply zC.out hK;clear hK K;try with_reducible dsimp only[zD])|(apply zC.out hf;clear ht hf Kt Kf)|(with_reducible refine zL.gcall (k1) ?_;try simp (disch:=omega) [go_sem, *])|(with_reducible refine zL.gcall (k2) ?_;try simp (disch:=omega) [go_sem, *])|(refine zK ?_;simp only[zD])|(refine zH fun Kt Kf ht hf=>?_;simp (disch:=omega) [go_sem, *];try (refine⟨fun hc=>?_,fun hc=>?_⟩ <;> try (exfalso;omega))))
   exact zR
  | false=>
   have e:jp a b=1:=by
    cases c3:bl b a with
    | true=>simp[jp,bl,c1] at *;simp[c3]
    | false=>
     have:=bl_eq (a:=a) (b:=b) c1 c3
     rw[this] at c2;simp at c2
   rw[e]
   repeat' (first|(refine zF fun K hK=>?_)|(refine zB fun K hK=>?_;simp (disch:=omega) [go_sem, *,Tryz.ntmps64])|(apply zC.out hK;clear hK K;try with_reducible dsimp only[zD])|(apply zC.out ht;clear ht hf Kt Kf)|(apply zC.out hf;clear ht hf Kt Kf)|(with_reducible refine zL.gcall (k1) ?_;try simp (disch:=omega) [go_sem, *])|(with_reducible refine zL.gcall (k2) ?_;try simp (disch:=omega) [go_sem, *])|(refine zK ?_;simp only[zD])|(refine zH fun Kt Kf ht hf=>?_;simp (disch:=omega) [go_sem, *];try (refine⟨fun hc=>?_,fun hc=>?_⟩ <;> try (exfalso;omega))))
   exact zR
theorem orI (x y:Int):zL Tryz.prog 63 [.fslc false false 1 [iv .i64 x,iv .i64 y]] (iv .i64 (if x≠0 then x else y)):=by
 intro h n
 refine zS.pure (zS.entry (by kernel_rfl) fun hb _=>zX Tryz.func63 rfl (by kernel_rfl) (by simp[Tryz.ntmps63]) ?_)
 obtain⟨T,hT⟩:∃T,zC (T=if x≠0 then x else y):=⟨_,rfl⟩
 rw[←hT.out]
 repeat' (first|(refine zF fun K hK=>?_)|(refine zB fun K hK=>?_;simp (disch:=omega) [go_sem, *,Tryz.ntmps63])|(apply zC.out hK;clear hK K;try with_reducible dsimp only[zD])|(refine zJ ?_))
 refine za (fun s'=>∃(i:Nat) (n':Nat),n≤n'∧i≤2∧(1≤i→x=0)∧(2≤i→y=0)∧s'=⟨18,[(3,iv .i64 0),(6,.fslc false false 1 [iv .i64 x,iv .i64 y]),(7,iv .i64 2),(8,iv .i64 i)],h,n'⟩)
   (fun s'=>2 - (zf s' 8).toNat) ?_ ?_
 ·exact zb (by simp[go_sem]) (Sub.refl _) ⟨0,_,by omega,by omega,by omega,by omega,rfl⟩
 ·rintro s' ⟨i,n',hn',hi,h1,h2,rfl⟩
  have hi3:i=0∨i=1∨i=2:=by omega
  rcases hi3 with rfl | rfl | rfl
  ·clear h1 h2
   by_cases hx:x=0
   ·subst hx
    repeat' (first|(refine zF fun K hK=>?_)|(refine zB fun K hK=>?_;simp (disch:=omega) [go_sem, *,zN,zQ])|(apply zC.out hK;clear hK K;try with_reducible dsimp only[zD])|(apply zC.out ht;clear ht hf Kt Kf)|(apply zC.out hf;clear ht hf Kt Kf)|(refine zJ ?_)|(refine zK ?_;simp only[zD,zO])|(refine zH fun Kt Kf ht hf=>?_;simp (disch:=omega) [go_sem, *];try (refine⟨fun hc=>?_,fun hc=>?_⟩ <;> try (exfalso;omega))))
    exact zV (by simp[go_sem]) (Sub.refl _) ⟨1,_,by omega,by omega,fun _=>rfl,fun e=>by omega,rfl⟩ (by simp[zf,go_sem])
   ·have hTx:T=x:=by rw[hT.out,if_pos hx]
    subst hTx
    have hb:(T != 0)=true:=by simpa using hx
    clear hx
    repeat' (first|(refine zF fun K hK=>?_)|(refine zB fun K hK=>?_;simp (disch:=omega) [go_sem, *,zQ])|(apply zC.out hK;clear hK K;try with_reducible dsimp only[zD])|(apply zC.out ht;clear ht hf Kt Kf)|(refine zJ ?_)|(refine zK ?_;simp only[zD])|(refine zH fun Kt Kf ht hf=>?_;simp (disch:=omega) [go_sem, *];try (refine⟨fun hc=>?_,fun hc=>?_⟩ <;> try (exfalso;omega))))
    exact zR
  ·have hx:=h1 (by omega)
   subst hx
   clear h1 h2
   by_cases hy:y=0
   ·subst hy
    repeat' (first|(refine zF fun K hK=>?_)|(refine zB fun K hK=>?_;simp (disch:=omega) [go_sem, *,zN,zQ,zP])|(apply zC.out hK;clear hK K;try with_reducible dsimp only[zD])|(apply zC.out ht;clear ht hf Kt Kf)|(apply zC.out hf;clear ht hf Kt Kf)|(refine zJ ?_)|(refine zK ?_;simp only[zD,zO])|(refine zH fun Kt Kf ht hf=>?_;simp (disch:=omega) [go_sem, *];try (refine⟨fun hc=>?_,fun hc=>?_⟩ <;> try (exfalso;omega))))
    exact zV (by simp[go_sem]) (Sub.refl _) ⟨2,_,by omega,by omega,fun _=>rfl,fun _=>rfl,rfl⟩ (by simp[zf,go_sem])
   ·have hTy:T=y:=by rw[hT.out,if_neg (by simp)]
    subst hTy
    have hb:(T != 0)=true:=by simpa using hy
    clear hy
    repeat' (first|(refine zF fun K hK=>?_)|(refine zB fun K hK=>?_;simp (disch:=omega) [go_sem, *,zQ,zP])|(apply zC.out hK;clear hK K;try with_reducible dsimp only[zD])|(apply zC.out ht;clear ht hf Kt Kf)|(refine zJ ?_)|(refine zK ?_;simp only[zD])|(refine zH fun Kt Kf ht hf=>?_;simp (disch:=omega) [go_sem, *];try (refine⟨fun hc=>?_,fun hc=>?_⟩ <;> try (exfalso;omega))))
    exact zR
  ·have hx:=h1 (by omega)
   have hy:=h2 (by omega)
   subst hx;subst hy
   have hT0:T=0:=by rw[hT.out,if_neg (by simp)]
   subst hT0
   clear h1 h2
   repeat' (first|(refine zF fun K hK=>?_)|(refine zB fun K hK=>?_;simp (disch:=omega) [go_sem, *])|(apply zC.out hK;clear hK K;try with_reducible dsimp only[zD])|(apply zC.out hf;clear ht hf Kt Kf)|(clear hK K;apply zC.out hK;clear hK K;try with_reducible dsimp only[zD])|(refine zU ?_;simp only[zD,zO,if_true])|(refine zH fun Kt Kf ht hf=>?_;simp (disch:=omega) [go_sem, *];try (refine⟨fun hc=>?_,fun hc=>?_⟩ <;> try (exfalso;omega))))
   exact zR
def dutyV (d:Int) (p:Pr):List Value:=[.int .i64 d,.string p.1,.string p.2]
def zY (d:Int) (p:Pr):AV:=.agg [iv .i64 d,sv p.1,sv p.2]
theorem cmpD (d:Int) (p q:Pr):zL Tryz.prog 99 [zY d p,zY d q] (iv .i64 (cfP p q)):=by
 intro h n
 have k1:=compareS p.1 q.1
 have k2:=compareS p.2 q.2
 have k3:=orI (jp p.1 q.1) (jp p.2 q.2)
 refine zS.pure (zS.entry (by kernel_rfl) fun hb _=>zX Tryz.func99 rfl (by kernel_rfl) (by simp[Tryz.ntmps99]) ?_)
 have e:cfP p q=if jp p.1 q.1≠0 then jp p.1 q.1 else jp p.2 q.2:=rfl
 rw[←e] at k3
 generalize cfP p q=r at *
 generalize jp p.1 q.1=x at *
 generalize jp p.2 q.2=y at *
 clear e
 obtain⟨p1,p2⟩:=p
 obtain⟨q1,q2⟩:=q
 simp only[zY] at k1 k2 k3 ⊢
 repeat' (first|(refine zF fun K hK=>?_)|(refine zB fun K hK=>?_;simp (disch:=omega) [go_sem, *,Tryz.ntmps99])|(refine zq mixed (by kernel_rfl) fun K hK=>?_;simp (disch:=omega) [go_sem, *])|(refine jm (by simp[go_sem]) (by simp (disch:=omega) [go_sem, *,zG];first | exact rfl | exact⟨rfl,rfl,rfl⟩ | exact (k1).gcall ⟨rfl,rfl,rfl⟩ | exact (k2).gcall ⟨rfl,rfl,rfl⟩ | exact (k3).gcall ⟨rfl,rfl,rfl⟩) ?_;try simp only[zm])|(refine ZR ?_)|(apply zC.out hK;clear hK K;try with_reducible dsimp only[zD]))
 exact zR
theorem swo:Go.Sort.SWO (Go.Proofs.ltOf cfP):=by
 have e:∀x y,Go.Proofs.ltOf cfP x y=ltP x y:=fun x y=>ltP_cf x y
 exact⟨fun x=>by rw[e];exact jq x,fun x y z h1 h2=>by rw[e] at *;exact QL h1 h2,fun x y z h1 h2=>by rw[e] at *;exact ltP_ntrans h1 h2⟩
theorem ltOf_eq:Go.Proofs.ltOf cfP=ltP:=by funext x y;exact ltP_cf x y
theorem flat_duty (d:Int):∀D:List Pr,flat (D.map (zY d))=(D.flatMap (dutyV d)).map .c
 | []=>rfl
 | p :: r=>by
  have ih:=flat_duty d r
  simp only[flat,List.map_cons,List.flatten_cons,List.flatMap_cons,List.map_append] at ih ⊢
  rw[ih];rfl
theorem sortD (d:Int) (m n:Nat) (D:List Pr) (H:zI) (hm:H m=some (.cells (flat (D.map (zY d))))) (hsz:D.length < 4611686018427387904) :
  zS Tryz.prog 98 [.slc m 0 D.length 3,.func (.func 99) [] []] H n fun r h' n'=>r=.tup []∧h'=H.upd m (some (.cells (flat ((ZC D).map (zY d)))))∧n'=n:=by
 have h:=sortF_ac (ρ:=Tryz.laysortd_ren) Tryz.laysortd 3 Tryz.isAgg51 Tryz.sizeOf51 (by kernel_rfl) (dutyV d) (fun _=>rfl) (fun x v hv=>by
  simp only[dutyV,List.mem_cons,List.not_mem_nil,or_false] at hv
  rcases hv with rfl | rfl | rfl <;> rfl) cfP swo (fun x y h1 h2=>by rw[ltOf_eq] at h1 h2;exact ltP_tri h1 h2) 99 (enters_of Tryz.func99 (by kernel_rfl) rfl) (fun x y=>cmpD d x y) m n H D (by rw[hm,flat_duty]) hsz
 rw[flat_duty,ZC,←ltOf_eq]
 exact h
theorem sortD0 (f:AV) (n:Nat) (H:zI):zS Tryz.prog 98 [.fslc true true 0 [],f] H n fun r h' n'=>r=.tup []∧h'=H∧n'=n:=
 sortF_none (ρ:=Tryz.laysortd_ren) Tryz.laysortd (by kernel_rfl) true true 0 f H n
end Go.AM
namespace Du
def jr (p q:Pr):Bool:=eqB p.1 q.1 && eqB p.2 q.2
theorem ZK (p q:Pr):jr p q=true↔p=q:=by
 rw[jr,Bool.and_eq_true,ZM,ZM];exact⟨fun h=>Prod.ext h.1 h.2,fun h=>by rw[h];exact⟨rfl,rfl⟩⟩
def Z3:List Pr→Pr→List Pr
 | [],p=>[p]
 | x :: r,p=>if ltP x p then x :: Z3 r p else if jr x p then x :: r else p :: x :: r
theorem QE (q p:Pr):∀D:List Pr,q ∈ Z3 D p↔q ∈ D∨q=p
 | []=>by simp[Z3]
 | x :: r=>by
  rw[Z3]
  split
  ·rw[List.mem_cons,QE q p r,List.mem_cons,or_assoc]
  ·split
   ·rename_i h
    have e:=(ZK x p).1 h
    subst e
    constructor
    ·exact .inl
    ·rintro (h | rfl)
     ·exact h
     ·exact List.mem_cons_self
   ·rw[List.mem_cons];exact⟨fun h=>h.elim .inr .inl,fun h=>h.elim .inr .inl⟩
theorem JZ (p:Pr):∀D:List Pr,Ze D→Ze (Z3 D p)
 | [],_=>List.pairwise_singleton _ _
 | x :: r,h=>by
  have a:=List.pairwise_cons.1 h
  rw[Z3]
  split
  ·rename_i hx
   refine List.pairwise_cons.2 ⟨fun q hq=>?_,JZ p r a.2⟩
   rcases (QE q p r).1 hq with hq | rfl
   ·exact a.1 q hq
   ·exact hx
  ·rename_i hx
   split
   ·exact h
   ·rename_i he
    have hxp:ltP p x=true:=by
     cases e:ltP p x with
     | true=>rfl
     | false=>
      have:=ltP_tri (p:=x) (q:=p) (by simpa using hx) e
      exact absurd ((ZK x p).2 this) he
    refine List.pairwise_cons.2 ⟨fun q hq=>?_,h⟩
    rcases List.mem_cons.1 hq with rfl | hq
    ·exact hxp
    ·exact QL hxp (a.1 q hq)
def Js (l:Lin) (p:Pr):Bool:=(decide (l.kind=2) && eqB p.2 l.person) || (decide (l.kind=3) && eqB p.1 l.tower)
def qU (l:Lin) (p:Pr):Pr:=if (decide (l.kind=4) && eqB p.2 l.person)=true then (p.1,l.other) else if (decide (l.kind=4) && eqB p.2 l.other)=true then (p.1,l.person) else p
def jC (l:Lin) (A:List Pr) (p:Pr):List Pr:=if Js l p then A else Z3 A (qU l p)
def je (l:Lin) (D:List Pr):List Pr:=if l.kind=1 then Z3 (D.foldl (jC l) []) (l.tower,l.person) else D.foldl (jC l) []
theorem doneF_mem (l:Lin) (q:Pr):∀(D A:List Pr),q ∈ D.foldl (jC l) A↔q ∈ A∨∃p ∈ D,Js l p=false∧qU l p=q
 | [],A=>by simp
 | x :: r,A=>by
  rw[List.foldl_cons,doneF_mem l q r,jC]
  cases hg:Js l x with
  | true=>
   rw[if_pos rfl]
   constructor
   ·rintro (h | ⟨p,h1,h2,h3⟩)
    ·exact .inl h
    ·exact .inr ⟨p,by simp[h1],h2,h3⟩
   ·rintro (h | ⟨p,h1,h2,h3⟩)
    ·exact .inl h
    ·rcases List.mem_cons.1 h1 with rfl | h1
     ·rw[hg] at h2;cases h2
     ·exact .inr ⟨p,h1,h2,h3⟩
  | false=>
   rw[if_neg (by simp),QE]
   constructor
   ·rintro ((h | h)|⟨p,h1,h2,h3⟩)
    ·exact .inl h
    ·exact .inr ⟨x,by simp,hg,h.symm⟩
    ·exact .inr ⟨p,by simp[h1],h2,h3⟩
   ·rintro (h | ⟨p,h1,h2,h3⟩)
    ·exact .inl (.inl h)
    ·rcases List.mem_cons.1 h1 with rfl | h1
     ·exact .inl (.inr h3.symm)
     ·exact .inr ⟨p,h1,h2,h3⟩
theorem qK (l:Lin):∀(D A:List Pr),Ze A→Ze (D.foldl (jC l) A)
 | [],_,h=>h
 | x :: r,A,h=>by
  rw[List.foldl_cons]
  refine qK l r _ ?_
  unfold jC;split
  ·exact h
  ·exact JZ _ _ h
theorem doneR_sorted (l:Lin) (D:List Pr):Ze (je l D):=by
 unfold je;split
 ·exact JZ _ _ (qK l D [] List.Pairwise.nil)
 ·exact qK l D [] List.Pairwise.nil
theorem doneR_mem (l:Lin) (hk:kindOk l) (q:Pr) (D:List Pr):q ∈ je l D↔q ∈ Zy l D:=by
 have hm:=doneF_mem l q D []
 rcases hk with hk | hk | hk | ⟨hk,hne⟩
 ·have e:je l D=Z3 (D.foldl (jC l) []) (l.tower,l.person):=by unfold je;rw[if_pos hk]
  rw[e,QE,hm]
  have e2:Zy l D=if Zh D (l.tower,l.person) then D else D ++ [(l.tower,l.person)]:=by unfold Zy;rw[if_pos hk]
  rw[e2]
  have h1:∀p,Js l p=false∧qU l p=p:=fun p=>by simp[Js,qU,hk]
  have h2:(q ∈ ([]:List Pr)∨∃p ∈ D,Js l p=false∧qU l p=q)↔q ∈ D:=by
   constructor
   ·rintro (h | ⟨p,h3,_,h4⟩)
    ·simp at h
    ·rw[(h1 p).2] at h4;rw[←h4];exact h3
   ·exact fun h=>.inr ⟨q,h,(h1 q).1,(h1 q).2⟩
  rw[h2]
  cases hmm:Zh D (l.tower,l.person) with
  | true=>
   rw[if_pos rfl]
   have:=(Zi _ _).1 hmm
   exact⟨fun h=>h.elim id fun e=>by rw[e];exact this,.inl⟩
  | false=>rw[if_neg (by simp),List.mem_append,List.mem_singleton]
 ·have e:je l D=D.foldl (jC l) []:=by unfold je;rw[if_neg (by omega)]
  have e2:Zy l D=D.filter fun p=>!eqB p.2 l.person:=by unfold Zy;rw[if_neg (by omega),if_pos hk]
  rw[e,e2,hm,List.mem_filter]
  have h1:∀p,Js l p=eqB p.2 l.person∧qU l p=p:=fun p=>by simp[Js,qU,hk]
  constructor
  ·rintro (h | ⟨p,h3,h4,h5⟩)
   ·simp at h
   ·rw[(h1 p).2] at h5;subst h5;rw[(h1 p).1] at h4;exact⟨h3,by simp[h4]⟩
  ·rintro⟨h3,h4⟩
   exact .inr ⟨q,h3,by rw[(h1 q).1];simpa using h4,(h1 q).2⟩
 ·have e:je l D=D.foldl (jC l) []:=by unfold je;rw[if_neg (by omega)]
  have e2:Zy l D=D.filter fun p=>!eqB p.1 l.tower:=by unfold Zy;rw[if_neg (by omega),if_neg (by omega),if_pos hk]
  rw[e,e2,hm,List.mem_filter]
  have h1:∀p,Js l p=eqB p.1 l.tower∧qU l p=p:=fun p=>by simp[Js,qU,hk]
  constructor
  ·rintro (h | ⟨p,h3,h4,h5⟩)
   ·simp at h
   ·rw[(h1 p).2] at h5;subst h5;rw[(h1 p).1] at h4;exact⟨h3,by simp[h4]⟩
  ·rintro⟨h3,h4⟩
   exact .inr ⟨q,h3,by rw[(h1 q).1];simpa using h4,(h1 q).2⟩
 ·have e:je l D=D.foldl (jC l) []:=by unfold je;rw[if_neg (by omega)]
  have e2:Zy l D=D.map (swP l.person l.other):=by unfold Zy;rw[if_neg (by omega),if_neg (by omega),if_neg (by omega)]
  rw[e,e2,hm,List.mem_map]
  have h1:∀p,Js l p=false∧qU l p=swP l.person l.other p:=fun p=>by
   refine⟨by simp[Js,hk],?_⟩
   obtain⟨p1,p2⟩:=p
   simp only[qU,swP,hk,decide_true,Bool.true_and]
   cases eqB p2 l.person with
   | true=>simp
   | false=>
    cases eqB p2 l.other with
    | true=>simp
    | false=>simp
  constructor
  ·rintro (h | ⟨p,h3,_,h5⟩)
   ·simp at h
   ·exact⟨p,h3,by rw[←(h1 p).2];exact h5⟩
  ·rintro⟨p,h3,h4⟩
   exact .inr ⟨p,h3,(h1 p).1,by rw[(h1 p).2];exact h4⟩
theorem doneR_step (l:Lin) (hk:kindOk l) {E:List Pr} (hE:E.Nodup):je l (ZC E)=ZC (Zy l E):=by
 refine J4 _ _ (doneR_sorted l _) (jD (qj l hk hE)) fun q=>?_
 rw[doneR_mem l hk,(Za _).mem_iff,(stepD_perm l (Za E)).mem_iff]
def JJ (d:Int) (R:List Pr) (l:Lin):List Pr:=if onL l d then je l R else R
def dayR (ls:List Lin) (d:Int):List Pr:=ls.foldl (JJ d) []
theorem dayR_go (d:Int):∀(ls:List Lin),(∀l ∈ ls,kindOk l)→∀E:List Pr,E.Nodup→ls.foldl (JJ d) (ZC E)=ZC (ls.foldl (JQ d) E)
 | [],_,_,_=>rfl
 | l :: r,hk,E,hE=>by
  rw[List.foldl_cons,List.foldl_cons]
  have h1:JJ d (ZC E) l=ZC (JQ d E l):=by
   unfold JJ JQ
   split
   ·exact doneR_step l (hk l (by simp)) hE
   ·rfl
  rw[h1]
  exact dayR_go d r (fun x hx=>hk x (by simp[hx])) _ (dayF_nodup d l (hk l (by simp)) hE)
theorem dayR_eq (ls:List Lin) (hk:∀l ∈ ls,kindOk l) (d:Int):dayR ls d=ZC (dayD ls d):=by
 have h:=dayR_go d ls hk [] List.nodup_nil
 have e:ZC []=[]:=by simp[ZC]
 rw[e] at h
 exact h
end Du
