/- The abstract machine: more operations, maps, one step, a call. Conditions: as each theorem says. -/
import Derived.WalkSpells
import Derived.Laws.Small
import Derived.WideKeyRuns
import Derived.Laws.IdiomRangeMap
import Derived.Conc.LoneSelect
import Derived.Lib.Builder
import Derived.Laws.IdiomStrings
import Derived.Lib.AppendStr
import Derived.Lib.UnsafeStr
import Derived.OrdersIn
import Derived.TacticsIn
import Derived.RangeFuncLeaves
import Derived.Test.YtabidiilbgakoaaGreatDoorAma
namespace Go.AM
open Go.RowKit
inductive Kd where
 | bool | ptr (e:TypeId)|slice (e:TypeId)|map | fn | string | other
 deriving DecidableEq
def ZM (P:Program) (t:TypeId):Kd:=
 match P.underlying t with
 | some .bool=>.bool
 | some (.pointer e)=>.ptr e
 | some (.slice e)=>.slice e
 | some (.map _ _)=>.map
 | some (.func _ _ _)=>.fn
 | some .string=>.string
 | _=>.other
abbrev iv (k:IntKind) (n:Int):AV:=.c (.int k n)
abbrev bv (b:Bool):AV:=.c (.bool b)
abbrev sv (s:ByteArray):AV:=.c (.string s)
def qu (op:BinOp) (k:IntKind) (x y:Int):Option AV:=
 match op with
 | .add=>some (iv k (k.wrap (x + y)))
 | .sub=>some (iv k (k.wrap (x - y)))
 | .mul=>some (iv k (k.wrap (x * y)))
 | .quo=>if y=0 then none else some (iv k (k.wrap (x.tdiv y)))
 | .rem=>if y=0 then none else some (iv k (x.tmod y))
 | .eql=>some (bv (x == y))
 | .neq=>some (bv (x != y))
 | .lss=>some (bv (decide (x < y)))
 | .leq=>some (bv (decide (x≤y)))
 | .gtr=>some (bv (decide (x > y)))
 | .geq=>some (bv (decide (x ≥ y)))
 | .and=>some (iv k (bits .and k x y))
 | .or=>some (iv k (bits .or k x y))
 | .xor=>some (iv k (bits .xor k x y))
 | _=>none
def Qt (op:BinOp) (x y:ByteArray):Option AV:=
 match op with
 | .add=>if x.size + y.size≤2 ^ 60 then some (sv (x ++ y)) else none
 | .eql=>some (bv (x.toList == y.toList))
 | .neq=>some (bv (!(x.toList == y.toList)))
 | .lss=>some (bv (Op.bytesLess x.toList y.toList))
 | .leq=>some (bv (Op.bytesLess x.toList y.toList || x.toList == y.toList))
 | .gtr=>some (bv (!(Op.bytesLess x.toList y.toList || x.toList == y.toList)))
 | .geq=>some (bv (!(Op.bytesLess x.toList y.toList)))
 | _=>none
def nilP:AV→Option Bool
 | .c (.pointer none)=>some true
 | .ptr _ _=>some false
 | .fptr _=>some false
 | _=>none
def nilS:AV→Option Bool
 | .fslc nl _ _ _=>some nl
 | .slc _ _ _ _=>some false
 | _=>none
def nilM:AV→Option Bool
 | .c (.map none)=>some true
 | .map _=>some false
 | _=>none
def eqOp (op:BinOp) (b:Bool):Option AV:=
 match op with
 | .eql=>some (bv b)
 | .neq=>some (bv (!b))
 | _=>none
def isPtr:Kd→Bool | .ptr _=>true | _=>false
def isSlice:Kd→Bool | .slice _=>true | _=>false
def aBin (P:Program) (op:BinOp) (t:TypeId) (x y:AV):Option AV:=
 match x,y with
 | .c (.int k a),.c (.int k' b)=>if k=k' then qu op k a b else none
 | .c (.string a),.c (.string b)=>Qt op a b
 | .c (.bool a),.c (.bool b)=>if ZM P t=.bool then eqOp op (a == b) else none
 | x,.c (.pointer none)=>if isPtr (ZM P t) then (nilP x).bind (eqOp op) else none
 | x,.fslc true true 0 []=>if isSlice (ZM P t) then (nilS x).bind (eqOp op) else none
 | x,.c (.map none)=>if ZM P t=.map then (nilM x).bind (eqOp op) else none
 | .agg xs,.agg ys=>(aggEq P t xs ys).bind (eqOp op)
 | _,_=>none
theorem Rv_iv {G:Gh} {k:IntKind} {n:Int} {v:Value}:Rv G (iv k n) v↔v=.int k n:=by simp[Rv,Value.oneCell']
theorem Rv_bv {G:Gh} {b:Bool} {v:Value}:Rv G (bv b) v↔v=.bool b:=by simp[Rv,Value.oneCell']
theorem Rv_sv {G:Gh} {s:ByteArray} {v:Value}:Rv G (sv s) v↔v=.string s:=by simp[Rv,Value.oneCell']
section
variable {P : Program} {w0 : World} {G : Gh} {h : zI} {w : World} {nm : Nat}
theorem binInt_ok [Vars] {op:BinOp} {k:IntKind} {a b:Int} {x:AV} (hx:qu op k a b=some x) (t:TypeId):∃cv,(binOp op t (.int k a) (.int k b)).run P w=.ok cv w∧Rv G x cv:=by
 cases op <;> simp only[qu,Option.some.injEq,reduceCtorEq] at hx
 case quo=>
  split at hx
  ·cases hx
  ·rename_i hy;cases hx;exact⟨_,by simp[binOp,Op.intDiv,hy];try rfl,Rv_iv.2 rfl⟩
 case rem=>
  split at hx
  ·cases hx
  ·rename_i hy;cases hx;exact⟨_,by simp[binOp,Op.intDiv,hy];try rfl,Rv_iv.2 rfl⟩
 case and=>subst hx;exact⟨_,by simp[binOp,intBits_and];try rfl,Rv_iv.2 rfl⟩
 case or=>subst hx;exact⟨_,by simp[binOp,intBits_or];try rfl,Rv_iv.2 rfl⟩
 case xor=>subst hx;exact⟨_,by simp[binOp,intBits_xor];try rfl,Rv_iv.2 rfl⟩
 case add=>subst hx;exact⟨_,by simp[binOp,Op.intArith];try rfl,Rv_iv.2 rfl⟩
 case sub=>subst hx;exact⟨_,by simp[binOp,Op.intArith];try rfl,Rv_iv.2 rfl⟩
 case mul=>subst hx;exact⟨_,by simp[binOp,Op.intArith];try rfl,Rv_iv.2 rfl⟩
 all_goals (subst hx;exact⟨_,by simp[binOp,Op.intCmp];try rfl,Rv_bv.2 rfl⟩)
theorem binStr_ok [Vars] {op:BinOp} {a b:ByteArray} {x:AV} (hx:Qt op a b=some x) (t:TypeId):∃cv,(binOp op t (.string a) (.string b)).run P w=.ok cv w∧Rv G x cv:=by
 cases op <;> simp only[Qt,Option.some.injEq,reduceCtorEq] at hx
 case add=>
  split at hx
  ·rename_i hle
   cases hx
   have:(2:Nat) ^ 60=1152921504606846976:=by decide
   have hn:¬(9223372036854775807 < (a.size:Int) + (b.size:Int)):=by omega
   exact⟨.string (a ++ b),by simp[binOp,Op.stringOp,hn],Rv_sv.2 rfl⟩
  ·cases hx
 all_goals (subst hx;exact⟨_,by simp[binOp,Op.stringOp];try rfl,Rv_bv.2 rfl⟩)
theorem kd_und {t:TypeId} {k:Kd} (hk:ZM P t=k) (hno:k≠.other):∃d,P.underlying t=some d∧(match k with
  | .bool=>d=.bool | .ptr e=>d=.pointer e | .slice e=>d=.slice e | .map=>∃a b,d=.map a b | .fn=>∃a b c,d=.func a b c | .string=>d=.string | .other=>False):=by
 unfold ZM at hk
 split at hk <;> subst hk <;> first | exact absurd rfl hno|(rename_i hu;exact⟨_,hu,by simp⟩)
theorem nilP_ok {x:AV} {b:Bool} (hx:nilP x=some b) {v:Value} (hv:Rv G x v):∃p,v=.pointer p∧p.isNone=b:=by
 unfold nilP at hx
 split at hx <;> simp only[Option.some.injEq,reduceCtorEq] at hx <;> subst hx <;> simp only[Rv] at hv
 ·exact⟨none,hv.1,rfl⟩
 ·obtain⟨_,_,_,_,rfl⟩:=hv;exact⟨_,rfl,rfl⟩
 ·obtain⟨_,_,rfl,_⟩:=hv;exact⟨_,rfl,rfl⟩
theorem nilS_ok {x:AV} {b:Bool} (hx:nilS x=some b) {v:Value} (hv:Rv G x v):∃a n c,v=.slice a n c∧a.isNone=b:=by
 unfold nilS at hx
 split at hx <;> simp only[Option.some.injEq,reduceCtorEq] at hx <;> subst hx <;> simp only[Rv] at hv
 ·rename_i nl full s l
  obtain⟨a,cap,rfl,_,_,h3,h4⟩:=hv
  refine⟨a,_,cap,rfl,?_⟩
  cases nl with
  | true=>obtain⟨rfl,_⟩:=h3 rfl;rfl
  | false=>obtain⟨ad,rfl,_⟩:=h4 rfl;rfl
 ·obtain⟨_,_,_,_,_,rfl,_⟩:=hv;exact⟨_,_,_,rfl,rfl⟩
theorem nilM_ok {x:AV} {b:Bool} (hx:nilM x=some b) {v:Value} (hv:Rv G x v):∃r,v=.map r∧r.isNone=b:=by
 unfold nilM at hx
 split at hx <;> simp only[Option.some.injEq,reduceCtorEq] at hx <;> subst hx <;> simp only[Rv] at hv
 ·exact⟨none,hv.1,rfl⟩
 ·obtain⟨_,_,_,_,rfl⟩:=hv;exact⟨_,rfl,rfl⟩
theorem und_ptr [Vars] {t e:TypeId} (hk:ZM P t=.ptr e):P.underlying t=some (.pointer e):=by
 obtain⟨d,hu,hd⟩:=kd_und hk (by simp);simp only at hd;rw[hu,hd]
theorem und_slice [Vars] {t e:TypeId} (hk:ZM P t=.slice e):P.underlying t=some (.slice e):=by
 obtain⟨d,hu,hd⟩:=kd_und hk (by simp);simp only at hd;rw[hu,hd]
theorem und_bool [Vars] {t:TypeId} (hk:ZM P t=.bool):P.underlying t=some .bool:=by
 obtain⟨d,hu,hd⟩:=kd_und hk (by simp);simp only at hd;rw[hu,hd]
theorem und_map [Vars] {t:TypeId} (hk:ZM P t=.map):∃a b,P.underlying t=some (.map a b):=by
 obtain⟨d,hu,hd⟩:=kd_und hk (by simp);simp only at hd;obtain⟨a,b,rfl⟩:=hd;exact⟨a,b,hu⟩
theorem eqlIn_ptr (d:Nat) {t e:TypeId} (hu:P.underlying t=some (.pointer e)) (p:Option Addr):(Op.equalIn (d + 1) t (.pointer p) (.pointer none)).run P w=.ok p.isNone w:=by
 cases p <;> simp[Op.equalIn,run_underlying hu]
theorem eqlIn_slice (d:Nat) {t e:TypeId} (hu:P.underlying t=some (.slice e)) (a:Option Addr) (n c:Nat):(Op.equalIn (d + 1) t (.slice a n c) (.slice none 0 0)).run P w=.ok a.isNone w:=by
 cases a <;> simp[Op.equalIn,run_underlying hu]
theorem eqlIn_map (d:Nat) {t k e:TypeId} (hu:P.underlying t=some (.map k e)) (r:Option Nat):(Op.equalIn (d + 1) t (.map r) (.map none)).run P w=.ok r.isNone w:=by
 cases r <;> simp[Op.equalIn,run_underlying hu]
theorem eqOp_ok [Vars] {op:BinOp} {t:TypeId} {x y:Value} {b:Bool} {r:AV} (hr:eqOp op b=some r) (he:(binOp .eql t x y).run P w=.ok (.bool b) w) (hn:(binOp .neq t x y).run P w=.ok (.bool (!b)) w) :
  ∃cv,(binOp op t x y).run P w=.ok cv w∧Rv G r cv:=by
 unfold eqOp at hr
 split at hr <;> simp only[Option.some.injEq,reduceCtorEq] at hr <;> subst hr
 ·exact⟨_,he,Rv_bv.2 rfl⟩
 ·exact⟨_,hn,Rv_bv.2 rfl⟩
theorem aBin_ok [Vars] {op:BinOp} {t:TypeId} {x y r:AV} {vx vy:Value} (hx:Rv G x vx) (hy:Rv G y vy) (h:aBin P op t x y=some r) (ox oy:Operand) :
  ∃cv,(do eqGuard op t ox oy vx vy;binOp op t vx vy:Sem Value).run P w=.ok cv w∧Rv G r cv:=by
 unfold aBin at h
 split at h
 ·rename_i k a k' b
  split at h
  ·rename_i hk
   subst hk
   simp only[Rv] at hx hy
   obtain⟨rfl,_⟩:=hx
   obtain⟨rfl,_⟩:=hy
   rw[eqGuard_at_int]
   simpa using binInt_ok h t
  ·cases h
 ·simp only[Rv] at hx hy
  obtain⟨rfl,_⟩:=hx
  obtain⟨rfl,_⟩:=hy
  rw[eqGuard_at_string]
  simpa using binStr_ok h t
 ·rename_i a b
  split at h
  ·rename_i hk
   have hu:=und_bool hk
   simp only[Rv] at hx hy
   obtain⟨rfl,_⟩:=hx
   obtain⟨rfl,_⟩:=hy
   rw[eqGuard_at_bool]
   have h1:=run_eql_bool (P:=P) w t a b hu
   have h2:(binOp .neq t (.bool a) (.bool b)).run P w=.ok (.bool (!(a == b))) w:=by
    simp only[binOp]
    simp[Op.equal,Op.maxDepth,run_equalIn_bool w 9999 t a b hu]
   obtain⟨cv,h3,h4⟩:=eqOp_ok (G:=G) h h1 h2
   exact⟨cv,by simpa using h3,h4⟩
  ·cases h
 ·split at h
  ·rename_i hk
   simp only[Option.bind_eq_some_iff] at h
   obtain⟨b,h1,h2⟩:=h
   obtain⟨p,rfl,rfl⟩:=nilP_ok h1 hx
   simp only[Rv] at hy
   obtain⟨rfl,_⟩:=hy
   obtain⟨e,he⟩:∃e,ZM P t=.ptr e:=by
    revert hk;cases ZM P t <;> simp[isPtr]
   have hq:=eqlIn_ptr (P:=P) (w:=w) 9999 (und_ptr he) p
   rw[eqGuard_at_pointer]
   obtain⟨cv,h3,h4⟩:=eqOp_ok (G:=G) (P:=P) (w:=w) (t:=t) (x:=.pointer p) (y:=.pointer none) h2 (by simp only[binOp];simp[Op.equal,Op.maxDepth,hq]) (by simp only[binOp];simp[Op.equal,Op.maxDepth,hq])
   exact⟨cv,by simpa using h3,h4⟩
  ·cases h
 ·split at h
  ·rename_i hk
   simp only[Option.bind_eq_some_iff] at h
   obtain⟨b,h1,h2⟩:=h
   obtain⟨a,n,c,rfl,rfl⟩:=nilS_ok h1 hx
   simp only[Rv] at hy
   obtain⟨a',cap,rfl,_,_,h3,_⟩:=hy
   obtain⟨rfl,rfl⟩:=h3 trivial
   obtain⟨e,he⟩:∃e,ZM P t=.slice e:=by
    revert hk;cases ZM P t <;> simp[isSlice]
   have hq:=eqlIn_slice (P:=P) (w:=w) 9999 (und_slice he) a n c
   rw[eqGuard_at_slice]
   obtain⟨cv,h3,h4⟩:=eqOp_ok (G:=G) (P:=P) (w:=w) (t:=t) (x:=.slice a n c) (y:=.slice none 0 0) h2 (by simp only[binOp];simp[Op.equal,Op.maxDepth,hq]) (by simp only[binOp];simp[Op.equal,Op.maxDepth,hq])
   exact⟨cv,by simpa using h3,h4⟩
  ·cases h
 ·split at h
  ·rename_i hk
   simp only[Option.bind_eq_some_iff] at h
   obtain⟨b,h1,h2⟩:=h
   obtain⟨r',rfl,rfl⟩:=nilM_ok h1 hx
   simp only[Rv] at hy
   obtain⟨rfl,_⟩:=hy
   obtain⟨k,e,he⟩:=und_map hk
   have hq:=eqlIn_map (P:=P) (w:=w) 9999 he r'
   rw[eqGuard_at_map]
   obtain⟨cv,h3,h4⟩:=eqOp_ok (G:=G) (P:=P) (w:=w) (t:=t) (x:=.map r') (y:=.map none) h2 (by simp only[binOp];simp[Op.equal,Op.maxDepth,hq]) (by simp only[binOp];simp[Op.equal,Op.maxDepth,hq])
   exact⟨cv,by simpa using h3,h4⟩
  ·cases h
 ·simp only[Option.bind_eq_some_iff] at h
  obtain⟨b,h1,h2⟩:=h
  simp only[Rv] at hx hy
  obtain⟨vs,rfl,hx⟩:=hx
  obtain⟨us,rfl,hy⟩:=hy
  obtain⟨hq,hg⟩:=aggEq_ok (w:=w) hx hy h1
  obtain⟨cv,h3,h4⟩:=eqOp_ok (G:=G) (P:=P) (w:=w) (t:=t) (x:=.agg vs) (y:=.agg us) h2 (by rw[run_eql_struct,hq];rfl) (by rw[run_neq_struct,hq];rfl)
  refine⟨cv,?_,h4⟩
  simp only[Sem.run_bind,run_eqGuard_agg w op t ox oy vs us hg,Result.andThen_ok]
  exact h3
 ·cases h
end
end Go.AM
namespace Go.AM
open Go.RowKit
def intOf? : AV→Option Int
 | .c (.int _ n)=>some n
 | _=>none
def lowB:Option AV→Option Int
 | none=>some 0
 | some x=>intOf? x
def highB (len:Nat):Option AV→Option Int
 | none=>some len
 | some x=>intOf? x
def aSlice (P:Program) (t:TypeId) (x:AV) (lo hi mx:Option AV):Option AV:=
 match x with
 | .c (.string s)=>if ZM P t=.string∧mx.isNone then match lowB lo,highB s.size hi with
   | some l,some h=>if 0≤l∧l≤h∧h≤s.size then some (sv (s.extract l.toNat h.toNat)) else none
   | _,_=>none
  else none
 | .fslc nl full s l=>match ZS P t with
  | some e=>if zo P e=some s∨(l.length=0∧(zo P e).isSome=true) then match lowB lo,highB l.length hi,mx with
   | some a,some b,none=>if 0≤a∧a≤b∧b≤l.length then some (.fslc nl (full && decide (b=l.length)) s ((l.take b.toNat).drop a.toNat)) else none
   | some a,some b,some m=>match intOf? m with
    | some m=>if hi.isSome∧0≤a∧a≤b∧b≤m∧m≤l.length then some (.fslc nl (decide (b=m)) s ((l.take b.toNat).drop a.toNat)) else none
    | none=>none
   | _,_,_=>none
   else none
  | none=>none
 | .slc n off len s=>match ZS P t with
  | some e=>if zo P e=some s then match lowB lo,highB len hi,mx with
   | some a,some b,none=>if 0≤a∧a≤b∧b≤len then
     (if a=0∨a < len then some (.slc n (off + a.toNat * s) (b.toNat - a.toNat) s) else some (.fslc false false s []))
    else none
   | some a,some b,some m=>match intOf? m with
    | some m=>if hi.isSome∧0≤a∧a≤b∧b≤m∧m≤len then some .undef else none
    | none=>none
   | _,_,_=>none
   else none
  | none=>none
 | _=>none
inductive RvO (G:Gh):Option AV→Option Value→Prop
 | none:RvO G none none
 | some {x:AV} {v:Value} (h:Rv G x v):RvO G (some x) (some v)
section
variable {P : Program} {w0 : World} {G : Gh} {h : zI} {w : World} {nm : Nat}
theorem intOf?_ok {x:AV} {n:Int} (hx:intOf? x=some n) {v:Value} (hv:Rv G x v):∃k,v=.int k n:=by
 unfold intOf? at hx
 split at hx
 ·cases hx;simp only[Rv] at hv;exact⟨_,hv.1⟩
 ·cases hx
theorem jC {v:Value} {k:IntKind} {i:Int} (hv:v=.int k i) {y:Nat} (h0:0≤i) (h1:i≤y) (code:BoundsCode):(Instr.sliceBound v y code).run P w=.ok i.toNat w:=by
 subst hv;simp[Instr.sliceBound,asIntOf,h0,h1]
theorem qd [Vars] {isS:Bool} {len cap:Nat} {lo hi:Option AV} {vlo vhi:Option Value} (hlo:RvO G lo vlo) (hhi:RvO G hi vhi) {a b:Int} (ha:lowB lo=some a) (hb:highB len hi=some b)
  (h0:0≤a) (h1:a≤b) (h2:b≤cap):(Instr.sliceBounds isS len cap vlo vhi none).run P w=.ok (a.toNat,b.toNat,cap) w:=by
 have e1:∀(y:Nat) (code:BoundsCode),a≤y→(match vlo with | some v=>Instr.sliceBound v y code | none=>pure 0:Sem Nat).run P w=.ok a.toNat w:=by
  intro y code hy
  cases hlo with
  | none=>simp only[lowB,Option.some.injEq] at ha;subst ha;simp
  | some hx=>obtain⟨k,hv⟩:=intOf?_ok ha hx;exact jC hv h0 hy code
 cases hhi with
 | none=>
  simp only[highB,Option.some.injEq] at hb;subst hb
  simp only[Instr.sliceBounds,Sem.run_bind,Sem.run_pure,Result.andThen_ok]
  have:=e1 len .sliceB h1
  cases vlo with
  | none=>simp at this ⊢;exact this
  | some v=>simp at this ⊢;rw[this];simp
 | some hx=>
  obtain⟨k,rfl⟩:=intOf?_ok hb hx
  have e2:=fun code=>jC (P:=P) (w:=w) (v:=.int k b) (k:=k) (i:=b) rfl (y:=cap) (by omega) h2 code
  simp only[Instr.sliceBounds,Sem.run_bind,Sem.run_pure,Result.andThen_ok]
  have:=e1 b.toNat .sliceB (by omega)
  cases vlo with
  | none=>simp at this ⊢;rw[e2];simp[this]
  | some v=>simp at this ⊢;rw[e2];simp;rw[this];simp
theorem run_bounds3 [Vars] {isS:Bool} {len cap:Nat} {lo hi:Option AV} {vlo vhi:Option Value} (hlo:RvO G lo vlo) (hhi:RvO G hi vhi) {a b m:Int} {km:IntKind} (ha:lowB lo=some a) (hb:highB len hi=some b) (hs:hi.isSome=true)
  (h0:0≤a) (h1:a≤b) (h2:b≤m) (h3:m≤cap):(Instr.sliceBounds isS len cap vlo vhi (some (.int km m))).run P w=.ok (a.toNat,b.toNat,m.toNat) w:=by
 have e1:∀(y:Nat) (code:BoundsCode),a≤y→(match vlo with | some v=>Instr.sliceBound v y code | none=>pure 0:Sem Nat).run P w=.ok a.toNat w:=by
  intro y code hy
  cases hlo with
  | none=>simp only[lowB,Option.some.injEq] at ha;subst ha;simp
  | some hx=>obtain⟨k,hv⟩:=intOf?_ok ha hx;exact jC hv h0 hy code
 cases hhi with
 | none=>cases hs
 | some hx=>
  obtain⟨k,rfl⟩:=intOf?_ok hb hx
  have e3:=fun code=>jC (P:=P) (w:=w) (v:=.int km m) (k:=km) (i:=m) rfl (y:=cap) (by omega) h3 code
  have e2:=fun code=>jC (P:=P) (w:=w) (v:=.int k b) (k:=k) (i:=b) rfl (y:=m.toNat) (by omega) (by omega) code
  simp only[Instr.sliceBounds,Sem.run_bind]
  have:=e1 b.toNat .slice3C (by omega)
  rw[e3]
  simp only[Result.andThen_ok]
  rw[e2]
  simp only[Result.andThen_ok,Option.isSome_some,if_true]
  cases vlo with
  | none=>simp at this ⊢;exact this
  | some v=>simp at this ⊢;rw[this];simp
theorem slice_ok [Vars] {t:TypeId} {x:AV} {lo hi mx:Option AV} {v:Value} {vlo vhi vmx:Option Value} (hx:Rv G x v) (hlo:RvO G lo vlo) (hhi:RvO G hi vhi) (hmx:RvO G mx vmx) {r:AV} (hr:aSlice P t x lo hi mx=some r) :
  ∃cv,(Instr.sliceAt t v vlo vhi vmx).run P w=.ok cv w∧Rv G r cv:=by
 unfold aSlice at hr
 split at hr
 ·-- a string
  rename_i s
  split at hr
  ·rename_i hk
   obtain⟨hk,hmn⟩:=hk
   obtain⟨d,hu,hd⟩:=kd_und hk (by simp)
   simp only at hd
   subst hd
   have hvm:vmx=none:=by cases hmx <;> simp at hmn;rfl
   subst hvm
   simp only[Rv] at hx
   obtain⟨rfl,_⟩:=hx
   split at hr
   ·rename_i l hh e1 e2
    split at hr
    ·rename_i hc
     cases hr
     have hb:=qd (P:=P) (w:=w) (isS:=false) (cap:=s.size) hlo hhi e1 e2 hc.1 hc.2.1 hc.2.2
     refine⟨.string (s.extract l.toNat hh.toNat),?_,Rv_sv.2 rfl⟩
     simp only[Instr.sliceAt,Sem.run_bind,run_underlying hu,Result.andThen_ok,Instr.slice,Option.isSome_none,Bool.false_eq_true,if_false,hb,Sem.run_pure]
    ·cases hr
   ·cases hr
  ·cases hr
 ·-- frozen
  rename_i nl full s l
  split at hr
  ·rename_i e he
   split at hr
   ·rename_i hsz
    simp only[Rv] at hx
    obtain⟨a,cap,rfl,k1,k2,k3,k4⟩:=hx
    obtain⟨sz,hsz'⟩:∃sz,zo P e=some sz:=by
     rcases hsz with h | ⟨_,h⟩
     ·exact⟨s,h⟩
     ·exact Option.isSome_iff_exists.1 h
    have part:∀(p q m:Nat),p≤q→q≤l.length→q≤m→m≤cap→∀f:Bool,(f=true→m=q)→
      Rv G (.fslc nl f s ((l.take q).drop p)) (.slice (if m=p then a else a.map (·.add (p * sz))) (q - p) (m - p)):=by
     intro p q m hpq hql hqm hmc f hf
     have hlen:((l.take q).drop p).length=q - p:=by simp;omega
     simp only[Rv]
     refine⟨_,m - p,by rw[hlen],by rw[hlen];omega,fun hh=>by rw[hlen,hf hh],fun hn=>?_,fun hn=>?_⟩
     ·obtain⟨rfl,hc⟩:=k3 hn
      simp;omega
     ·obtain⟨ad,rfl,hE⟩:=k4 hn
      by_cases hmp:m=p
      ·refine⟨ad,by simp[hmp],?_⟩
       have:(l.take q).drop p=[]:=List.length_eq_zero_iff.1 (by omega)
       rw[this];simp[RvE]
      ·refine⟨ad.add (p * sz),by simp[hmp],?_⟩
       rcases hsz with h | ⟨h,_⟩
       ·rw[hsz'] at h;cases h
        have:=(hE.take q).drop p
        rw[Nat.zero_add] at this
        exact RvE.shift (p * s) (by simpa using this)
       ·have:(l.take q).drop p=[]:=List.length_eq_zero_iff.1 (by omega)
        rw[this];simp[RvE]
    have hsr:=jO hsz' w
    split at hr
    ·rename_i p q e1 e2
     split at hr
     ·rename_i hc
      cases hr
      cases hmx
      have hb:=qd (P:=P) (w:=w) (isS:=true) (cap:=cap) hlo hhi e1 e2 hc.1 hc.2.1 (by omega)
      refine⟨_,?_,part p.toNat q.toNat cap (by omega) (by omega) (by omega) (Nat.le_refl _) _ (fun hh=>?_)⟩
      ·simp only[Instr.sliceAt,Sem.run_bind,Zj he,Result.andThen_ok,Instr.slice,hb,hsr,Sem.run_pure]
      ·simp only[Bool.and_eq_true,decide_eq_true_eq] at hh
       have:=k2 hh.1
       omega
     ·cases hr
    ·rename_i p q m e1 e2
     split at hr
     ·rename_i mm hm
      split at hr
      ·rename_i hc
       cases hr
       cases hmx with
       | some hmv=>
        obtain⟨km,rfl⟩:=intOf?_ok hm hmv
        have hb:=run_bounds3 (P:=P) (w:=w) (isS:=true) (cap:=cap) (km:=km) hlo hhi e1 e2 hc.1 hc.2.1 hc.2.2.1 hc.2.2.2.1 (by omega)
        refine⟨_,?_,part p.toNat q.toNat mm.toNat (by omega) (by omega) (by omega) (by omega) _ (fun hh=>?_)⟩
        ·simp only[Instr.sliceAt,Sem.run_bind,Zj he,Result.andThen_ok,Instr.slice,hb,hsr,Sem.run_pure]
        ·simp only[decide_eq_true_eq] at hh;omega
      ·cases hr
     ·cases hr
    ·cases hr
   ·cases hr
  ·cases hr
 ·-- owned
  rename_i n off len s
  split at hr
  ·rename_i e he
   split at hr
   ·rename_i hsz
    have hsr:=jO hsz w
    simp only[Rv] at hx
    obtain⟨b,lo',t',cap,hreg,rfl,k1,k2,k3⟩:=hx
    split at hr
    ·rename_i p q e1 e2
     split at hr
     ·rename_i hc
      cases hmx
      have hb:=qd (P:=P) (w:=w) (isS:=true) (cap:=cap) hlo hhi e1 e2 hc.1 hc.2.1 (by omega)
      refine⟨_,by simp only[Instr.sliceAt,Sem.run_bind,Zj he,Result.andThen_ok,Instr.slice,hb,hsr,Sem.run_pure];rfl,?_⟩
      split at hr
      ·rename_i hp
       cases hr
       simp only[Rv]
       refine⟨b,lo',t',cap - p.toNat,hreg,?_,by omega,?_,k3⟩
       ·congr 1
        by_cases hcp:cap=p.toNat
        ·have:p.toNat=0:=by omega
         simp[this,z7]
        ·rw[if_neg hcp]
         simp[z7,Nat.add_assoc]
       ·have hpc:p.toNat≤cap:=by omega
        have:=Nat.mul_le_mul_right s hpc
        rw[Nat.sub_mul];omega
      ·rename_i hp
       cases hr
       have:q.toNat - p.toNat=0:=by omega
       rw[this]
       simp only[Rv]
       refine⟨_,_,rfl,by simp,by simp,by simp,fun _=>?_⟩
       by_cases hcp:cap=p.toNat
       ·exact⟨_,by rw[if_pos hcp],by simp[RvE]⟩
       ·exact⟨_,by rw[if_neg hcp];rfl,by simp[RvE]⟩
     ·cases hr
    ·rename_i p q m e1 e2
     split at hr
     ·rename_i mm hm
      split at hr
      ·rename_i hc
       cases hr
       cases hmx with
       | some hmv=>
        obtain⟨km,rfl⟩:=intOf?_ok hm hmv
        have hb:=run_bounds3 (P:=P) (w:=w) (isS:=true) (cap:=cap) (km:=km) hlo hhi e1 e2 hc.1 hc.2.1 hc.2.2.1 hc.2.2.2.1 (by omega)
        exact⟨_,by simp only[Instr.sliceAt,Sem.run_bind,Zj he,Result.andThen_ok,Instr.slice,hb,hsr,Sem.run_pure];rfl,by simp[Rv]⟩
      ·cases hr
     ·cases hr
    ·cases hr
   ·cases hr
  ·cases hr
 ·cases hr
end
end Go.AM
namespace Go.AM
open Go.RowKit
section
variable {P : Program} {w0 : World} {G : Gh} {h : zI} {w : World} {nm : Nat}
inductive LenK where
 | slice | string | map | other
 deriving DecidableEq
def qG (P:Program) (t:TypeId):LenK:=
 match P.underlying t with
 | some (.slice _)=>.slice
 | some .string=>.string
 | some (.map _ _)=>.map
 | _=>.other
def aLen (P:Program) (t:TypeId) (x:AV) (h:zI):Option AV:=
 match qG P t,x with
 | .slice,.fslc _ _ _ l=>some (iv .i64 l.length)
 | .slice,.slc _ _ len _=>some (iv .i64 len)
 | .string,.c (.string s)=>some (iv .i64 s.size)
 | .map,.map n=>match h n with
  | some (.map _ _ es)=>some (iv .i64 es.length)
  | _=>none
 | .map,.c (.map none)=>some (iv .i64 0)
 | _,_=>none
theorem len_ok [Vars] (I:Inv w0 G h w) {t ty:TypeId} {x:AV} {v:Value} (hv:Rv G x v) {r:AV} (hr:aLen P t x h=some r):∃cv,(Builtin.len_ #[t] ty #[v]).run P w=.ok cv w∧Rv G r cv:=by
 unfold aLen at hr
 have hk:qG P t≠.other:=by intro e;rw[e] at hr;cases x <;> simp at hr
 have hu:∃d,P.underlying t=some d∧(match qG P t with | .slice=>∃e,d=.slice e | .string=>d=.string | .map=>∃a b,d=.map a b | .other=>False):=by
  unfold qG at hk ⊢
  split at hk <;> first | exact absurd rfl hk|(rename_i hu;exact⟨_,hu,by simp⟩)
 obtain⟨d,hu,hd⟩:=hu
 split at hr
 ·rename_i e;rw[e] at hd;obtain⟨el,rfl⟩:=hd
  cases hr
  simp only[Rv] at hv;obtain⟨a,cap,rfl,_⟩:=hv
  exact⟨_,by simp[Builtin.len_,run_underlying hu,goInt],Rv_iv.2 rfl⟩
 ·rename_i e;rw[e] at hd;obtain⟨el,rfl⟩:=hd
  cases hr
  simp only[Rv] at hv;obtain⟨_,_,_,cap,_,rfl,_⟩:=hv
  exact⟨_,by simp[Builtin.len_,run_underlying hu,goInt],Rv_iv.2 rfl⟩
 ·rename_i e;rw[e] at hd;simp only at hd;subst hd
  cases hr
  simp only[Rv] at hv;obtain⟨rfl,_⟩:=hv
  exact⟨_,by simp[Builtin.len_,run_underlying hu,goInt],Rv_iv.2 rfl⟩
 ·rename_i n e;rw[e] at hd;obtain⟨ka,el,rfl⟩:=hd
  split at hr
  ·rename_i clock bs es hn
   cases hr
   obtain⟨b,ents,hreg,ok⟩:=I.obj n _ hn
   simp only[Rv] at hv;obtain⟨b',lo,tt,hreg',rfl⟩:=hv
   rw[hreg] at hreg';cases hreg'
   have hsz:ents.size=es.length:=by
    have:=congrArg List.length ok.keys
    simpa using this
   have hg:(getObj b).run P w=.ok (.map ents clock) w:=by
    simp only[getObj,Sem.run,ok.blk]
   exact⟨_,by simp[Builtin.len_,run_underlying hu,goInt,hg,hsz],Rv_iv.2 rfl⟩
  ·cases hr
 ·rename_i e;rw[e] at hd;obtain⟨ka,el,rfl⟩:=hd
  cases hr
  simp only[Rv] at hv;obtain⟨rfl,_⟩:=hv
  exact⟨.int .i64 0,by simp[Builtin.len_,run_underlying hu,goInt],Rv_iv.2 rfl⟩
 ·cases hr
def aCopy (P:Program) (t:TypeId) (d x:AV) (h:zI):Option (AV × zI):=
 match ZS P t with
 | none=>none
 | some e=>match zo P e with
  | none=>none
  | some s=>match jd h s x,d with
   | some (n,xs),.slc m off len s'=>if s'=s∧xs.length=n * s then match h m with
     | some (.cells c)=>if off + len * s≤c.length then
       some (iv .i64 (Nat.min n len),h.upd m (some (.cells (Za c off (xs.take (Nat.min n len * s))))))
      else none
     | _=>none
    else none
   | _,_=>none
theorem copy_ok [Vars] (I:Inv w0 G h w) {t t2 ty:TypeId} {d x:AV} {dv xv:Value} (hd:Rv G d dv) (hxv:Rv G x xv) {r:AV} {h':zI} (hx:aCopy P t d x h=some (r,h')) :
  ∃cv w',(Builtin.copy_ #[t,t2] ty #[dv,xv]).run P w=.ok cv w'∧Inv w0 G h' w'∧Rv G r cv:=by
 unfold aCopy at hx
 split at hx
 ·cases hx
 ·rename_i e he
  split at hx
  ·cases hx
  ·rename_i s hs
   split at hx
   ·rename_i n xs m off len s' hsrc
    split at hx
    ·rename_i hss
     obtain⟨rfl,hxl⟩:=hss
     split at hx
     ·rename_i c hm
      split at hx
      ·rename_i hle
       simp only[Option.some.injEq,Prod.mk.injEq] at hx
       obtain⟨rfl,rfl⟩:=hx
       obtain⟨hxs,a,cc,news,rfl,hnl,hnr,ha,hnews⟩:=src_ok I hxv hsrc
       simp only[Rv] at hd
       obtain⟨b,lo,tt,cap,hr,rfl,k1,k2,k3⟩:=hd
       obtain⟨rr,us,hr',ok⟩:=I.obj m _ hm
       rw[hr] at hr';cases hr'
       have hok:=ok.len
       simp only at hok
       have hmin:Nat.min n len * s'≤n * s':=Nat.mul_le_mul_right _ (Nat.min_le_left _ _)
       have hmin2:Nat.min n len * s'≤len * s':=Nat.mul_le_mul_right _ (Nat.min_le_right _ _)
       have hlt:(news.take (Nat.min n len * s')).length=Nat.min n len * s':=by rw[List.length_take];omega
       have hst:=run_storeCells_cells (P:=P) b (lo + off) (news.take (Nat.min n len * s')) 0 w (fun j hj=>by
         have:=ok.some (off + j) (by simp only;omega)
         simpa [Nat.add_assoc] using this) (fun j hj=>by
         have:=ok.free (off + j) (by simp only;omega)
         simpa [Nat.add_assoc] using this) (fun v hv=>hnr.oneCells hxs v (List.mem_of_mem_take hv))
       simp only[Nat.add_zero] at hst
       have hfc:(Builtin.firstCells s' (Nat.min n len) (.slice a n cc)).run P w=.ok (news.take (Nat.min n len * s')).toArray w:=by
        cases a with
        | none=>
         obtain⟨rfl,rfl⟩:=ha rfl
         have:news=[]:=List.length_eq_zero_iff.1 (by simpa using hnl)
         subst this
         simp[Builtin.firstCells]
        | some ad=>
         exact run_firstCells_some (P:=P) w s' (Nat.min n len) ad n cc _ hlt (fun j v ej=>by
          rw[List.getElem?_take] at ej
          split at ej
          ·exact hnews ad rfl j v ej
          ·cases ej)
       refine⟨_,_,?_,I.store hm hr off (xs.take (Nat.min n len * s')) _ (hnr.take _) (List.all_eq_true.2 fun y hy=>List.all_eq_true.1 hxs y (List.mem_of_mem_take hy)) (by omega) (by simp only[List.length_take];omega),Rv_iv.2 rfl⟩
       simp only[Builtin.copy_,List.getElem?_toArray,List.getElem?_cons_zero,List.getElem?_cons_succ,Sem.run_bind,Zj he,Result.andThen_ok,Builtin.lenOf,Sem.run_pure,jO hs,hfc,hst,goInt]
      ·cases hx
     ·cases hx
    ·cases hx
   ·cases hx
def aClear (P:Program) (t:TypeId) (x:AV) (h:zI):Option zI:=
 match ZS P t with
 | none=>none
 | some e=>match zo P e,zd P e with
  | some s,some z=>if (cellsOf z).length=s∧(cellsOf z).all AV.scalar=true∧0 < s then match x with
   | .slc m off len s'=>if s'=s then match h m with
     | some (.cells c)=>if off + len * s≤c.length then some (h.upd m (some (.cells (Za c off (Q4 z len))))) else none
     | _=>none
    else none
   | .fslc _ _ _ l=>if l.length=0 then some h else none
   | _=>none
   else none
  | _,_=>none
theorem splice_nil (c:List AV) (off:Nat):Za c off []=c:=by simp[Za]
theorem clear_ok [Vars] (I:Inv w0 G h w) {t ty:TypeId} {x:AV} {v:Value} (hv:Rv G x v) {h':zI} (hx:aClear P t x h=some h') :
  ∃cv w',(Builtin.clear_ #[t] ty #[v]).run P w=.ok cv w'∧Inv w0 G h' w':=by
 unfold aClear at hx
 split at hx
 ·cases hx
 ·rename_i e he
  split at hx
  ·rename_i s z hs hz
   split at hx
   ·rename_i hc
    obtain⟨hz1,hzs,hs0⟩:=hc
    split at hx
    ·rename_i m off len s'
     split at hx
     ·rename_i hss
      subst hss
      split at hx
      ·rename_i c hm
       split at hx
       ·rename_i hle
        cases hx
        simp only[Rv] at hv
        obtain⟨b,lo,tt,cap,hr,rfl,k1,k2,k3⟩:=hv
        obtain⟨rr,us,hr',ok⟩:=I.obj m _ hm
        rw[hr] at hr';cases hr'
        have hok:=ok.len
        simp only at hok
        obtain⟨zv,hzv,hzr⟩:=JS hz G w
        have hzc:=hzr.cells hzs
        have hzl:=hzc.length
        simp only[Array.length_toList] at hzl
        cases len with
        | zero=>
         refine⟨.tuple #[],w,by simp[Builtin.clear_,Zj he],?_⟩
         have:Q4 z 0=[]:=by simp[Q4]
         rw[this,splice_nil]
         have:h.upd m (some (.cells c))=h:=by
          funext k;by_cases hk:k=m <;> simp[zI.upd,hk,hm]
         rw[this];exact I
        | succ len=>
         have hrow:(Builtin.zeroCells zv.cells (len + 1)).toList=(List.replicate (len + 1) zv.cells.toList).flatten:=Qn zv.cells (len + 1) (by omega)
         have hlen:(List.replicate (len + 1) zv.cells.toList).flatten.length=(len + 1) * s':=by simp[show zv.cells.size=s' by omega]
         have hst:=run_storeCells_cells (P:=P) b (lo + off) (List.replicate (len + 1) zv.cells.toList).flatten 0 w (fun j hj=>by
           have:=ok.some (off + j) (by simp only;omega)
           simpa [Nat.add_assoc] using this) (fun j hj=>by
           have:=ok.free (off + j) (by simp only;omega)
           simpa [Nat.add_assoc] using this) ((jY hzc (len + 1)).oneCells (zrow_all hzs (len + 1)))
         simp only[Nat.add_zero] at hst
         refine⟨.tuple #[],_,?_,I.store hm hr off (Q4 z (len + 1)) _ (jY hzc (len + 1)) (zrow_all hzs _) (by omega) (by rw[zrow_length hz1];simp only;omega)⟩
         simp only[Builtin.clear_,List.getElem?_toArray,List.getElem?_cons_zero,Sem.run_bind,Zj he,Result.andThen_ok,hzv,hrow,hst,Sem.run_pure]
       ·cases hx
      ·cases hx
     ·cases hx
    ·rename_i l
     split at hx
     ·rename_i hl
      cases hx
      simp only[Rv] at hv
      obtain⟨a,cap,rfl,_⟩:=hv
      refine⟨.tuple #[],w,?_,I⟩
      rw[hl]
      cases a <;> simp[Builtin.clear_,Zj he]
     ·cases hx
    ·cases hx
   ·cases hx
  ·cases hx
end
end Go.AM
namespace Go.AM
open Go.RowKit
def cVals:List AV→Option (List Value)
 | []=>some []
 | .c v :: r=>(cVals r).map (v :: ·)
 | _ :: _=>none
def fldKey (P:Program) (n:Nat) (fs:List Field):Bool:=fs.all fun f=>(match skOf P f.type with | .none=>false | _=>true) && decide (f.offset < n)
def qz (P:Program) (kt:TypeId) (x:AV):Option Value:=
 match P.underlying kt,x with
 | some (.int _),.c (.int k a)=>some (.int k a)
 | some .string,.c (.string a)=>some (.string a)
 | some (.struct fs),.agg xs=>match cVals xs with
  | some vs=>if fldKey P vs.length fs.toList=true then some (.agg vs.toArray) else none
  | none=>none
 | _,_=>none
def Jk (P:Program) (kt:TypeId) (x:AV) (key:Value):Option Bool:=
 match x,key with
 | .c (.int k a),.int k' b=>if k=k' then some (a == b) else none
 | .c (.string a),.string b=>some (a == b)
 | .agg xs,.agg vs=>aggEq P kt xs (vs.toList.map jN)
 | _,_=>none
def qW (P:Program) (kt:TypeId) (x:AV):List (Value × AV)→Nat→Option (Option (Nat × AV))
 | [],_=>some none|(k,v) :: r,i=>match Jk P kt x k with
  | some true=>some (some (i,v))
  | some false=>qW P kt x r (i + 1)
  | none=>none
def RvF (G:Gh):Option (Nat × AV)→Option (Nat × Value)→Prop
 | none,none=>True
 | some (i,x),some (j,v)=>i=j∧Rv G x v
 | _,_=>False
section
variable {P : Program} {w0 : World} {G : Gh} {h : zI} {w : World} {nm : Nat}
theorem cVals_ok:∀{xs:List AV} {vs us:List Value},cVals xs=some vs→RvL G xs us→us=vs
 | [],vs,us,h,hr=>by
  simp only[cVals,Option.some.injEq] at h;subst h
  simpa [RvL] using hr
 | x :: r,vs,us,h,hr=>by
  cases x with
  | c v=>
   simp only[cVals,Option.map_eq_some_iff] at h
   obtain⟨vs',h1,rfl⟩:=h
   simp only[RvL,Rv] at hr
   obtain⟨u,ur,rfl,⟨rfl,_⟩,h2⟩:=hr
   rw[cVals_ok h1 h2]
  | _=>simp[cVals] at h
theorem chk_sk {t:TypeId} (h:skOf P t≠.none) (e:Bool) (n:Nat) (v:Value):(Instr.checkKey e (n + 1) t v).run P w=.ok () w:=by
 unfold skOf at h
 split at h
 ·rename_i k hu;simp[Instr.checkKey,run_underlying hu]
 ·rename_i hu;simp[Instr.checkKey,run_underlying hu]
 ·rename_i hu;simp[Instr.checkKey,run_underlying hu]
 ·exact absurd rfl h
theorem chk_fields [Vars] {e:Bool} {n:Nat} {cs:Array Value}:∀{fs:List Field},fldKey P cs.size fs=true→
  (forIn (m:=Sem) fs PUnit.unit (fun (f:Field) (_:PUnit)=>do
    if f.name≠ "_" then Instr.checkKey e (n + 1) f.type (←part f.type cs f.offset)
    pure (ForInStep.yield PUnit.unit))).run P w=.ok PUnit.unit w
 | [],_=>by simp
 | f :: fs,h=>by
  simp only[fldKey,List.all_cons,Bool.and_eq_true,decide_eq_true_eq] at h
  obtain⟨⟨h1,h2⟩,h3⟩:=h
  have hk:skOf P f.type≠.none:=by intro e;rw[e] at h1;simp at h1
  have hp:=part_ok (w:=w) hk (cs:=cs) (off:=f.offset) (Array.getElem?_eq_getElem h2)
  have ih:=chk_fields (e:=e) (n:=n) (cs:=cs) (fs:=fs) h3
  rw[List.forIn_cons]
  by_cases hn:f.name = "_"
  ·simp only[hn,ne_eq,not_true_eq_false,if_false,Sem.run_bind,Sem.run_pure,Result.andThen_ok]
   exact ih
  ·simp only[hn,ne_eq,not_false_eq_true,if_true,Sem.run_bind,hp,Result.andThen_ok,chk_sk hk,Sem.run_pure]
   exact ih
theorem key_ok [Vars] {kt:TypeId} {x:AV} {kv v:Value} (hk:qz P kt x=some kv) (hx:Rv G x v):v=kv∧∀e n,(Instr.checkKey e (n + 2) kt v).run P w=.ok () w:=by
 unfold qz at hk
 split at hk
 ·rename_i kk k a hu
  simp only[Option.some.injEq] at hk;subst hk
  simp only[Rv] at hx
  refine⟨hx.1,fun e n=>?_⟩
  rw[hx.1]
  simp[Instr.checkKey,run_underlying hu]
 ·rename_i a hu
  simp only[Option.some.injEq] at hk;subst hk
  simp only[Rv] at hx
  refine⟨hx.1,fun e n=>?_⟩
  rw[hx.1]
  simp[Instr.checkKey,run_underlying hu]
 ·rename_i fs xs hu
  split at hk
  ·rename_i vs hvs
   split at hk
   ·rename_i hf
    simp only[Option.some.injEq] at hk;subst hk
    simp only[Rv] at hx
    obtain⟨us,rfl,hr⟩:=hx
    have e1:=cVals_ok hvs hr
    have e2:us=vs.toArray:=by rw[←e1]
    subst e2
    refine⟨rfl,fun e n=>?_⟩
    have:=chk_fields (P:=P) (w:=w) (e:=e) (n:=n) (cs:=vs.toArray) (fs:=fs.toList) (by simpa using hf)
    rw[Instr.checkKey]
    simp only[run_underlying hu,Sem.run_bind,Result.andThen_ok]
    rw[←Array.forIn_toList]
    simp only[this,Result.andThen_ok,Sem.run_pure]
   ·cases hk
  ·cases hk
 ·cases hk
theorem Rv_ofVals (G:Gh):∀vs:List Value,RvL G (vs.map jN) vs
 | []=>by simp[RvL]
 | v :: r=>by simp only[List.map_cons,RvL];exact⟨v,r,rfl,jy G v,Rv_ofVals G r⟩
theorem asking_ok [Vars] {kt:TypeId} {xs:List AV} {kv:Value} (hx:Rv G (.agg xs) kv):∀{es:List (Value × AV)} {ents:List MapEntry} {i:Nat} {r:Option (Nat × AV)},ents.map (·.key)=es.map (·.1)→RvL G (es.map (·.2)) (ents.map (·.val))→
  qW P kt (.agg xs) es i=some r→∃cr,(Instr.findAsking kt kv ents i).run P w=.ok cr w∧RvF G r cr
 | [],ents,i,r,hkeys,hv,hf=>by
  simp only[qW,Option.some.injEq] at hf;subst hf
  have:ents=[]:=by simpa using hkeys
  subst this
  exact⟨none,by simp[Instr.findAsking],trivial⟩|(k,x) :: es,[],i,r,hkeys,hv,hf=>by simp at hkeys|(k,x) :: es,e :: ents,i,r,hkeys,hv,hf=>by
  simp only[List.map_cons,List.cons.injEq] at hkeys
  obtain⟨hk1,hk2⟩:=hkeys
  simp only[List.map_cons,RvL] at hv
  obtain⟨v,vr,e0,hv1,hv2⟩:=hv
  simp only[List.cons.injEq] at e0
  obtain⟨rfl,rfl⟩:=e0
  simp only[qW] at hf
  have hkk:∀b,Jk P kt (.agg xs) k=some b→(Op.equal kt kv e.key).run P w=.ok b w:=by
   intro b hb
   rw[hk1]
   cases k with
   | agg vs=>
    simp only[Jk] at hb
    simp only[Rv] at hx
    obtain⟨us,rfl,hr⟩:=hx
    exact (aggEq_ok hr (Rv_ofVals G _) hb).1
   | _=>simp[Jk] at hb
  split at hf
  ·rename_i hb
   simp only[Option.some.injEq] at hf;subst hf
   exact⟨some (i,e.val),by simp[Instr.findAsking,hkk true hb],rfl,hv1⟩
  ·rename_i hb
   obtain⟨cr,h1,h2⟩:=asking_ok hx hk2 hv2 hf
   exact⟨cr,by simp[Instr.findAsking,hkk false hb,h1],h2⟩
  ·cases hf
theorem now_ok {kt:TypeId} {d:TypeDesc} {c:Value} (hc:∀key b,Jk P kt (.c c) key=some b→Instr.sameNow d c key=some b):∀{es:List (Value × AV)} {ents:List MapEntry} {i:Nat} {r:Option (Nat × AV)},ents.map (·.key)=es.map (·.1)→RvL G (es.map (·.2)) (ents.map (·.val))→
  qW P kt (.c c) es i=some r→∃cr,Instr.findNow d c ents i=some cr∧RvF G r cr
 | [],ents,i,r,hkeys,hv,hf=>by
  simp only[qW,Option.some.injEq] at hf;subst hf
  have:ents=[]:=by simpa using hkeys
  subst this
  exact⟨none,rfl,trivial⟩|(k',x) :: es,[],i,r,hkeys,hv,hf=>by simp at hkeys|(k',x) :: es,e :: ents,i,r,hkeys,hv,hf=>by
  simp only[List.map_cons,List.cons.injEq] at hkeys
  obtain⟨hk1,hk2⟩:=hkeys
  simp only[List.map_cons,RvL] at hv
  obtain⟨v,vr,e0,hv1,hv2⟩:=hv
  simp only[List.cons.injEq] at e0
  obtain⟨rfl,rfl⟩:=e0
  simp only[qW] at hf
  have hkk:∀b,Jk P kt (.c c) k'=some b→Instr.sameNow d c e.key=some b:=by
   intro b hb
   rw[hk1]
   exact hc _ _ hb
  split at hf
  ·rename_i hb
   simp only[Option.some.injEq] at hf;subst hf
   exact⟨some (i,e.val),by simp[Instr.findNow,hkk true hb],rfl,hv1⟩
  ·rename_i hb
   obtain⟨cr,h1,h2⟩:=now_ok hc hk2 hv2 hf
   exact⟨cr,by simp[Instr.findNow,hkk false hb,h1],h2⟩
  ·cases hf
theorem qe [Vars] {kt:TypeId} {x:AV} {kv:Value} (hk:qz P kt x=some kv) (hx:Rv G x kv) {es:List (Value × AV)} {ents:List MapEntry} {r:Option (Nat × AV)} (hkeys:ents.map (·.key)=es.map (·.1)) (hv:RvL G (es.map (·.2)) (ents.map (·.val)))
  (hf:qW P kt x es 0=some r):∃cr,(Instr.findKey kt kv ents).run P w=.ok cr w∧RvF G r cr:=by
 unfold qz at hk
 split at hk
 ·rename_i kk k a hu
  simp only[Option.some.injEq] at hk;subst hk
  obtain⟨cr,h1,h2⟩:=now_ok (d:=.int kk) (fun key b hb=>by
   cases key with
   | int k1 b1=>simpa only[Jk,Instr.sameNow] using hb
   | _=>simp[Jk] at hb) hkeys hv hf
  exact⟨cr,MapKept.run_findKey hu h1,h2⟩
 ·rename_i a hu
  simp only[Option.some.injEq] at hk;subst hk
  obtain⟨cr,h1,h2⟩:=now_ok (d:=.string) (fun key b hb=>by
   cases key with
   | string b1=>simpa only[Jk,Instr.sameNow] using hb
   | _=>simp[Jk] at hb) hkeys hv hf
  exact⟨cr,MapKept.run_findKey hu h1,h2⟩
 ·rename_i fs xs hu
  obtain⟨cr,h1,h2⟩:=asking_ok (w:=w) hx hkeys hv hf
  exact⟨cr,by rw[run_findKey_eq w (by rw[hu])];exact h1,h2⟩
 ·cases hk
end
def jm (P:Program) (t:TypeId):Option (TypeId × TypeId):=
 match P.underlying t with
 | some (.map k e)=>some (k,e)
 | _=>none
def resF (P:Program) (et:TypeId):Option (Nat × AV)→Option (AV × Bool)
 | some (_,v)=>some (v,true)
 | none=>(zd P et).map (·,false)
def pairF (ok:Bool) (p:AV × Bool):AV:=if ok then .tup [p.1,bv p.2] else p.1
def aLookup (P:Program) (t:TypeId) (m k:AV) (ok:Bool) (h:zI):Option AV:=
 match jm P t with
 | some (kt,et)=>match qz P kt k with
  | some _=>match m with
   | .map n=>match h n with
    | some (.map _ _ es)=>match qW P kt k es 0 with
     | some r=>(resF P et r).map (pairF ok)
     | none=>none
    | _=>none
   | _=>none
  | none=>none
 | none=>none
def aMapPut (P:Program) (t:TypeId) (m k x:AV) (h:zI):Option zI:=
 match jm P t with
 | some (kt,_)=>match qz P kt k with
  | some kv=>match m with
   | .map n=>match h n with
    | some (.map clk bs es)=>match qW P kt k es 0 with
     | some none=>some (h.upd n (some (.map (clk + 1) (bs ++ [clk]) (es ++ [(kv,x)]))))
     | some (some (i,_))=>if Instr.sameBits 10000 ((es.map (·.1)).getD i kv) kv=true then some (h.upd n (some (.map clk bs (es.set i (kv,x))))) else none
     | _=>none
    | _=>none
   | _=>none
  | none=>none
 | none=>none
def aRange (P:Program) (nm:Nat) (t:TypeId) (m:AV) (h:zI):Option (AV × zI):=
 match jm P t,m with
 | some _,.map n=>match h n with
  | some (.map clk _ _)=>some (.ptr nm 0,h.upd nm (some (.iter n clk clk [])))
  | _=>none
 | _,_=>none
def aEntry (it:AV) (h:zI):Option AV:=
 match it with
 | .ptr n 0=>match h n with
  | some (.iter m _ c0 seen)=>match h m,seen.getLast? with
   | some (.map clk bs es),some b=>if clk=c0 then match es[bs.findIdx (·== b)]? with
     | some (k,v)=>some (.tup [jN k,v])
     | none=>none
    else none
   | _,_=>none
  | _=>none
 | _=>none
section
variable {P : Program} {w0 : World} {G : Gh} {h : zI} {w : World} {nm : Nat}
theorem qT {t k e:TypeId} (h:jm P t=some (k,e)):P.underlying t=some (.map k e):=by
 unfold jm at h
 split at h
 ·rename_i k' e' hu;simp only[Option.some.injEq,Prod.mk.injEq] at h;obtain⟨rfl,rfl⟩:=h;exact hu
 ·cases h
theorem lookup_ok [Vars] (I:Inv w0 G h w) {t:TypeId} {m k:AV} {mv kv:Value} (hm:Rv G m mv) (hk:Rv G k kv) {ok:Bool} {x:AV} (hx:aLookup P t m k ok h=some x):∃cv,(Instr.lookup t mv kv ok).run P w=.ok cv w∧Rv G x cv:=by
 unfold aLookup at hx
 split at hx
 ·rename_i kt et hT
  have hu:=qT hT
  split at hx
  ·rename_i kv0 hk0
   split at hx
   ·rename_i n
    split at hx
    ·rename_i es hn
     split at hx
     ·rename_i r hf
      simp only[Option.map_eq_some_iff] at hx
      obtain⟨p,hp,rfl⟩:=hx
      simp only[Rv] at hm
      obtain⟨b,lo,tt,hr,rfl⟩:=hm
      obtain⟨b',ents,hr',M⟩:=I.obj n _ hn
      rw[hr] at hr';cases hr'
      obtain⟨rfl,hchk⟩:=key_ok (w:=w) hk0 hk
      obtain⟨cr,h1,h2⟩:=qe (w:=w) hk0 hk M.keys M.vals hf
      have hg:=MapKept.run_getObj_map (P:=P) M.blk
      have hc:=hchk ents.isEmpty 9998
      cases r with
      | none=>
       cases cr with
       | none=>
        simp only[resF,Option.map_eq_some_iff] at hp
        obtain⟨z,hz,rfl⟩:=hp
        obtain⟨zv,h3,h4⟩:=JS hz G w
        refine⟨if ok then .tuple #[zv,.bool false] else zv,?_,?_⟩
        ·simp[Instr.lookup,run_underlying hu,hg,hc,h1,h3]
        ·cases ok
         ·simpa [pairF] using h4
         ·simp only[pairF,if_true,Rv,RvL]
          exact⟨_,rfl,_,_,rfl,h4,_,_,rfl,by simp[Value.oneCell'],rfl⟩
       | some q=>exact h2.elim
      | some r=>
       obtain⟨i,y⟩:=r
       cases cr with
       | none=>exact h2.elim
       | some q=>
        obtain⟨j,v⟩:=q
        obtain⟨_,h4⟩:=h2
        simp only[resF,Option.some.injEq] at hp
        subst hp
        refine⟨if ok then .tuple #[v,.bool true] else v,?_,?_⟩
        ·simp[Instr.lookup,run_underlying hu,hg,hc,h1]
        ·cases ok
         ·simpa [pairF] using h4
         ·simp only[pairF,if_true,Rv,RvL]
          exact⟨_,rfl,_,_,rfl,h4,_,_,rfl,by simp[Value.oneCell'],rfl⟩
     ·cases hx
    ·cases hx
   ·cases hx
  ·cases hx
 ·cases hx
theorem modify_map_key (ents:Array MapEntry) (i:Nat) (k v:Value):((ents.modify i fun e=>{e with key:=k,val:=v}).toList.map (·.key))=(ents.toList.map (·.key)).set i k:=by
 apply List.ext_getElem?
 intro j
 simp only[List.getElem?_map,Array.getElem?_toList,Array.getElem?_modify,List.getElem?_set,List.length_map,Array.length_toList]
 by_cases h:i=j
 ·subst h
  by_cases hi:i < ents.size
  ·simp[hi]
  ·simp[hi]
 ·simp[h]
theorem modify_map_val (ents:Array MapEntry) (i:Nat) (k v:Value):((ents.modify i fun e=>{e with key:=k,val:=v}).toList.map (·.val))=(ents.toList.map (·.val)).set i v:=by
 apply List.ext_getElem?
 intro j
 simp only[List.getElem?_map,Array.getElem?_toList,Array.getElem?_modify,List.getElem?_set,List.length_map,Array.length_toList]
 by_cases h:i=j
 ·subst h
  by_cases hi:i < ents.size
  ·simp[hi]
  ·simp[hi]
 ·simp[h]
theorem modify_map_born (ents:Array MapEntry) (i:Nat) (k v:Value):((ents.modify i fun e=>{e with key:=k,val:=v}).toList.map (·.born))=ents.toList.map (·.born):=by
 apply List.ext_getElem?
 intro j
 simp only[List.getElem?_map,Array.getElem?_toList,Array.getElem?_modify]
 by_cases h:i=j
 ·subst h
  cases ents[i]? <;> simp
 ·simp[h]
theorem RvL.set {G:Gh}:∀{l:List AV} {vs:List Value} (_:RvL G l vs) (i:Nat) {x:AV} {v:Value},Rv G x v→RvL G (l.set i x) (vs.set i v)
 | [],_,h,i,x,v,_=>by simp only[RvL] at h;subst h;simp[RvL]
 | y :: r,_,h,i,x,v,hx=>by
  simp only[RvL] at h
  obtain⟨u,ur,rfl,h1,h⟩:=h
  cases i with
  | zero=>simp only[List.set_cons_zero,RvL];exact⟨v,ur,rfl,hx,h⟩
  | succ i=>simp only[List.set_cons_succ,RvL];exact⟨u,_,rfl,h1,RvL.set h i hx⟩
theorem mapPut_ok [Vars] (I:Inv w0 G h w) {t:TypeId} {m k x:AV} {mv kv xv:Value} (hm:Rv G m mv) (hk:Rv G k kv) (hxv:Rv G x xv) {h':zI} (hx:aMapPut P t m k x h=some h'):∃w',(Instr.mapUpdate t mv kv xv).run P w=.ok () w'∧Inv w0 G h' w':=by
 unfold aMapPut at hx
 split at hx
 ·rename_i kt et hT
  have hu:=qT hT
  split at hx
  ·rename_i kv0 hk0
   split at hx
   ·rename_i n
    split at hx
    ·rename_i clk bs es hn
     simp only[Rv] at hm
     obtain⟨b,lo,tt,hr,rfl⟩:=hm
     obtain⟨b',ents,hr',M⟩:=I.obj n _ hn
     rw[hr] at hr';cases hr'
     obtain⟨rfl,hchk⟩:=key_ok (w:=w) hk0 hk
     have hg:=MapKept.run_getObj_map (P:=P) M.blk
     have hc:=hchk false 9998
     have hlt:b < w.heap.size:=(Array.getElem?_eq_some_iff.1 M.blk).1
     split at hx
     ·rename_i hf
      simp only[Option.some.injEq] at hx;subst hx
      obtain⟨cr,h1,h2⟩:=qe (w:=w) hk0 hk M.keys M.vals hf
      cases cr with
      | some q=>exact h2.elim
      | none=>
       refine⟨w.putObj b (.map (ents.push {key:=kv,val:=xv,born:=clk}) (clk + 1)),?_,?_⟩
       ·simp[Instr.mapUpdate,run_underlying hu,hg,hc,h1,MapKept.run_setObj_map _ M.blk,World.putObj]
       ·refine I.putObj hn hr M.blk (by simp) (by simp) (by simp) (by simp) M.base ⟨b,_,hr,M.base,World.putObj_heap_same hlt,?_,?_,?_,fun x hx=>?_⟩
        ·simp[M.keys]
        ·simp only[List.map_append,Array.toList_push]
         exact RvL.append M.vals (by simp only[List.map_cons,List.map_nil,RvL];exact⟨_,_,rfl,hxv,rfl⟩)
        ·simp[M.born]
        ·rcases List.mem_append.1 hx with h' | h'
         ·exact Nat.lt_succ_of_lt (M.lt x h')
         ·simp only[List.mem_singleton] at h';omega
     ·rename_i i y hf
      split at hx
      ·rename_i hsb
       simp only[Option.some.injEq] at hx;subst hx
       obtain⟨cr,h1,h2⟩:=qe (w:=w) hk0 hk M.keys M.vals hf
       cases cr with
       | none=>exact h2.elim
       | some q=>
        obtain⟨j,v⟩:=q
        obtain⟨rfl,h4⟩:=h2
        have hkeep:(Instr.keyThatStays (((ents[i]?).map (·.key)).getD kv) kv).run P w=.ok kv w:=by
         have e1:((ents[i]?).map (·.key)).getD kv=(es.map (·.1)).getD i kv:=by
          rw[←M.keys,List.getD_eq_getElem?_getD,List.getElem?_map]
          simp
         rw[e1]
         unfold Instr.keyThatStays
         rw[if_pos hsb,Sem.run_pure]
        refine⟨w.putObj b (.map (ents.modify i fun e=>{e with key:=kv,val:=xv}) clk),?_,?_⟩
        ·simp[Instr.mapUpdate,run_underlying hu,hg,hc,h1,hkeep,MapKept.run_setObj_map _ M.blk,World.putObj]
        ·refine I.putObj hn hr M.blk (by simp) (by simp) (by simp) (by simp) M.base ⟨b,_,hr,M.base,World.putObj_heap_same hlt,?_,?_,?_,M.lt⟩
         ·rw[modify_map_key,M.keys,List.map_set]
         ·rw[modify_map_val,List.map_set]
          exact RvL.set M.vals i hxv
         ·rw[modify_map_born,M.born]
      ·cases hx
     ·cases hx
    ·cases hx
   ·cases hx
  ·cases hx
 ·cases hx
end
end Go.AM
namespace Go.AM
open Go.RowKit
def chanElt (P:Program) (t:TypeId):Option TypeId:=
 match P.underlying t with
 | some (.chan _ e)=>some e
 | _=>none
def aMakeChan (P:Program) (nm:Nat) (t:TypeId) (n:AV) (h:zI):Option (AV × zI):=
 match chanElt P t,n with
 | some e,.c (.int _ i)=>match ZC P e with
  | some b=>if 0≤i∧i≤1000000∧b≤1000000 then some (.chan nm,h.upd nm (some (.chan i.toNat [] false))) else none
  | none=>none
 | _,_=>none
def aClose (x:AV) (h:zI):Option (AV × zI):=
 match x with
 | .chan n=>match h n with
  | some (.chan cap buf false)=>some (.tup [],h.upd n (some (.chan cap buf true)))
  | _=>none
 | _=>none
section
variable {P : Program} {w0 : World} {G : Gh} {h : zI} {w : World} {nm : Nat}
theorem new_ok [Vars] (I:Inv w0 G h w) (hnm:G.reg nm=none) (ob:Obj) (o:AObj) (ho:ObjOk w0 (G.set nm (w.heap.size,0,1)) (w.alloc ob) nm o) {cv:Value} {v:AV} (hv:Rv (G.set nm (w.heap.size,0,1)) v cv) :
  StepOk w0 G nm (.ok (.value cv) (w.alloc ob)) v (h.upd nm (some o)):=
 ⟨_,_,_,.inl rfl,fun _ hk=>Gh.set_ne hk,Gh.le_set hnm,I.alloc hnm (.inr trivial) ob o 1 ho,hv⟩
theorem makeMap_ok [Vars] (I:Inv w0 G h w) (hnm:G.reg nm=none):StepOk w0 G nm (.ok (.value (.map (some w.heap.size))) (w.alloc (.map #[] 0))) (.map nm) (h.upd nm (some (.map 0 [] []))):=
 new_ok I hnm (.map #[] 0) (.map 0 [] []) ⟨w.heap.size,#[],Gh.set_same,I.below.size,World.alloc_heap_new w _,rfl,by simp[RvL],rfl,by simp⟩ (by simp only[Rv];exact⟨_,_,_,Gh.set_same,rfl⟩)
theorem chanElt_u {t e:TypeId} (h:chanElt P t=some e):∃d,P.underlying t=some (.chan d e):=by
 unfold chanElt at h
 split at h
 ·rename_i d e' hu;simp only[Option.some.injEq] at h;subst h;exact⟨d,hu⟩
 ·cases h
theorem makeChan_ok [Vars] (I:Inv w0 G h w) (hnm:G.reg nm=none) {t:TypeId} {n:AV} {nv:Value} (hn:Rv G n nv) {x:AV} {h':zI} (hx:aMakeChan P nm t n h=some (x,h')) :
  ∃cv w',(Instr.makeChan t nv).run P w=.ok cv w'∧StepOk w0 G nm (.ok (.value cv) w') x h':=by
 unfold aMakeChan at hx
 split at hx
 ·rename_i e k i he
  obtain⟨d,hu⟩:=chanElt_u he
  split at hx
  ·rename_i b hb
   split at hx
   ·rename_i hc
    simp only[Option.some.injEq,Prod.mk.injEq] at hx
    obtain⟨rfl,rfl⟩:=hx
    simp only[Rv] at hn
    obtain⟨rfl,_⟩:=hn
    obtain⟨inf,hi,hib⟩:∃inf,P.info? e=some inf∧inf.bytes=b:=by simpa only[ZC,Option.map_eq_some_iff] using hb
    have hmax:IntKind.i64.max=9223372036854775807:=by decide
    have hnot:¬(i < 0∨i > IntKind.i64.max∨(inf.bytes:Int) * i > 2 ^ 48 - 112):=by
     rw[hmax,hib]
     have h1:(b:Int) * i≤1000000 * 1000000:=by
      have hb0:(0:Int)≤b:=Int.natCast_nonneg b
      have hb1:(b:Int)≤1000000:=by omega
      exact Int.mul_le_mul hb1 hc.2.1 hc.1 (by decide)
     have h2:(2:Int) ^ 48 - 112=281474976710544:=by decide
     rw[h2]
     omega
    refine⟨_,_,?_,new_ok I hnm (.chan i.toNat #[] false 0 0 false) (.chan i.toNat [] false) ⟨w.heap.size,#[],0,0,Gh.set_same,I.below.size,World.alloc_heap_new w _,by simp[RvL]⟩ (cv:=.chan (some w.heap.size)) (by simp only[Rv];exact⟨_,_,_,Gh.set_same,rfl⟩)⟩
    have hnot':¬(i < 0∨9223372036854775807 < i∨(281474976710544:Int) < (inf.bytes:Int) * i):=by
     have h2:(2:Int) ^ 48 - 112=281474976710544:=by decide
     rw[hmax,h2] at hnot;exact hnot
    simp[Instr.makeChan,asInt,asIntOf,run_underlying hu,typeInfo,hi,hnot',hmax]
   ·cases hx
  ·cases hx
 ·cases hx
theorem close_ok [Vars] (I:Inv w0 G h w) {x y:AV} {v:Value} (hv:Rv G x v) {h':zI} (hx:aClose x h=some (y,h')) (ts:Array TypeId) (ty:TypeId):∃cv w',(Builtin.close_ ts ty #[v]).run P w=.ok cv w'∧Inv w0 G h' w'∧Rv G y cv:=by
 unfold aClose at hx
 split at hx
 ·rename_i n
  split at hx
  ·rename_i cap buf hn
   simp only[Option.some.injEq,Prod.mk.injEq] at hx
   obtain⟨rfl,rfl⟩:=hx
   simp only[Rv] at hv
   obtain⟨b,lo,tt,hr,rfl⟩:=hv
   obtain⟨b',vs,s,r,hr',hb,hblk,hrel⟩:=I.obj n _ hn
   rw[hr] at hr';cases hr'
   have hlt:b < w.heap.size:=(Array.getElem?_eq_some_iff.1 hblk).1
   refine⟨.tuple #[],w.putObj b (.chan cap vs true s r false),?_,?_,by simp[Rv,RvL]⟩
   ·exact run_close_open ts ty hblk
   ·exact I.putObj hn hr hblk (by simp) (by simp) (by simp) (by simp) hb ⟨b,vs,s,r,hr,hb,World.putObj_heap_same hlt,hrel⟩
  ·cases hx
 ·cases hx
theorem range_ok [Vars] (I:Inv w0 G h w) (hnm:G.reg nm=none) {t:TypeId} {m:AV} {mv:Value} (hm:Rv G m mv) {x:AV} {h':zI} (hx:aRange P nm t m h=some (x,h')) :
  ∃cv w',(Instr.range t mv).run P w=.ok cv w'∧StepOk w0 G nm (.ok (.value cv) w') x h':=by
 unfold aRange at hx
 split at hx
 ·rename_i kt n hT
  obtain⟨k,e⟩:=kt
  have hu:=qT hT
  split at hx
  ·rename_i clock bs es hn
   simp only[Option.some.injEq,Prod.mk.injEq] at hx
   obtain⟨rfl,rfl⟩:=hx
   simp only[Rv] at hm
   obtain⟨b,lo,tt,hr,rfl⟩:=hm
   obtain⟨b',ents,hr',M⟩:=I.obj n _ hn
   rw[hr] at hr';cases hr'
   refine⟨_,_,run_range_map w t k e b ents clock hu M.blk,?_⟩
   refine new_ok I hnm (.mapIter (some b) clock #[] clock) (.iter n clock clock []) ⟨w.heap.size,b,#[],Gh.set_same,I.below.size,?_,World.alloc_heap_new w _,rfl⟩ (by simp only[Rv];exact⟨_,_,_,Gh.set_same,rfl⟩)
   have hne:n≠nm:=fun e=>by rw[e,hnm] at hr;cases hr
   rw[Gh.set_ne hne];exact hr
  ·cases hx
 ·cases hx
theorem MapOk.len {b clk:Nat} {bs:List Nat} {es:List (Value × AV)} {ents:Array MapEntry} (M:MapOk w0 G w b clk bs es ents):ents.size=es.length:=by
 have:=congrArg List.length M.keys
 simpa using this
theorem MapOk.blen {b clk:Nat} {bs:List Nat} {es:List (Value × AV)} {ents:Array MapEntry} (M:MapOk w0 G w b clk bs es ents):ents.size=bs.length:=by
 have:=congrArg List.length M.born
 simpa using this
theorem find_born:∀{l:List MapEntry} {x:Nat} {e:MapEntry},l[(l.map (·.born)).findIdx (·== x)]? = some e→l.find? (·.born == x)=some e
 | [],x,e,h=>by simp at h
 | y :: r,x,e,h=>by
  simp only[List.map_cons,List.findIdx_cons] at h
  cases hy:(y.born == x) with
  | true=>rw[hy] at h;simp only[cond_true,List.getElem?_cons_zero,Option.some.injEq] at h;subst h;simp[hy]
  | false=>
   rw[hy] at h
   simp only[cond_false,List.getElem?_cons_succ] at h
   rw[List.find?_cons,hy]
   exact find_born h
theorem MapOk.find [Vars] {b clk:Nat} {bs:List Nat} {es:List (Value × AV)} {ents:Array MapEntry} (M:MapOk w0 G w b clk bs es ents) {x:Nat} {e:MapEntry} (he:ents[bs.findIdx (·== x)]? = some e):ents.find? (·.born == x)=some e:=by
 rw[←Array.find?_toList]
 refine find_born ?_
 rw[M.born];simpa using he
theorem MapOk.at [Vars] {b clk:Nat} {bs:List Nat} {es:List (Value × AV)} {ents:Array MapEntry} (M:MapOk w0 G w b clk bs es ents) {j:Nat} {k:Value} {x:AV} (hj:es[j]? = some (k,x)):∃e,ents[j]? = some e∧e.key=k∧Rv G x e.val:=by
 have hl:=M.len
 have hlt:j < es.length:=(List.getElem?_eq_some_iff.1 hj).1
 have h1:(ents.toList.map (·.key))[j]? = some k:=by rw[M.keys];simp[hj]
 obtain⟨v,h2,h3⟩:=RvL.get M.vals j x (by simp[hj])
 have hje:j < ents.size:=by omega
 refine⟨ents[j],Array.getElem?_eq_getElem hje,?_,?_⟩
 ·simpa [Array.getElem?_eq_getElem hje] using h1
 ·have:ents[j].val=v:=by simpa [Array.getElem?_eq_getElem hje] using h2
  rw[this];exact h3
theorem entry_ok [Vars] (I:Inv w0 G h w) {it x:AV} {v:Value} (hv:Rv G it v) (hx:aEntry it h=some x):∃cv,(Instr.entry v).run P w=.ok cv w∧Rv G x cv:=by
 unfold aEntry at hx
 split at hx
 ·rename_i n
  split at hx
  ·rename_i m since c0 seen hn
   split at hx
   ·rename_i clk bs es j hm hj
    split at hx
    ·rename_i hlen
     split at hx
     ·rename_i k y hjk
      simp only[Option.some.injEq] at hx;subst hx
      simp only[Rv] at hv
      obtain⟨b,lo,tt,hr,rfl⟩:=hv
      obtain⟨b',bm,sa,hr',hb,hrm,hblk,hsa⟩:=I.obj n _ hn
      rw[hr] at hr';cases hr'
      obtain⟨bm',ents,hrm',M⟩:=I.obj m _ hm
      rw[hrm] at hrm';cases hrm'
      obtain⟨e,he1,he2,he3⟩:=M.at hjk
      have hback:sa.back? = some j:=by rw[←hsa] at hj;simpa [Array.back?,List.getLast?_eq_getElem?] using hj
      refine⟨.tuple #[e.key,e.val],?_,?_⟩
      ·simp[Instr.entry,getObj,Sem.run,hblk,M.blk,hback,hlen,M.find he1]
      ·simp only[Rv,RvL]
       exact⟨_,rfl,_,_,rfl,by rw[←he2];exact jy G _,_,_,rfl,he3,rfl⟩
     ·cases hx
    ·cases hx
   ·cases hx
  ·cases hx
 ·cases hx
def Qv (P:Program) (t:TypeId) (x:AV) (lo hi mx:Option AV) (h:zI):Option AV:=
 match x,mx with
 | .slc n off len s,none=>match ZS P t with
  | some e=>if zo P e=some s∧hi.isSome=true then match lowB lo,highB len hi,h n with
   | some a,some b,some (.cells c)=>if 0≤a∧a < b∧off + b.toNat * s≤c.length then some (.slc n (off + a.toNat * s) (b.toNat - a.toNat) s) else none
   | _,_,_=>none
   else none
  | none=>none
 | _,_=>none
theorem sliceCap_ok [Vars] (I:Inv w0 G h w) {t:TypeId} {x:AV} {lo hi mx:Option AV} {v:Value} {vlo vhi vmx:Option Value} (hx:Rv G x v) (hlo:RvO G lo vlo) (hhi:RvO G hi vhi) (hmx:RvO G mx vmx) {r:AV} (hr:Qv P t x lo hi mx h=some r) :
  ∃cv,(Instr.sliceAt t v vlo vhi vmx).run P w=.ok cv w∧Rv G r cv:=by
 unfold Qv at hr
 split at hr
 ·rename_i n off len s
  split at hr
  ·rename_i e he
   split at hr
   ·rename_i hsz
    have hsr:=jO hsz.1 w
    split at hr
    ·rename_i p q c e1 e2 hn
     split at hr
     ·rename_i hc
      simp only[Option.some.injEq] at hr;subst hr
      simp only[Rv] at hx
      obtain⟨b,lo',t',cap,hreg,rfl,k1,k2,k3⟩:=hx
      obtain⟨rg,vs,hreg',ok⟩:=I.obj n _ hn
      rw[hreg] at hreg';cases hreg'
      have hcl:=ok.len
      simp only at hcl
      have hq:q.toNat≤cap:=by
       have h1:q.toNat * s≤cap * s:=by omega
       exact Nat.le_of_mul_le_mul_right h1 k3
      cases hmx
      have hb:=qd (P:=P) (w:=w) (isS:=true) (cap:=cap) hlo hhi e1 e2 hc.1 (by omega) (by omega)
      refine⟨_,by simp only[Instr.sliceAt,Sem.run_bind,Zj he,Result.andThen_ok,Instr.slice,hb,hsr,Sem.run_pure];rfl,?_⟩
      simp only[Rv]
      refine⟨b,lo',t',cap - p.toNat,hreg,?_,by omega,?_,k3⟩
      ·congr 1
       rw[if_neg (by omega)]
       simp[z7,Nat.add_assoc]
      ·have hpc:p.toNat≤cap:=by omega
       have:=Nat.mul_le_mul_right s hpc
       rw[Nat.sub_mul];omega
     ·cases hr
    ·cases hr
   ·cases hr
  ·cases hr
 ·cases hr
end
end Go.AM
namespace Go.AM
open Go.RowKit
def arrOf (P:Program) (t:TypeId):Option (Nat × TypeId × Nat × Bool):=
 match P.underlying t with
 | some (.array n e)=>match lay P e with
  | some (s,g)=>some (n,e,s,g)
  | none=>none
 | _=>none
def aIdxArr (P:Program) (t:TypeId) (x i:AV):Option AV:=
 match arrOf P t,x,i with
 | some (n,_,s,g),.agg l,.c (.int _ i)=>if 0≤i∧i < n then jB (s,g) (l.drop (i.toNat * s)) else none
 | _,_,_=>none
def QN (P:Program) (t:TypeId) (x i:AV):Option AV:=
 match arrOf P t,i with
 | some (n,_,s,_),.c (.int _ i)=>if 0≤i∧i < n then (match x with
   | .ptr m off=>some (.ptr m (off + i.toNat * s))
   | .fptr l=>some (.fptr (l.drop (i.toNat * s)))
   | _=>none) else none
 | _,_=>none
def je (P:Program) (t:TypeId):Option Bool:=(P.underlying t).map fun d=>match d with | .interface _=>true | _=>false
def ptrSz (P:Program) (t:TypeId):Bool:=match P.underlying t with
 | some (.pointer e)=>(P.info? e).isSome
 | _=>false
def isC:Operand→Operand→Bool
 | .const _,_=>true
 | _,.const _=>true
 | _,_=>false
def q9 (P:Program) (op:BinOp) (t:TypeId) (cn:Bool) (x y:AV):Option AV:=
 match op,x,y with
 | .shl,.c (.int k a),.c (.int _ b)=>if b < 0 then none else some (iv k (k.wrap (a * 2 ^ (min b.toNat k.bits))))
 | .shr,.c (.int k a),.c (.int _ b)=>if b < 0 then none else some (iv k (a.fdiv (2 ^ (min b.toNat k.bits))))
 | .eql,.c .nilIface,.c .nilIface=>if je P t=some true∧cn=true then some (bv true) else none
 | .neq,.c .nilIface,.c .nilIface=>if je P t=some true∧cn=true then some (bv false) else none
 | .eql,.iface _ _,.c .nilIface=>if je P t=some true then some (bv false) else none
 | .neq,.iface _ _,.c .nilIface=>if je P t=some true then some (bv true) else none
 | .neq,.ptr n o,.ptr m p=>if n=m∧o=p∧ptrSz P t=true then some (bv false) else none
 | _,_,_=>none
def Jq (P:Program) (t:TypeId) (x:AV):Option AV:=if je P t=some false then some (.iface t x) else none
def aAssert (P:Program) (x:AV) (t:TypeId) (ok:Bool):Option AV:=
 if je P t=some false then match x with
  | .iface u v=>if u=t then some (if ok then .tup [v,bv true] else v) else if ok then (zd P t).map fun z=>.tup [z,bv false] else none
  | .c .nilIface=>if ok then (zd P t).map fun z=>.tup [z,bv false] else none
  | _=>none
 else none
def aDelete (P:Program) (t:TypeId) (m k:AV) (h:zI):Option zI:=
 match jm P t with
 | some (kt,_)=>match qz P kt k with
  | some _=>match m with
   | .map n=>match h n with
    | some (.map clk bs es)=>match qW P kt k es 0 with
     | some none=>some (h.upd n (some (.map clk bs es)))
     | some (some (i,_))=>some (h.upd n (some (.map clk (bs.eraseIdx i) (es.eraseIdx i))))
     | none=>none
    | _=>none
   | _=>none
  | none=>none
 | none=>none
def aClearMap (P:Program) (t:TypeId) (m:AV) (h:zI):Option zI:=
 match jm P t,m with
 | some _,.map n=>match h n with
  | some (.map clk _ _)=>some (h.upd n (some (.map clk [] [])))
  | _=>none
 | _,_=>none
def aMapEntry (P:Program) (t:TypeId) (m k:AV) (h:zI):Option (AV × zI):=
 match jm P t with
 | some (kt,et)=>match qz P kt k with
  | some kv=>match m with
   | .map n=>match h n with
    | some (.map clk bs es)=>match qW P kt k es 0 with
     | some none=>(zd P et).map fun z=>(.tup [z,iv .i64 clk],h.upd n (some (.map (clk + 1) (bs ++ [clk]) (es ++ [(kv,z)]))))
     | some (some (i,y))=>if Instr.sameBits 10000 ((es.map (·.1)).getD i kv) kv=true then match bs[i]?,es[i]? with
       | some b,some (_,y')=>some (.tup [y,iv .i64 b],h.upd n (some (.map clk bs (es.set i (kv,y')))))
       | _,_=>none
      else none
     | none=>none
    | _=>none
   | _=>none
  | none=>none
 | none=>none
def QK (m b x:AV) (h:zI):Option zI:=
 match m,b with
 | .map n,.c (.int _ b)=>match h n with
  | some (.map clk bs es)=>match bs.findIdx? (fun (c:Nat)=>(c:Int) == b) with
   | some i=>match es[i]? with
    | some (k,_)=>some (h.upd n (some (.map clk bs (es.set i (k,x)))))
    | none=>none
   | none=>none
  | _=>none
 | _,_=>none
section
variable {P : Program} {w0 : World} {G : Gh} {h : zI} {w : World} {nm : Nat}
theorem lay_spec {t:TypeId} {s:Nat} {g:Bool} (hl:lay P t=some (s,g)):∃i d,P.info? t=some i∧i.size=s∧P.underlying t=some d∧J6 d=g:=by
 unfold lay at hl
 split at hl
 ·rename_i i d h1 h2
  simp only[Option.some.injEq,Prod.mk.injEq] at hl
  exact⟨i,d,h1,hl.1,h2,hl.2⟩
 ·cases hl
theorem arrOf_spec {t e:TypeId} {n s:Nat} {g:Bool} (h:arrOf P t=some (n,e,s,g)):P.underlying t=some (.array n e)∧lay P e=some (s,g):=by
 unfold arrOf at h
 split at h
 ·rename_i n' e' hu
  split at h
  ·rename_i s' g' hl
   simp only[Option.some.injEq,Prod.mk.injEq] at h
   obtain⟨rfl,rfl,rfl,rfl⟩:=h
   exact⟨hu,hl⟩
  ·cases h
 ·cases h
theorem part_lay [Vars] {t:TypeId} {s:Nat} {g:Bool} (hl:lay P t=some (s,g)) {l:List AV} {cs:Array Value} (hr:RvL G l cs.toList) {off:Nat} {x:AV} (hx:jB (s,g) (l.drop off)=some x):∃v,(part t cs off).run P w=.ok v w∧Rv G x v:=by
 obtain⟨i,d,h1,h2,h3,h4⟩:=lay_spec hl
 have hd:=hr.drop off
 cases g with
 | true=>
  have hag:(isAgg t).run P w=.ok true w:=by
   cases d <;> simp[J6] at h4 <;> simp[isAgg,run_underlying h3]
  simp only[jB] at hx
  split at hx
  ·rename_i hle
   cases hx
   refine⟨.agg (cs.extract off (off + s)),?_,?_⟩
   ·simp[part,hag,sizeOf,typeInfo,h1,h2]
   ·simp only[Rv]
    refine⟨_,rfl,?_⟩
    have:=hd.take s
    rw[Array.toList_extract,List.extract_eq_take_drop]
    simpa using this
  ·cases hx
 | false=>
  have hag:(isAgg t).run P w=.ok false w:=by
   cases d <;> simp[J6] at h4 <;> simp[isAgg,run_underlying h3]
  simp only[jB] at hx
  rw[List.head?_drop] at hx
  obtain⟨v,e1,e2⟩:=hr.get off x hx
  refine⟨v,?_,e2⟩
  have:cs[off]? = some v:=by simpa using e1
  simp[part,hag,this]
theorem idxArr_ok [Vars] {t:TypeId} {x i:AV} {v iv:Value} (hx:Rv G x v) (hi:Rv G i iv) {r:AV} (hr:aIdxArr P t x i=some r):∃cv,(Instr.index t v iv).run P w=.ok cv w∧Rv G r cv:=by
 unfold aIdxArr at hr
 split at hr
 ·rename_i n e s g l k i ha
  obtain⟨hu,hl⟩:=arrOf_spec ha
  split at hr
  ·rename_i hc
   simp only[Rv] at hx hi
   obtain⟨vs,rfl,hv⟩:=hx
   obtain⟨rfl,_⟩:=hi
   obtain⟨cv,h1,h2⟩:=part_lay (w:=w) hl hv hr
   obtain⟨ti,d,k1,k2,_⟩:=lay_spec hl
   refine⟨cv,?_,h2⟩
   simp[Instr.index,asIntOf,run_underlying hu,hc,sizeOf,typeInfo,k1,k2,h1]
  ·cases hr
 ·cases hr
theorem addrArr_ok [Vars] {t:TypeId} {x i:AV} {v iv:Value} (hx:Rv G x v) (hi:Rv G i iv) {r:AV} (hr:QN P t x i=some r):∃cv,(Instr.indexAt t v iv).run P w=.ok cv w∧Rv G r cv:=by
 unfold QN at hr
 split at hr
 ·rename_i n e s g k i ha
  obtain⟨hu,hl⟩:=arrOf_spec ha
  obtain⟨ti,d,k1,k2,_⟩:=lay_spec hl
  split at hr
  ·rename_i hc
   simp only[Rv] at hi
   obtain⟨rfl,_⟩:=hi
   split at hr
   ·rename_i m off
    cases hr
    simp only[Rv] at hx
    obtain⟨b,lo,tt,hreg,rfl⟩:=hx
    refine⟨_,by simp[Instr.indexAt,asIntOf,run_underlying hu,hc,sizeOf,typeInfo,k1,k2,Instr.sureAddr];rfl,?_⟩
    simp only[Rv]
    exact⟨b,lo,tt,hreg,by rw[z7,Nat.add_assoc]⟩
   ·rename_i l
    cases hr
    simp only[Rv] at hx
    obtain⟨a,vs,rfl,h1,h2⟩:=hx
    refine⟨_,by simp[Instr.indexAt,asIntOf,run_underlying hu,hc,sizeOf,typeInfo,k1,k2,Instr.sureAddr];rfl,?_⟩
    simp only[Rv]
    refine⟨_,vs.drop (i.toNat * s),rfl,h1.drop _,fun j v e=>?_⟩
    rw[List.getElem?_drop] at e
    rw[jQ]
    exact h2 _ _ e
   ·cases hr
  ·cases hr
 ·cases hr
theorem ifc_und {t:TypeId} (h:je P t=some true):∃ms,P.underlying t=some (.interface ms):=by
 unfold je at h
 simp only[Option.map_eq_some_iff] at h
 obtain⟨d,hu,hd⟩:=h
 cases d <;> simp at hd
 exact⟨_,hu⟩
theorem run_eq_nil {t:TypeId} {ms:Array (String × TypeId)} (hu:P.underlying t=some (.interface ms)) (w:World):(Op.equal t .nilIface .nilIface).run P w=.ok true w:=by
 have h:∀d:Nat,(Op.equalIn (d + 1) t .nilIface .nilIface).run P w=.ok true w:=fun d=>by
  simp[Op.equalIn,run_underlying hu]
 simp only[Op.equal,Op.maxDepth,h 9999]
theorem run_ne_nil {t u:TypeId} {ms:Array (String × TypeId)} (hu:P.underlying t=some (.interface ms)) (v:Value) (w:World):(Op.equal t (.iface u v) .nilIface).run P w=.ok false w:=by
 have h:∀d:Nat,(Op.equalIn (d + 1) t (.iface u v) .nilIface).run P w=.ok false w:=fun d=>by
  simp[Op.equalIn,run_underlying hu]
 simp only[Op.equal,Op.maxDepth,h 9999]
theorem guard_nil {op:BinOp} {t:TypeId} {ox oy:Operand} (h:isC ox oy=true):eqGuard op t ox oy .nilIface .nilIface=pure ():=by
 cases op <;> first | rfl|(cases ox <;> cases oy <;> first | rfl|(simp[isC] at h))
theorem guard_ifc {op:BinOp} {t u:TypeId} {ox oy:Operand} {v:Value}:eqGuard op t ox oy (.iface u v) .nilIface=pure ():=by
 unfold eqGuard
 split <;> rfl
theorem bin2_ok [Vars] {op:BinOp} {t:TypeId} {x y:AV} {v u:Value} {ox oy:Operand} (hx:Rv G x v) (hy:Rv G y u) {r:AV} (hr:q9 P op t (isC ox oy) x y=some r):∃cv,(do eqGuard op t ox oy v u;binOp op t v u:Sem Value).run P w=.ok cv w∧Rv G r cv:=by
 unfold q9 at hr
 split at hr
 ·split at hr
  ·cases hr
  ·rename_i hb
   cases hr
   simp only[Rv] at hx hy
   obtain⟨rfl,_⟩:=hx;obtain⟨rfl,_⟩:=hy
   exact⟨_,by simp[eqGuard_shl,binOp,Op.shift,hb];try rfl,Rv_iv.2 rfl⟩
 ·split at hr
  ·cases hr
  ·rename_i hb
   cases hr
   simp only[Rv] at hx hy
   obtain⟨rfl,_⟩:=hx;obtain⟨rfl,_⟩:=hy
   exact⟨_,by simp[eqGuard_shr,binOp,Op.shift,hb];try rfl,Rv_iv.2 rfl⟩
 ·split at hr
  ·rename_i hi
   obtain⟨ms,hu⟩:=ifc_und hi.1
   cases hr
   simp only[Rv] at hx hy
   obtain⟨rfl,_⟩:=hx;obtain⟨rfl,_⟩:=hy
   exact⟨_,by simp only[guard_nil hi.2,binOp,Sem.run_bind,run_eq_nil hu,Result.andThen_ok,Sem.run_pure],Rv_bv.2 rfl⟩
  ·cases hr
 ·split at hr
  ·rename_i hi
   obtain⟨ms,hu⟩:=ifc_und hi.1
   cases hr
   simp only[Rv] at hx hy
   obtain⟨rfl,_⟩:=hx;obtain⟨rfl,_⟩:=hy
   exact⟨_,by simp only[guard_nil hi.2,binOp,Sem.run_bind,run_eq_nil hu,Result.andThen_ok,Sem.run_pure,Bool.not_true],Rv_bv.2 rfl⟩
  ·cases hr
 ·split at hr
  ·rename_i hi
   obtain⟨ms,hu⟩:=ifc_und hi
   cases hr
   simp only[Rv] at hx hy
   obtain⟨z,rfl,_⟩:=hx;obtain⟨rfl,_⟩:=hy
   exact⟨_,by simp only[guard_ifc,binOp,Sem.run_bind,run_ne_nil hu,Result.andThen_ok,Sem.run_pure],Rv_bv.2 rfl⟩
  ·cases hr
 ·split at hr
  ·rename_i hi
   obtain⟨ms,hu⟩:=ifc_und hi
   cases hr
   simp only[Rv] at hx hy
   obtain⟨z,rfl,_⟩:=hx;obtain⟨rfl,_⟩:=hy
   exact⟨_,by simp only[guard_ifc,binOp,Sem.run_bind,run_ne_nil hu,Result.andThen_ok,Sem.run_pure,Bool.not_false],Rv_bv.2 rfl⟩
  ·cases hr
 ·split at hr
  ·rename_i hc
   obtain⟨rfl,rfl,hc⟩:=hc
   cases hr
   simp only[Rv] at hx hy
   obtain⟨b,lo,tt,h1,rfl⟩:=hx
   obtain⟨b',lo',tt',h2,rfl⟩:=hy
   rw[h1] at h2;cases h2
   unfold ptrSz at hc
   split at hc
   ·rename_i e hu
    obtain⟨j,hj⟩:=Option.isSome_iff_exists.1 hc
    exact⟨_,by rw[eqGuard_at_pointer];simp only[Sem.run_bind,Sem.run_pure,Result.andThen_ok];exact Go.Lib.run_neq_ptr_same w _ hu hj,Rv_bv.2 rfl⟩
   ·cases hc
  ·cases hr
 ·cases hr
theorem ifc_not {t:TypeId} (h:je P t=some false):∃d,P.underlying t=some d∧∀ms,d≠.interface ms:=by
 unfold je at h
 simp only[Option.map_eq_some_iff] at h
 obtain⟨d,hu,hd⟩:=h
 refine⟨d,hu,fun ms e=>?_⟩
 subst e;simp at hd
theorem mkIface_ok [Vars] {t:TypeId} {x:AV} {v:Value} (hx:Rv G x v) {r:AV} (hr:Jq P t x=some r):∃cv,(Instr.makeInterface t v).run P w=.ok cv w∧Rv G r cv:=by
 unfold Jq at hr
 split at hr
 ·rename_i hi
  obtain⟨d,hu,hd⟩:=ifc_not hi
  cases hr
  refine⟨.iface t v,?_,by simp only[Rv];exact⟨v,rfl,hx⟩⟩
  cases d <;> first | exact absurd rfl (hd _)|simp[Instr.makeInterface,run_underlying hu]
 ·cases hr
theorem assert_ok [Vars] {x:AV} {v:Value} (hx:Rv G x v) {t xt:TypeId} {ok:Bool} {r:AV} (hr:aAssert P x t ok=some r):∃cv,(Instr.typeAssert v xt t ok).run P w=.ok cv w∧Rv G r cv:=by
 unfold aAssert at hr
 split at hr
 ·rename_i hi
  obtain⟨d,hu,hd⟩:=ifc_not hi
  have hz:∀z,zd P t=some z→∃zv,(zeroValue t).run P w=.ok zv w∧Rv G z zv:=fun z hz=>JS hz G w
  split at hr
  ·rename_i u y
   simp only[Rv] at hx
   obtain⟨yv,rfl,hy⟩:=hx
   split at hr
   ·rename_i hut
    subst hut
    cases hr
    refine⟨if ok then .tuple #[yv,.bool true] else yv,?_,?_⟩
    ·cases d <;> first | exact absurd rfl (hd _)|simp[Instr.typeAssert,run_underlying hu]
    ·cases ok
     ·simpa using hy
     ·simp only[if_true,Rv,RvL];exact⟨_,rfl,_,_,rfl,hy,_,_,rfl,by simp[Value.oneCell'],rfl⟩
   ·rename_i hut
    split at hr
    ·rename_i hok
     simp only[Option.map_eq_some_iff] at hr
     obtain⟨z,hz0,rfl⟩:=hr
     obtain⟨zv,h1,h2⟩:=hz z hz0
     refine⟨.tuple #[zv,.bool false],?_,by simp only[Rv,RvL];exact⟨_,rfl,_,_,rfl,h2,_,_,rfl,by simp[Value.oneCell'],rfl⟩⟩
     cases d <;> first | exact absurd rfl (hd _)|simp[Instr.typeAssert,run_underlying hu,hut,hok,h1]
    ·cases hr
  ·simp only[Rv] at hx
   obtain⟨rfl,_⟩:=hx
   split at hr
   ·rename_i hok
    simp only[Option.map_eq_some_iff] at hr
    obtain⟨z,hz0,rfl⟩:=hr
    obtain⟨zv,h1,h2⟩:=hz z hz0
    refine⟨.tuple #[zv,.bool false],?_,by simp only[Rv,RvL];exact⟨_,rfl,_,_,rfl,h2,_,_,rfl,by simp[Value.oneCell'],rfl⟩⟩
    cases d <;> first | exact absurd rfl (hd _)|simp[Instr.typeAssert,run_underlying hu,hok,h1]
   ·cases hr
  ·cases hr
 ·cases hr
theorem putMap [Vars] {n b:Nat} {clk:Nat} {bs:List Nat} {es:List (Value × AV)} {ents:Array MapEntry} (I:Inv w0 G h w) (hn:h n=some (.map clk bs es)) (hr:G.reg n=some (b,0,1)) (M:MapOk w0 G w b clk bs es ents)
  (clk':Nat) (bs':List Nat) (es':List (Value × AV)) (ents':Array MapEntry) (k:ents'.toList.map (·.key)=es'.map (·.1)) (v:RvL G (es'.map (·.2)) (ents'.toList.map (·.val))) (bo:ents'.toList.map (·.born)=bs') (lt:∀x ∈ bs',x < clk') :
  Inv w0 G (h.upd n (some (.map clk' bs' es'))) (w.putObj b (.map ents' clk')):=by
 have hlt:b < w.heap.size:=(Array.getElem?_eq_some_iff.1 M.blk).1
 exact I.putObj hn hr M.blk (by simp) (by simp) (by simp) (by simp) M.base ⟨b,ents',hr,M.base,World.putObj_heap_same hlt,k,v,bo,lt⟩
theorem RvL.eraseIdx {G:Gh}:∀{l:List AV} {vs:List Value} (_:RvL G l vs) (i:Nat),RvL G (l.eraseIdx i) (vs.eraseIdx i)
 | [],_,h,i=>by simp only[RvL] at h;subst h;simp[RvL]
 | y :: r,_,h,i=>by
  simp only[RvL] at h
  obtain⟨u,ur,rfl,h1,h⟩:=h
  cases i with
  | zero=>simpa using h
  | succ i=>simp only[List.eraseIdx_cons_succ,RvL];exact⟨u,_,rfl,h1,RvL.eraseIdx h i⟩
theorem jR {α β:Type} (f:α→β):∀(l:List α) (i:Nat),(l.eraseIdx i).map f=(l.map f).eraseIdx i
 | [],_=>by simp
 | x :: r,0=>by simp
 | x :: r,i + 1=>by simp[jR f r i]
theorem delete_ok [Vars] (I:Inv w0 G h w) {t ty:TypeId} {m k:AV} {mv kv:Value} (hm:Rv G m mv) (hk:Rv G k kv) {h':zI} (hx:aDelete P t m k h=some h') (t2:TypeId) :
  ∃cv w',(Builtin.delete_ #[t,t2] ty #[mv,kv]).run P w=.ok cv w'∧Inv w0 G h' w':=by
 unfold aDelete at hx
 split at hx
 ·rename_i kt et hT
  have hu:=qT hT
  split at hx
  ·rename_i kv0 hk0
   split at hx
   ·rename_i n
    split at hx
    ·rename_i clk bs es hn
     simp only[Rv] at hm
     obtain⟨b,lo,tt,hr,rfl⟩:=hm
     obtain⟨b',ents,hr',M⟩:=I.obj n _ hn
     rw[hr] at hr';cases hr'
     obtain⟨rfl,hchk⟩:=key_ok (w:=w) hk0 hk
     have hg:=MapKept.run_getObj_map (P:=P) M.blk
     have hc:=hchk ents.isEmpty 9998
     split at hx
     ·rename_i hf
      cases hx
      obtain⟨cr,h1,h2⟩:=qe (w:=w) hk0 hk M.keys M.vals hf
      cases cr with
      | some q=>exact h2.elim
      | none=>
       refine⟨.tuple #[],w.putObj b (.map ents clk),?_,putMap I hn hr M _ _ _ _ M.keys M.vals M.born M.lt⟩
       simp[Builtin.delete_,run_underlying hu,hg,hc,h1,MapKept.run_setObj_map _ M.blk,World.putObj]
     ·rename_i i y hf
      cases hx
      obtain⟨cr,h1,h2⟩:=qe (w:=w) hk0 hk M.keys M.vals hf
      cases cr with
      | none=>exact h2.elim
      | some q=>
       obtain⟨j,v⟩:=q
       obtain⟨rfl,h4⟩:=h2
       have he:(ents.eraseIdxIfInBounds i).toList=ents.toList.eraseIdx i:=by simp
       refine⟨.tuple #[],w.putObj b (.map (ents.eraseIdxIfInBounds i) clk),?_,putMap I hn hr M _ _ _ _ ?_ ?_ ?_ fun x hx=>M.lt x (List.mem_of_mem_eraseIdx hx)⟩
       ·simp[Builtin.delete_,run_underlying hu,hg,hc,h1,MapKept.run_setObj_map _ M.blk,World.putObj]
       ·rw[he,jR,M.keys,jR]
       ·rw[he,jR,jR];exact M.vals.eraseIdx i
       ·rw[he,jR,M.born]
     ·cases hx
    ·cases hx
   ·cases hx
  ·cases hx
 ·cases hx
theorem clearMap_ok [Vars] (I:Inv w0 G h w) {t ty:TypeId} {m:AV} {mv:Value} (hm:Rv G m mv) {h':zI} (hx:aClearMap P t m h=some h') :
  ∃cv w',(Builtin.clear_ #[t] ty #[mv]).run P w=.ok cv w'∧Inv w0 G h' w':=by
 unfold aClearMap at hx
 split at hx
 ·rename_i p n hT
  obtain⟨kt,et⟩:=p
  have hu:=qT hT
  split at hx
  ·rename_i clk bs es hn
   cases hx
   simp only[Rv] at hm
   obtain⟨b,lo,tt,hr,rfl⟩:=hm
   obtain⟨b',ents,hr',M⟩:=I.obj n _ hn
   rw[hr] at hr';cases hr'
   have hg:=MapKept.run_getObj_map (P:=P) M.blk
   refine⟨.tuple #[],w.putObj b (.map #[] clk),?_,putMap I hn hr M _ _ _ #[] (by simp) (by simp[RvL]) (by simp) (by simp)⟩
   simp[Builtin.clear_,run_underlying hu,hg,MapKept.run_setObj_map _ M.blk,World.putObj]
  ·cases hx
 ·cases hx
theorem modify_key (ents:Array MapEntry) (i:Nat) (k:Value):((ents.modify i fun e=>{e with key:=k}).toList.map (·.key))=(ents.toList.map (·.key)).set i k:=by
 apply List.ext_getElem?
 intro j
 simp only[List.getElem?_map,Array.getElem?_toList,Array.getElem?_modify,List.getElem?_set,List.length_map,Array.length_toList]
 by_cases h:i=j
 ·subst h
  by_cases hi:i < ents.size <;> simp[hi]
 ·simp[h]
theorem modify_key_val (ents:Array MapEntry) (i:Nat) (k:Value):((ents.modify i fun e=>{e with key:=k}).toList.map (·.val))=ents.toList.map (·.val):=by
 apply List.ext_getElem?
 intro j
 simp only[List.getElem?_map,Array.getElem?_toList,Array.getElem?_modify]
 by_cases h:i=j
 ·subst h;cases ents[i]? <;> simp
 ·simp[h]
theorem modify_key_born (ents:Array MapEntry) (i:Nat) (k:Value):((ents.modify i fun e=>{e with key:=k}).toList.map (·.born))=ents.toList.map (·.born):=by
 apply List.ext_getElem?
 intro j
 simp only[List.getElem?_map,Array.getElem?_toList,Array.getElem?_modify]
 by_cases h:i=j
 ·subst h;cases ents[i]? <;> simp
 ·simp[h]
theorem modify_val_val (ents:Array MapEntry) (i:Nat) (v:Value):((ents.modify i fun e=>{e with val:=v}).toList.map (·.val))=(ents.toList.map (·.val)).set i v:=by
 apply List.ext_getElem?
 intro j
 simp only[List.getElem?_map,Array.getElem?_toList,Array.getElem?_modify,List.getElem?_set,List.length_map,Array.length_toList]
 by_cases h:i=j
 ·subst h
  by_cases hi:i < ents.size <;> simp[hi]
 ·simp[h]
theorem modify_val_key (ents:Array MapEntry) (i:Nat) (v:Value):((ents.modify i fun e=>{e with val:=v}).toList.map (·.key))=ents.toList.map (·.key):=by
 apply List.ext_getElem?
 intro j
 simp only[List.getElem?_map,Array.getElem?_toList,Array.getElem?_modify]
 by_cases h:i=j
 ·subst h;cases ents[i]? <;> simp
 ·simp[h]
theorem modify_val_born (ents:Array MapEntry) (i:Nat) (v:Value):((ents.modify i fun e=>{e with val:=v}).toList.map (·.born))=ents.toList.map (·.born):=by
 apply List.ext_getElem?
 intro j
 simp only[List.getElem?_map,Array.getElem?_toList,Array.getElem?_modify]
 by_cases h:i=j
 ·subst h;cases ents[i]? <;> simp
 ·simp[h]
theorem set_self {α:Type} {l:List α} {i:Nat} {a:α} (h:l[i]? = some a):l.set i a=l:=by
 apply List.ext_getElem?
 intro j
 rw[List.getElem?_set]
 by_cases e:i=j
 ·subst e
  have hi:=(List.getElem?_eq_some_iff.1 h).1
  simp only[if_true,hi,h]
 ·simp[e]
theorem entryStore_ok [Vars] (I:Inv w0 G h w) {m b x:AV} {mv bv xv:Value} (hm:Rv G m mv) (hb:Rv G b bv) (hxv:Rv G x xv) {h':zI} (hx:QK m b x h=some h') (t:TypeId) :
  ∃w',(Instr.entryStore t mv bv xv).run P w=.ok () w'∧Inv w0 G h' w':=by
 unfold QK at hx
 split at hx
 ·rename_i n k b
  split at hx
  ·rename_i clk bs es hn
   split at hx
   ·rename_i i hi
    split at hx
    ·rename_i k' y hy
     cases hx
     simp only[Rv] at hm hb
     obtain⟨bm,lo,tt,hr,rfl⟩:=hm
     obtain⟨rfl,_⟩:=hb
     obtain⟨b',ents,hr',M⟩:=I.obj n _ hn
     rw[hr] at hr';cases hr'
     have hg:=MapKept.run_getObj_map (P:=P) M.blk
     have hf:ents.findIdx? (fun e=>(e.born:Int) == b)=some i:=by
      rw[←M.born,List.findIdx?_map] at hi
      obtain⟨l⟩:=ents
      rw[List.findIdx?_toArray]
      exact hi
     refine⟨w.putObj bm (.map (ents.modify i fun e=>{e with val:=xv}) clk),?_,putMap I hn hr M _ _ _ _ ?_ ?_ ?_ M.lt⟩
     ·simp[Instr.entryStore,hg,asInt,asIntOf,hf,MapKept.run_setObj_map _ M.blk,World.putObj]
     ·rw[modify_val_key,M.keys,List.map_set,set_self]
      rw[List.getElem?_map,hy];rfl
     ·rw[modify_val_val,List.map_set]
      exact RvL.set M.vals i hxv
     ·rw[modify_val_born,M.born]
    ·cases hx
   ·cases hx
  ·cases hx
 ·cases hx
theorem mapEntry_ok [Vars] (I:Inv w0 G h w) {t:TypeId} {m k x:AV} {mv kv:Value} (hm:Rv G m mv) (hk:Rv G k kv) {h':zI} (hx:aMapEntry P t m k h=some (x,h')) :
  ∃cv w',(Instr.mapEntry t mv kv).run P w=.ok cv w'∧Inv w0 G h' w'∧Rv G x cv:=by
 unfold aMapEntry at hx
 split at hx
 ·rename_i kt et hT
  have hu:=qT hT
  split at hx
  ·rename_i kv0 hk0
   split at hx
   ·rename_i n
    split at hx
    ·rename_i clk bs es hn
     simp only[Rv] at hm
     obtain⟨b,lo,tt,hr,rfl⟩:=hm
     obtain⟨b',ents,hr',M⟩:=I.obj n _ hn
     rw[hr] at hr';cases hr'
     obtain⟨rfl,hchk⟩:=key_ok (w:=w) hk0 hk
     have hg:=MapKept.run_getObj_map (P:=P) M.blk
     have hc:=hchk false 9998
     split at hx
     ·rename_i hf
      simp only[Option.map_eq_some_iff,Prod.mk.injEq] at hx
      obtain⟨z,hz,rfl,rfl⟩:=hx
      obtain⟨zv,z1,z2⟩:=JS hz G w
      obtain⟨cr,h1,h2⟩:=qe (w:=w) hk0 hk M.keys M.vals hf
      cases cr with
      | some q=>exact h2.elim
      | none=>
       refine⟨.tuple #[zv,goInt clk],w.putObj b (.map (ents.push {key:=kv,val:=zv,born:=clk}) (clk + 1)),?_,putMap I hn hr M _ _ _ _ ?_ ?_ ?_ fun x hx=>?_,?_⟩
       ·simp[Instr.mapEntry,run_underlying hu,hg,hc,h1,z1,MapKept.run_setObj_map _ M.blk,World.putObj]
       ·simp[M.keys]
       ·simp only[List.map_append,Array.toList_push]
        exact RvL.append M.vals (by simp only[List.map_cons,List.map_nil,RvL];exact⟨_,_,rfl,z2,rfl⟩)
       ·simp[M.born]
       ·rcases List.mem_append.1 hx with h' | h'
        ·exact Nat.lt_succ_of_lt (M.lt x h')
        ·simp only[List.mem_singleton] at h';omega
       ·simp only[Rv,RvL];exact⟨_,rfl,_,_,rfl,z2,_,_,rfl,by simp[Value.oneCell',goInt],rfl⟩
     ·rename_i i y hf
      split at hx
      ·rename_i hsb
       split at hx
       ·rename_i bn k' y' hbn hy'
        cases hx
        obtain⟨cr,h1,h2⟩:=qe (w:=w) hk0 hk M.keys M.vals hf
        cases cr with
        | none=>exact h2.elim
        | some q=>
         obtain⟨j,v⟩:=q
         obtain⟨rfl,h4⟩:=h2
         have hkeep:(Instr.keyThatStays (((ents[i]?).map (·.key)).getD kv) kv).run P w=.ok kv w:=by
          have e1:((ents[i]?).map (·.key)).getD kv=(es.map (·.1)).getD i kv:=by
           rw[←M.keys,List.getD_eq_getElem?_getD,List.getElem?_map]
           simp
          rw[e1]
          unfold Instr.keyThatStays
          rw[if_pos hsb,Sem.run_pure]
         have hb0:((ents[i]?).map (·.born)).getD 0=bn:=by
          have:(ents.toList.map (·.born))[i]? = some bn:=by rw[M.born];exact hbn
          rw[List.getElem?_map] at this
          simp only[Array.getElem?_toList] at this
          rw[this];rfl
         refine⟨.tuple #[v,goInt bn],w.putObj b (.map (ents.modify i fun e=>{e with key:=kv}) clk),?_,putMap I hn hr M _ _ _ _ ?_ ?_ ?_ M.lt,?_⟩
         ·simp[Instr.mapEntry,run_underlying hu,hg,hc,h1,hkeep,MapKept.run_setObj_map _ M.blk,World.putObj]
          rw[←hb0]
          cases ents[i]? <;> simp
         ·rw[modify_key,M.keys,List.map_set]
         ·rw[modify_key_val,List.map_set]
          rw[set_self (show (es.map (·.2))[i]? = some y' by rw[List.getElem?_map,hy'];rfl)]
          exact M.vals
         ·rw[modify_key_born,M.born]
         ·simp only[Rv,RvL];exact⟨_,rfl,_,_,rfl,h4,_,_,rfl,by simp[Value.oneCell',goInt],rfl⟩
       ·cases hx
      ·cases hx
     ·cases hx
    ·cases hx
   ·cases hx
  ·cases hx
 ·cases hx
theorem Inv.allocImmF [Vars] {w0:World} {G:Gh} {h:zI} {w:World} (I:Inv w0 G h w) (c:Array Value) (e:TypeId) (f:Nat × Nat):Inv w0 (G.addImm w.heap.size c) h (w.alloc (.cells c e f))∧GLe G (G.addImm w.heap.size c):=by
 have hG:GLe G (G.addImm w.heap.size c):=⟨fun _ _ e=>e,fun a v e=>by
  have:=I.imm_lt e
  simp only[Gh.addImm]
  rw[if_neg (by omega)];exact e,rfl,rfl,fun _ e=>e⟩
 have hold:∀k,k < w.heap.size→(w.alloc (.cells c e f)).heap[k]? = w.heap[k]?:=fun k hk=>Below.heap_alloc w _ k hk
 have hnew:(w.alloc (.cells c e f)).heap[w.heap.size]? = some (.cells c e f):=World.alloc_heap_new w _
 refine⟨⟨I.below.alloc I.below.size _,fun a v ei=>?_,fun n o en=>?_,I.disj,fun n o r a v en hr ei hin=>?_,I.oth.keep rfl rfl rfl (KDL.alloc w _) (fun a v e=>by
  simp only[Gh.addImm] at e
  split at e
  ·rename_i hc;exact .inr (by rw[hc.1];exact I.below.size)
  ·exact .inl e) hG.imm⟩,hG⟩
 ·simp only[Gh.addImm] at ei
  split at ei
  ·rename_i hb
   obtain⟨hb1,hb2⟩:=hb
   have:a=⟨w.heap.size,a.off,none⟩:=by cases a;simp_all
   rw[this]
   simp only[World.cell?,hnew]
   simpa using ei
  ·rw[cell?_congr (hold _ (I.imm_lt ei))];exact I.imm a v ei
 ·refine (I.obj n o en).keep hG.v (by simp) (fun r hr a ha=>?_) (fun r hr _=>hold _ ((I.obj n o en).lt hr)) (fun r p' hr hp=>by rw[Zr (hold _ ((I.obj n o en).lt hr))];exact hp)
  have:=hold a.block (by rw[ha.1];exact (I.obj n o en).lt hr)
  exact⟨cell?_congr this,frozen?_congr this⟩
 ·simp only[Gh.addImm] at ei
  split at ei
  ·rename_i hb
   have:=(I.obj n o en).lt hr
   have:=hin.1
   omega
  ·exact I.sep n o r a v en hr ei hin
def ZP (s:ByteArray):List AV:=s.data.toList.map fun b=>iv .u8 b.toNat
theorem RvE_bytes {G:Gh} (b:Nat):∀(l:List UInt8) (i:Nat),(∀j x,l[j]? = some x→G.imm ⟨b,i + j,none⟩=some (.int .u8 x.toNat))→RvE G ⟨b,0,none⟩ 1 i (l.map fun b=>iv .u8 b.toNat)
 | [],_,_=>by simp[RvE]
 | x :: r,i,h=>by
  simp only[List.map_cons,RvE]
  refine⟨⟨rfl,.int .u8 x.toNat,by simp[Rv,Value.oneCell'],rfl,fun j v e=>?_⟩,RvE_bytes b r (i + 1) fun j y hy=>?_⟩
  ·have hj:j=0:=by
    have:=(List.getElem?_eq_some_iff.1 e).1
    simp[Value.cells] at this;exact this
   subst hj
   simp[Value.cells] at e
   subst e
   rw[z7,z7]
   simpa using h 0 x rfl
  ·have:=h (j + 1) y (by simpa using hy)
   rwa [show i + (j + 1)=i + 1 + j by omega] at this
theorem bytes_ok [Vars] (I:Inv w0 G h w) {src dst e:TypeId} (hs:P.underlying src=some .string) (hd:P.underlying dst=some (.slice e)) (he:P.underlying e=some (.int .u8)) (s:ByteArray) :
  ∃cv w' G',(convert src dst (.string s)).run P w=.ok cv w'∧G'.reg=G.reg∧GLe G G'∧Inv w0 G' h w'∧Rv G' (.fslc false false 1 (ZP s)) cv:=by
 have I1:Inv w0 G h w.drew:=I.drew
 obtain⟨I2,hle⟩:=I1.allocImmF (bytesRow s (grownCap w s.size 0 e)) e ((bytesRow s (grownCap w s.size 0 e)).size,(bytesRow s (grownCap w s.size 0 e)).size + 1)
 refine⟨_,_,G.addImm w.drew.heap.size (bytesRow s (grownCap w s.size 0 e)),run_bytes_of_string w src dst e s hs hd he,rfl,hle,I2,?_⟩
 have hl:(ZP s).length=s.size:=by
  simp only[ZP,List.length_map,Array.length_toList]
  rfl
 simp only[Rv]
 refine⟨some ⟨w.heap.size,0,none⟩,grownCap w s.size 0 e,by rw[hl],by rw[hl];exact grownCap_ge w s.size 0 e,by simp,by simp,fun _=>⟨_,rfl,?_⟩⟩
 refine RvE_bytes w.heap.size s.data.toList 0 fun j x hx=>?_
 show (if w.heap.size=w.drew.heap.size∧(none:Option Nat)=none then (bytesRow s (grownCap w s.size 0 e))[0 + j]? else G.imm ⟨w.heap.size,0 + j,none⟩)=_
 rw[if_pos ⟨rfl,rfl⟩]
 have hj:j < s.data.size:=by
  have:=(List.getElem?_eq_some_iff.1 hx).1
  simpa using this
 have hx2:s.data[j]? = some x:=by simpa using hx
 rw[Nat.zero_add,bytesRow,Array.getElem?_append_left (by simpa using hj),Array.getElem?_map,hx2]
 rfl
end
end Go.AM
namespace Go.AM
open Go.RowKit
def isUns (P:Program) (src dst:TypeId):Bool:=(match P.underlying src with | some .unsafePointer=>true | _=>false) || (match P.underlying dst with | some .unsafePointer=>true | _=>false)
def aUns (P:Program) (src dst:TypeId) (x:AV) (h:zI):Option AV:=match x with
 | .ptr n 0=>match h n with
  | some (.tcells e tot l)=>match P.underlying src,P.underlying dst with
   | some (.pointer t),some .unsafePointer=>match zo P t with
    | some sz=>if sz≠0∧0 < l.length then some x else none
    | none=>none
   | some .unsafePointer,some (.pointer u)=>match zo P u,tot with
    | some _,some c=>if liesAt P P.depth e (c / P.cellsOf e) 0 u 1 then some x else none
    | _,_=>none
   | _,_=>none
  | _=>none
 | _=>none
def qh (P:Program) (nm:Nat) (t u:TypeId) (d x:AV) (h:zI):Option (AV × zI):=match ZS P t,x with
 | some e,.c (.string b)=>match zo P e,ZC P e,zd P e with
  | some s,some by_,some z=>
   if s=1∧by_=1∧(cellsOf z).length=1∧(cellsOf z).all AV.scalar=true∧ZM P u=.string∧0 < b.size then
    match d with
    | .fslc true true _ []=>if b.size≤2 ^ 26 then some (.slc nm 0 b.size 1,h.upd nm (some (.tcells e none (ZP b)))) else none
    | .slc m 0 len 1=>match h m with
     | some (.tcells e' none c)=>if e'=e∧c.length=len∧len + b.size≤2 ^ 26 then
       some (.slc nm 0 (len + b.size) 1,(h.upd m none).upd nm (some (.tcells e none (c ++ ZP b)))) else none
     | _=>none
    | _=>none
   else none
  | _,_,_=>none
 | _,_=>none
def Jj (x:AV):Option AV:=match x with
 | .slc n off len _=>if 0 < len then some (.ptr n off) else none
 | .fslc true true _ []=>some (.c (.pointer none))
 | _=>none
def byteOf:AV→Option UInt8
 | .c (.int .u8 n)=>if 0≤n∧n < 256 then some n.toNat.toUInt8 else none
 | _=>none
def Z5:List AV→Option (List UInt8)
 | []=>some []
 | x :: r=>match byteOf x,Z5 r with
  | some b,some l=>some (b :: l)
  | _,_=>none
def Qr (P:Program) (pt:TypeId) (p n:AV) (h:zI):Option (AV × zI):=match P.underlying pt,p,n with
 | _,.c (.pointer none),.c (.int .i64 k)=>if k=0 then some (sv ByteArray.empty,h) else none
 | some (.pointer e),.ptr m 0,.c (.int .i64 k)=>match h m with
  | some (.tcells e' _ l)=>if e'=e∧P.cellsOf e=1∧0 < k∧k≤2 ^ 26∧k.toNat≤l.length then match Z5 (l.take k.toNat) with
    | some bs=>some (sv ⟨bs.toArray⟩,h.upd m none)
    | none=>none
   else none
  | _=>none
 | _,_,_=>none
section
variable {P : Program} {w0 : World} {G : Gh} {h : zI} {w : World} {nm : Nat}
theorem uns_ok [Vars] (I:Inv w0 G h w) {src dst:TypeId} {x:AV} {xv:Value} (hx:Rv G x xv) {y:AV} (h1:aUns P src dst x h=some y):∃cv,(convert src dst xv).run P w=.ok cv w∧Rv G y cv:=by
 unfold aUns at h1
 split at h1
 ·rename_i n
  split at h1
  ·rename_i e tot l hn
   obtain⟨⟨b,lo,t⟩,vs,g1,g2,g3,g4,g5⟩:=I.obj n _ hn
   simp only at g3 g4
   subst g3
   have hx0:=hx
   simp only[Rv] at hx
   obtain⟨b',lo',t',hr,rfl⟩:=hx
   rw[g1] at hr;cases hr
   have hlen:=g2.len
   simp only at hlen
   split at h1
   ·rename_i tt hu1 hu2
    split at h1
    ·rename_i sz hsz
     split at h1
     ·rename_i hc
      cases h1
      unfold zo at hsz
      simp only[Option.map_eq_some_iff] at hsz
      obtain⟨i,hi,rfl⟩:=hsz
      exact⟨_,Lib.run_to_unsafe w ⟨b,0 + 0,none⟩ hu1 hu2 hi hc.1 g4 (by simp only;omega),hx0⟩
     ·cases h1
    ·cases h1
   ·rename_i u hu1 hu2
    split at h1
    ·rename_i sz c hsz
     split at h1
     ·rename_i hc
      cases h1
      unfold zo at hsz
      simp only[Option.map_eq_some_iff] at hsz
      obtain⟨i,hi,rfl⟩:=hsz
      have ht:=g5 c rfl
      simp only at ht
      exact⟨_,Lib.run_from_unsafe w ⟨b,0 + 0,none⟩ hu1 hu2 hi g4 (by simp only;rw[ht];exact hc),hx0⟩
     ·cases h1
    ·cases h1
   ·cases h1
  ·cases h1
 ·cases h1
theorem RvL_bytes [Vars] (b:ByteArray):RvL G (ZP b) (Lib.strCells b):=by
 have:∀l:List UInt8,RvL G (l.map fun b=>iv .u8 b.toNat) (l.map fun b=>Value.int .u8 b.toNat):=by
  intro l
  induction l with
  | nil=>simp[RvL]
  | cons x r ih=>simp only[List.map_cons,RvL];exact⟨_,_,rfl,Rv_iv.2 rfl,ih⟩
 exact this _
theorem Q8 (b:ByteArray):(ZP b).all AV.scalar=true:=by
 simp only[ZP,List.all_map]
 exact List.all_eq_true.2 fun x _=>rfl
theorem jZ (b:ByteArray):(ZP b).length=b.size:=by simp only[ZP,List.length_map,Array.length_toList];rfl
theorem Qd {t u ty e:TypeId} {i:TypeInfo} (ht:P.underlying t=some (.slice e)) (hu:P.underlying u=some .string) (hi:P.info? e=some i) (hs1:i.size=1) (b sLen sCap:Nat) (s:ByteArray) (hroom:sLen + s.size≤sCap)
  (hc:∀j,j < s.size→(w.cell? ⟨b,sLen + j,none⟩).isSome=true) (hf:∀j,j < s.size→w.frozen? ⟨b,sLen + j,none⟩=false) :
  (Builtin.append_ #[t,u] ty #[.slice (some ⟨b,0,none⟩) sLen sCap,.string s]).run P w=.ok (.slice (some ⟨b,0,none⟩) (sLen + s.size) sCap) (w.setCells b sLen (Lib.strCells s)):=by
 have hst:=run_storeCells_cells (P:=P) b sLen (Lib.strCells s) 0 w (by simpa [Lib.strCells_length] using hc) (by simpa [Lib.strCells_length] using hf) (Lib.strCells_oneCell s)
 simp only[Nat.add_zero] at hst
 have hfs:=Lib.run_firstCells_string (P:=P) w 1 s
 simp[Builtin.append_,run_underlying ht,run_underlying hu,sizeOf,typeInfo,hi,hs1,Builtin.lenOf,hroom,hfs,Addr.add_lit,hst]
theorem appStr_ok [Vars] (I:Inv w0 G h w) (hnm:G.reg nm=none) {t u ty:TypeId} {d x:AV} {dv xv:Value} (hd:Rv G d dv) (hxv:Rv G x xv) {r:AV} {h':zI} (hx:qh P nm t u d x h=some (r,h')) :
  ∃cv w' G',(Builtin.append_ #[t,u] ty #[dv,xv]).run P w=.ok cv w'∧(∀k,k≠nm→G'.reg k=G.reg k)∧GLe G G'∧Inv w0 G' h' w'∧Rv G' r cv:=by
 unfold qh at hx
 split at hx
 ·rename_i e b he
  simp only[Rv] at hxv
  obtain⟨rfl,_⟩:=hxv
  split at hx
  ·rename_i s by_ z hs hb hz
   split at hx
   ·rename_i hc
    obtain⟨rfl,rfl,hz1,hzs,hku,hb0⟩:=hc
    obtain⟨i,hi,his⟩:=info_of_sz hs
    obtain⟨i',hi',hib⟩:∃i,P.info? e=some i∧i.bytes=1:=by simpa only[ZC,Option.map_eq_some_iff] using hb
    rw[hi] at hi';cases hi'
    obtain⟨zv,hzi⟩:∃zv,i.zero=some zv∧z=jN zv:=by
     simp only[zd,hi,Option.bind_some,Option.map_eq_some_iff] at hz
     obtain⟨v,h1,h2⟩:=hz;exact⟨v,h1,h2.symm⟩
    have hzr:Rv G z zv:=hzi.2 ▸ jy G zv
    have hzl:=(hzr.cells hzs).length
    simp only[Array.length_toList] at hzl
    have ht:=und_eltOf he
    have hu:P.underlying u=some .string:=by
     obtain⟨d,h1,h2⟩:=kd_und hku (by simp);simp only at h2;rw[h1,h2]
    have e26:(2:Nat) ^ 26=67108864:=by decide
    rw[e26] at hx
    have hsl:=Lib.strCells_length b
    have fresh:∀(olds:List Value) (ol:List AV) (sLen sCap:Nat),RvL G ol olds→ol.all AV.scalar=true→olds.length=sLen→sLen + b.size≤sCap→
      ∀(h2:zI),Inv w0 G h2 w.drew→
      Inv w0 (G.set nm (w.heap.size,0,sCap)) (h2.upd nm (some (.tcells e none (ol ++ ZP b))))
       (w.drew.alloc (.cells (olds.toArray ++ (Lib.strCells b).toArray ++ Builtin.zeroCells zv.cells (sCap - (sLen + b.size))) e))∧
      Rv (G.set nm (w.heap.size,0,sCap)) (.slc nm 0 (sLen + b.size) 1) (.slice (some ⟨w.heap.size,0,none⟩) (sLen + b.size) sCap):=by
     intro olds ol sLen sCap ho hos hol hcap h2 I2
     have hsz:(olds.toArray ++ (Lib.strCells b).toArray ++ Builtin.zeroCells zv.cells (sCap - (sLen + b.size))).size=sCap:=by
      simp only[Array.size_append,List.size_toArray,size_zeroCells,hol,hsl,hzl,hz1];omega
     have I3:=I2.allocCells hnm (olds.toArray ++ (Lib.strCells b).toArray ++ Builtin.zeroCells zv.cells (sCap - (sLen + b.size))) e (ol ++ ZP b) (olds ++ Lib.strCells b) (RvL.append ho (RvL_bytes b)) (fun j v ej=>by
      rw[←Array.getElem?_toList]
      simp only[Array.toList_append]
      rw[List.getElem?_append_left (by simpa using (List.getElem?_eq_some_iff.1 ej).1)]
      exact ej) (by simp only[List.all_append,Bool.and_eq_true];exact⟨hos,Q8 b⟩)
     rw[hsz] at I3
     have I4:=I3.retype (e:=e) (tot:=none) (zD _ _ _) Gh.set_same (by simp only[World.shape?,World.alloc_heap_new];rw[hsz]) (fun c hc=>by cases hc)
     rw[qr] at I4
     refine⟨I4,?_⟩
     simp only[Rv]
     exact⟨_,_,_,sCap,Gh.set_same,rfl,hcap,by omega,by omega⟩
    split at hx
    ·-- nil
     split at hx
     ·rename_i hlim
      simp only[Option.some.injEq,Prod.mk.injEq] at hx
      obtain⟨rfl,rfl⟩:=hx
      simp only[Rv] at hd
      obtain⟨da,dcap,rfl,k1,k2,k3,k4⟩:=hd
      obtain⟨rfl,rfl⟩:=k3 trivial
      have hrun:=run_append_nil_string (P:=P) w t u ty e i zv ht hu hi hzi.1 b hb0 (by omega) (by rw[hib];omega)
      obtain⟨f1,f2⟩:=fresh [] [] 0 (grownCap w b.size 0 e) (by simp[RvL]) (by simp) (by simp) (by simpa using grownCap_ge w b.size 0 e) h I.drew
      simp only[Nat.zero_add,List.nil_append] at f1 f2
      refine⟨_,_,_,hrun,fun k hk=>Gh.set_ne hk,Gh.le_set hnm,?_,f2⟩
      have ec:(s:ByteArray)→(s.data.map (fun b=>Value.int .u8 b.toNat)) = #[] ++ (Lib.strCells s).toArray:=fun s=>by apply Array.ext';simp[Lib.strCells]
      rw[ec];exact f1
     ·cases hx
    ·rename_i m len
     split at hx
     ·rename_i e' c hm
      split at hx
      ·rename_i hc2
       obtain⟨rfl,hcl,hlim⟩:=hc2
       simp only[Option.some.injEq,Prod.mk.injEq] at hx
       obtain⟨rfl,rfl⟩:=hx
       simp only[Rv] at hd
       obtain⟨g,lo,tt,cap,hr,rfl,k1,k2,k3⟩:=hd
       obtain⟨r',us,hr',ok,q3,q4,q5⟩:=I.obj m _ hm
       rw[hr] at hr';cases hr'
       simp only at q3 q4
       subst q3
       have hul:=ok.rel.length
       have hok:=ok.len
       simp only at hok
       have hmn:m≠nm:=fun e=>by rw[e,hnm] at hr;cases hr
       have I1:=I.untype hm
       simp only[Nat.zero_add] at *
       by_cases hroom:len + b.size≤cap
       ·have hrun:=Qd (P:=P) (w:=w) (ty:=ty) ht hu hi his g len cap b hroom
         (fun j hj=>by have:=ok.some (len + j) (by simp only;omega);simpa using this) (fun j hj=>by have:=ok.free (len + j) (by simp only;omega);simpa using this)
        have g2:=I1.store (zD _ _ _) hr len (ZP b) (Lib.strCells b) (RvL_bytes b) (Q8 b) (by omega) (by rw[jZ];simp only;omega)
        rw[qr] at g2
        have hsp:Za c len (ZP b)=c ++ ZP b:=by
         simp only[Za]
         rw[List.drop_eq_nil_of_le (by rw[jZ];omega),List.append_nil,←hcl,List.take_length]
        rw[hsp] at g2
        simp only[Nat.zero_add] at g2
        have g3:=g2.rename (nm:=nm) hnm (zD _ _ _) hr (off:=0) (by omega)
        rw[qr,List.drop_zero] at g3
        simp only[Nat.add_zero,Nat.sub_zero] at g3
        have g4:=g3.retype (e:=e') (tot:=none) (zD _ _ _) Gh.set_same (by rw[jx];exact q4) (fun c hc=>by cases hc)
        rw[qr] at g4
        refine⟨_,_,G.set nm (g,0,tt),hrun,fun k hk=>Gh.set_ne hk,Gh.le_set hnm,g4,?_⟩
        simp only[Rv]
        exact⟨g,0,tt,cap,Gh.set_same,by simp,hroom,by omega,by omega⟩
       ·have hrun:=Lib.run_append_grow_string (P:=P) w t u ty e' i zv ht hu hi hzi.1 ⟨g,0,none⟩ len cap us (by rw[his];omega) (fun j v ej=>by
          have:=ok.val _ _ ej
          rw[z7];exact this) b (by omega) (by omega) (by rw[hib];exact growslice_fits (by omega) (by omega))
        obtain⟨f1,f2⟩:=fresh us c len (grownCap w (len + b.size) cap e') ok.rel ok.sc (by omega) (grownCap_ge w _ _ e') (h.upd m none) (I.drop m).drew
        exact⟨_,_,_,hrun,fun k hk=>Gh.set_ne hk,Gh.le_set hnm,f1,f2⟩
      ·cases hx
     ·cases hx
    ·cases hx
   ·cases hx
  ·cases hx
 ·cases hx
theorem sliceData_ok {x:AV} {xv:Value} (hx:Rv G x xv) {y:AV} (h1:Jj x=some y) (ts:Array TypeId) (ty:TypeId):∃cv,(Builtin.unsafeSliceData_ ts ty #[xv]).run P w=.ok cv w∧Rv G y cv:=by
 unfold Jj at h1
 split at h1
 ·rename_i n off len s
  split at h1
  ·rename_i hl
   cases h1
   simp only[Rv] at hx
   obtain⟨b,lo,t,cap,hr,rfl,k1,_⟩:=hx
   refine⟨_,Lib.run_unsafeSliceData_row w ts ty ⟨b,lo + off,none⟩ len cap (by omega),?_⟩
   simp only[Rv]
   exact⟨b,lo,t,hr,rfl⟩
  ·cases h1
 ·cases h1
  simp only[Rv] at hx
  obtain⟨a,cap,rfl,_,_,k2,_⟩:=hx
  obtain⟨rfl,rfl⟩:=k2 trivial
  exact⟨_,Lib.run_unsafeSliceData_nil w ts ty _ _,by simp[Rv,Value.oneCell']⟩
 ·cases h1
theorem heap_freeze (p:Addr) (n k:Nat) (hk:k≠p.block):(w.freeze p n).heap[k]? = w.heap[k]?:=by
 unfold World.freeze
 split
 ·rfl
 ·simp only[Array.getElem?_modify,if_neg (Ne.symm hk)]
theorem qA (p:Addr) (n k:Nat) (o:Obj) (ho:w.heap[k]? = some o) (hc:∀c e f,o≠.cells c e f):(w.freeze p n).heap[k]? = some o:=by
 unfold World.freeze
 split
 ·exact ho
 ·simp only[Array.getElem?_modify,ho]
  split
  ·cases o <;> first | rfl | exact absurd rfl (hc _ _ _)
  ·rfl
theorem cell_freeze (p:Addr) (n:Nat) (a:Addr):(w.freeze p n).cell? a=w.cell? a:=by
 unfold World.freeze
 split
 ·rfl
 ·simp only[World.cell?,Array.getElem?_modify]
  cases hb:w.heap[a.block]? with
  | none=>simp
  | some o=>by_cases hk:p.block=a.block <;> cases o <;> simp[hk]
theorem shape_freeze (p:Addr) (n:Nat) (k:Nat):(w.freeze p n).shape? k=w.shape? k:=by
 unfold World.freeze
 split
 ·rfl
 ·simp only[World.shape?,Array.getElem?_modify]
  cases hb:w.heap[k]? with
  | none=>simp
  | some o=>by_cases hk:p.block=k <;> cases o <;> simp[hk]
theorem QY (p:Addr) (n:Nat):(w.freeze p n).heap.size=w.heap.size:=by
 unfold World.freeze
 split
 ·rfl
 ·simp
theorem ObjOk.there {m:Nat} {p:AObj} (ok:ObjOk w0 G w m p) {r:Nat × Nat × Nat} (hr:G.reg m=some r) {a:Addr} (hin:InReg r a) {c:Array Value} {e:TypeId} {f:Nat × Nat} (hb:w.heap[a.block]? = some (.cells c e f)):(w.cell? ⟨a.block,a.off,none⟩).isSome=true:=by
 obtain⟨h1,h2,h3⟩:=hin
 have cells:∀(l:List AV) (vs:List Value),CellsOk w0 G w r l vs→(w.cell? ⟨a.block,a.off,none⟩).isSome=true:=fun l vs ok=>by
  have:=ok.some (a.off - r.2.1) (by omega)
  rw[h1,show a.off=r.2.1 + (a.off - r.2.1) by omega];exact this
 cases p with
 | cells l=>obtain⟨r',vs,g1,g2⟩:=ok;rw[hr] at g1;cases g1;exact cells l vs g2
 | tcells e tot l=>obtain⟨r',vs,g1,g2,_⟩:=ok;rw[hr] at g1;cases g1;exact cells l vs g2
 | map clk bs es=>obtain⟨b,ents,g1,g2⟩:=ok;rw[hr] at g1;cases g1;simp only at h1;rw[h1,g2.blk] at hb;cases hb
 | chan cap buf closed=>obtain⟨b,vs,s,r',g1,_,g3,_⟩:=ok;rw[hr] at g1;cases g1;simp only at h1;rw[h1,g3] at hb;cases hb
 | loop st pend nt s ps asg body=>obtain⟨b,fn,tmps,D,g1,_,g3,_⟩:=ok;rw[hr] at g1;cases g1;simp only at h1;rw[h1,g3] at hb;cases hb
 | iter m since c0 seen=>obtain⟨b,bm,sa,g1,_,_,g3,_⟩:=ok;rw[hr] at g1;cases g1;simp only at h1;rw[h1,g3] at hb;cases hb
theorem Inv.freezeW [Vars] (I:Inv w0 G h w) {n:Nat} {e:TypeId} {tot:Option Nat} {l:List AV} (hn:h n=some (.tcells e tot l)) {b t:Nat} (hr:G.reg n=some (b,0,t)) (hs:w.shape? b=some (e,t)) (k:Nat) :
  Inv w0 G (h.upd n none) (w.freeze ⟨b,0,none⟩ k):=by
 have hbase:=(I.obj n _ hn).base hr
 simp only at hbase
 obtain⟨c,f,hcb,hct⟩:∃c f,w.heap[b]? = some (.cells c e f)∧c.size=t:=by
  unfold World.shape? at hs
  split at hs
  ·rename_i c e' f hb;cases hs;exact⟨c,f,hb,rfl⟩
  ·cases hs
 have old:∀m p,h.upd n none m=some p→m≠n∧h m=some p:=fun m p e=>by
  by_cases hm:m=n
  ·subst hm;rw[zD] at e;cases e
  ·rw[zB _ _ _ _ hm] at e;exact⟨hm,e⟩
 refine⟨I.below.trans ⟨⟨?_,?_,?_,by rw[QY];exact Nat.le_refl _,fun k' hk=>heap_freeze _ _ _ (by simp only;omega)⟩,fun _=>by unfold World.freeze;split <;> exact Nat.le_refl _⟩,fun a v e=>by rw[cell_freeze];exact I.imm a v e,fun m p e=>?_,fun m k p q r s hne e1 e2=>I.disj m k p q r s hne (old m p e1).2 (old k q e2).2,fun m p r a v e=>I.sep m p r a v (old m p e).2,I.oth.keep rfl rfl rfl (fun k' o ho hd=>qA _ _ _ _ ho (fun c e f hc=>by rw[hc] at hd;cases hd))⟩
 ·unfold World.freeze;split <;> rfl
 ·unfold World.freeze;split <;> rfl
 ·unfold World.freeze;split <;> rfl
 ·obtain⟨hm,e⟩:=old m p e
  have ok:=I.obj m p e
  refine ok.keep (VLe.refl G) (by rw[QY];exact Nat.le_refl _) (fun r hr' a ha=>⟨cell_freeze _ _ _,?_⟩) (fun r hr' hne=>?_) (fun r p' _ hp=>by rw[shape_freeze];exact hp)
  ·by_cases hab:a.block=b
   ·exfalso
    have hth:=ok.there hr' ha (by rw[hab];exact hcb)
    have hlt:a.off < c.size:=by
     simp only[World.cell?,hab,hcb] at hth
     simp only[Option.isSome_none,Bool.false_eq_true,if_false] at hth
     obtain⟨v,hv⟩:=Option.isSome_iff_exists.1 hth
     exact (Array.getElem?_eq_some_iff.1 hv).1
    rcases I.disj m n p _ r _ hm e hn hr' hr with h' | h' | h'
    ·exact h' (by rw[←ha.1,hab])
    ·have:=ha.2.2;simp only at h';omega
    ·have:=ha.2.1;simp only at h';omega
   ·exact frozen?_congr (heap_freeze _ _ _ hab)
  ·cases ho:w.heap[r.1]? with
   | none=>
    rw[Array.getElem?_eq_none_iff] at ho ⊢
    rw[QY];exact ho
   | some o=>exact qA _ _ _ _ ho (fun c e f hc=>hne c e f (by rw[ho,hc]))
theorem bytesOf_ok:∀(l:List AV) (bs:List UInt8) (vs:List Value),Z5 l=some bs→RvL G l vs→vs=bs.map fun b=>Value.int .u8 b.toNat
 | [],bs,vs,h,hv=>by simp only[Z5,Option.some.injEq] at h;subst h;simpa [RvL] using hv
 | x :: r,bs,vs,h,hv=>by
  simp only[Z5] at h
  split at h
  ·rename_i b l hb hl
   cases h
   simp only[RvL] at hv
   obtain⟨v,vr,rfl,h1,h2⟩:=hv
   rw[bytesOf_ok r l vr hl h2]
   unfold byteOf at hb
   split at hb
   ·rename_i n
    split at hb
    ·rename_i hn
     cases hb
     simp only[Rv] at h1
     rw[h1.1]
     simp only[List.map_cons,List.cons.injEq,Value.int.injEq,true_and,and_true]
     have:n.toNat < 256:=by omega
     simp[Nat.toUInt8,UInt8.toNat_ofNat',Nat.mod_eq_of_lt this];omega
    ·cases hb
   ·cases hb
  ·cases h
theorem Jt:∀(l:List AV) (bs:List UInt8),Z5 l=some bs→bs.length=l.length
 | [],bs,h=>by simp only[Z5,Option.some.injEq] at h;subst h;rfl
 | x :: r,bs,h=>by
  simp only[Z5] at h
  split at h
  ·rename_i b l hb hl;cases h;simp[Jt r l hl]
  ·cases h
theorem RvE_out [Vars] {ad:Addr}:∀(l:List AV) (i:Nat) (bs:List UInt8),Z5 l=some bs→RvE G ad 1 i l→∀j (b:UInt8),bs[j]? = some b→G.imm (ad.add (i + j))=some (.int .u8 b.toNat)
 | [],i,bs,h,_,j,b,hj=>by simp only[Z5,Option.some.injEq] at h;subst h;simp at hj
 | x :: r,i,bs,h,hv,j,b,hj=>by
  have h0:=h
  simp only[Z5] at h
  split at h
  ·rename_i b0 l0 hb hl
   cases h
   simp only[RvE] at hv
   obtain⟨⟨_,v,h1,_,h3⟩,h4⟩:=hv
   cases j with
   | zero=>
    simp only[List.getElem?_cons_zero,Option.some.injEq] at hj
    subst hj
    have hv1:=bytesOf_ok [x] [b0] [v] (by simp only[Z5,hb]) (by simp only[RvL];exact⟨v,[],rfl,h1,rfl⟩)
    simp only[List.map_cons,List.map_nil,List.cons.injEq,and_true] at hv1
    subst hv1
    have:=h3 0 (.int .u8 b0.toNat) rfl
    rwa [jQ,Nat.add_zero] at this
   | succ k=>
    simp only[List.getElem?_cons_succ] at hj
    have:=RvE_out r (i + 1) l0 hl h4 k b hj
    rwa [show i + 1 + k=i + (k + 1) by omega] at this
  ·cases h
theorem unsStr_ok [Vars] (I:Inv w0 G h w) {pt it ty:TypeId} {p n:AV} {pv nv:Value} (hp:Rv G p pv) (hnv:Rv G n nv) {r:AV} {h':zI} (hx:Qr P pt p n h=some (r,h')) :
  ∃cv w',(Builtin.unsafeString_ #[pt,it] ty #[pv,nv]).run P w=.ok cv w'∧Inv w0 G h' w'∧Rv G r cv:=by
 unfold Qr at hx
 split at hx
 ·rename_i k _
  split at hx
  ·rename_i hk
   subst hk
   simp only[Option.some.injEq,Prod.mk.injEq] at hx
   obtain⟨rfl,rfl⟩:=hx
   simp only[Rv] at hp hnv
   obtain⟨rfl,_⟩:=hp
   obtain⟨rfl,_⟩:=hnv
   exact⟨_,_,Lib.run_unsafeString_none w pt it ty none,I,Rv_sv.2 rfl⟩
  ·cases hx
 ·rename_i e m k hu
  split at hx
  ·rename_i e' tot l hm
   split at hx
   ·rename_i hc
    obtain⟨rfl,hc1,hk0,hk26,hkl⟩:=hc
    split at hx
    ·rename_i bs hbs
     simp only[Option.some.injEq,Prod.mk.injEq] at hx
     obtain⟨rfl,rfl⟩:=hx
     obtain⟨⟨b,lo,t⟩,vs,g1,g2,g3,g4,g5⟩:=I.obj m _ hm
     simp only at g3 g4
     subst g3
     simp only[Rv] at hp hnv
     obtain⟨b',lo',t',hr,rfl⟩:=hp
     rw[g1] at hr;cases hr
     obtain⟨rfl,_⟩:=hnv
     have hlen:=g2.len
     have hbl:=Jt _ _ hbs
     simp only[List.length_take] at hbl
     simp only at hlen
     have e26:(2:Int) ^ 26=67108864:=by decide
     rw[e26] at hk26
     have hkn:(k:Int)=((bs.length:Nat):Int):=by omega
     have hvs:=bytesOf_ok _ _ _ hbs (g2.rel.take k.toNat)
     have hrun:=Lib.run_unsafeString_row (P:=P) w pt it ty e' hu hc1 b t g4 bs (fun e0=>by rw[e0] at hbl;simp at hbl;omega) (by omega) (by omega) (fun j x hj=>by
      have hjl:j < bs.length:=(List.getElem?_eq_some_iff.1 hj).1
      have:vs[j]? = some (.int .u8 x.toNat):=by
       have h2:(vs.take k.toNat)[j]? = some (.int .u8 x.toNat):=by rw[hvs,List.getElem?_map,hj];rfl
       rw[List.getElem?_take] at h2
       split at h2
       ·exact h2
       ·cases h2
      have:=g2.val j _ this
      rw[z7]
      simpa using this)
     rw[hkn]
     exact⟨_,_,hrun,I.freezeW hm g1 g4 bs.length,Rv_sv.2 rfl⟩
    ·cases hx
   ·cases hx
  ·cases hx
 ·cases hx
end
end Go.AM
namespace Go.AM
open Go.RowKit
def aMinMax (mx:Bool) (x y:AV):Option AV:=
 match x,y with
 | .c (.int k a),.c (.int _ b)=>some (iv k (if mx then (if b > a then b else a) else (if b < a then b else a)))
 | _,_=>none
def Jo (P:Program) (nm:Nat) (b:Builtin) (ts:List TypeId) (xs:List AV) (h:zI):Option (AV × zI):=
 match b,ts,xs with
 | .len,[t],[x]=>(aLen P t x h).map (·,h)
 | .append,[t,t'],[d,x]=>if t=t' then Z6 P nm t d x h else qh P nm t t' d x h
 | .unsafeSliceData,_,[x]=>(Jj x).map (·,h)
 | .unsafeString,[pt,_],[p,n]=>Qr P pt p n h
 | .copy,[t,_],[d,x]=>aCopy P t d x h
 | .clear,[t],[x]=>((aClear P t x h).or (aClearMap P t x h)).map (.undef,·)
 | .delete,[t,_],[m,k]=>(aDelete P t m k h).map (.undef,·)
 | .max,_,[x,y]=>(aMinMax true x y).map (·,h)
 | .min,_,[x,y]=>(aMinMax false x y).map (·,h)
 | .close,_,[x]=>aClose x h
 | _,_,_=>none
def aConvert (P:Program) (src dst:TypeId) (x:AV):Option AV:=
 match x,P.underlying src,P.underlying dst with
 | .c (.int _ n),some _,some (.int k)=>some (iv k (k.wrap n))
 | .c (.string s),some .string,some .string=>some (sv s)
 | .c (.string s),some .string,some (.slice e)=>match P.underlying e with
  | some (.int .u8)=>some (.fslc false false 1 (ZP s))
  | _=>none
 | .fslc false _ 1 l,some (.slice e),some .string=>match P.underlying e with
  | some (.int .u8)=>(Z5 l).map fun bs=>sv ⟨bs.toArray⟩
  | _=>none
 | _,_,_=>none
def aNeg (x:AV):Option AV:=
 match x with
 | .c (.int k n)=>some (iv k (k.wrap (0 - n)))
 | _=>none
def aXorU (x:AV):Option AV:=
 match x with
 | .c (.int k n)=>qu .xor k (if k.signed then -1 else k.max) n
 | _=>none
def evP [Vars] (s:List (Nat × AV)):List (Nat × Operand)→List (Nat × AV)
 | []=>[]|(i,x) :: r=>(i,ev s x) :: evP s r
theorem evP_eq [Vars] (s:List (Nat × AV)):∀l:List (Nat × Operand),evP s l=l.map fun p=>(p.1,ev s p.2)
 | []=>rfl|(i,x) :: r=>by simp[evP,evP_eq s r]
def zc [Vars] (P:Program) (nm:Nat) (op:Op) (s:List (Nat × AV)) (h:zI):Option (AV × zI):=
 match op with
 | .move x | .assign x=>some (ev s x,h)
 | .pick c a b=>match ev s c with
  | .c (.bool t)=>some (if t then ev s a else ev s b,h)
  | _=>none
 | .alloc t=>match zd P t with
  | some z=>if (cellsOf z).all AV.scalar then some (.ptr nm 0,h.upd nm (some (if Vars.typed.contains t then .tcells t (some (cellsOf z).length) (cellsOf z) else .cells (cellsOf z)))) else none
  | none=>none
 | .box _ x=>if (cellsOf (ev s x)).all AV.scalar then some (.ptr nm 0,h.upd nm (some (.cells (cellsOf (ev s x))))) else none
 | .build t ps=>(aBuild P t (evP s ps.toList)).map (·,h)
 | .buildSlice t n ps=>(J3 P t n (evP s ps.toList)).map (·,h)
 | .load t a=>match lay P t,ev s a with
  | some sg,.ptr n off=>match h n with
   | some (.cells l)=>(jB sg (l.drop off)).map (·,h)
   | some (.tcells _ _ l)=>(jB sg (l.drop off)).map (·,h)
   | _=>none
  | some sg,.fptr l=>(jB sg l).map (·,h)
  | _,_=>none
 | .store t a x=>match zo P t,ev s a with
  | some k,.ptr n off=>match h n with
   | some (.cells l)=>if (cellsOf (ev s x)).all AV.scalar=true∧(cellsOf (ev s x)).length=k∧off + k≤l.length then
     some (.undef,h.upd n (some (.cells (Za l off (cellsOf (ev s x)))))) else none
   | some (.tcells e tot l)=>if (cellsOf (ev s x)).all AV.scalar=true∧(cellsOf (ev s x)).length=k∧off + k≤l.length then
     some (.undef,h.upd n (some (.tcells e tot (Za l off (cellsOf (ev s x)))))) else none
   | _=>none
  | _,_=>none
 | .nilCheck x=>match ev s x with
  | .ptr n off=>some (.ptr n off,h)
  | .fptr l=>some (.fptr l,h)
  | .func (.func f) a b=>some (.func (.func f) a b,h)
  | _=>none
 | .binOp op t x y _=>((aBin P op t (ev s x) (ev s y)).or (q9 P op t (isC x y) (ev s x) (ev s y))).map (·,h)
 | .makeInterface t x=>(Jq P t (ev s x)).map (·,h)
 | .typeAssert x _ t ok=>(aAssert P (ev s x) t ok).map (·,h)
 | .mapEntry t m k=>aMapEntry P t (ev s m) (ev s k) h
 | .entryStore _ m b x=>(QK (ev s m) (ev s b) (ev s x) h).map (.undef,·)
 | .unOp .not _ x=>match ev s x with
  | .c (.bool b)=>some (bv (!b),h)
  | _=>none
 | .unOp .neg _ x=>(aNeg (ev s x)).map (·,h)
 | .unOp .xor _ x=>(aXorU (ev s x)).map (·,h)
 | .convert a b x=>if isUns P a b then (aUns P a b (ev s x) h).map (·,h) else (aConvert P a b (ev s x)).map (·,h)
 | .makeFunc fn a b=>some (.func fn (a.toList.map (ev s)) (b.toList.map (ev s)),h)
 | .makeSlice t n m=>match ev s n,ev s m with
  | .c (.int _ n),.c (.int _ m)=>match aMake P t n m with
   | some (sz,l,k)=>some (.slc nm 0 k sz,h.upd nm (some (.cells l)))
   | none=>none
  | _,_=>none
 | .slice t x lo hi mx=>((aSlice P t (ev s x) (lo.map (ev s)) (hi.map (ev s)) (mx.map (ev s))).or (if hi.isSome then Qv P t (ev s x) (lo.map (ev s)) (hi.map (ev s)) (mx.map (ev s)) h else none)).map (·,h)
 | .fieldAddr t x f=>match zt P t f with
  | some (o,z)=>if z=0 then none else match ev s x with
   | .ptr n off=>some (.ptr n (off + o),h)
   | .fptr l=>some (.fptr (l.drop o),h)
   | _=>none
  | none=>none
 | .indexAddr t x i=>match ZS P t,ev s i with
  | some e,.c (.int _ i)=>match ev s x with
   | .fslc _ _ z l=>if zo P e=some z∧0≤i then match l[i.toNat]? with
     | some y=>some (.fptr (cellsOf y),h)
     | none=>none
    else none
   | .slc n off len z=>if zo P e=some z∧0≤i∧i < len then some (.ptr n (off + i.toNat * z),h) else none
   | _=>none
  | _,_=>(QN P t (ev s x) (ev s i)).map (·,h)
 | .index t x i=>match ev s x,ev s i with
  | .c (.string b),.c (.int _ i)=>if ZM P t=.string∧0≤i then match b[i.toNat]? with
    | some u=>some (iv .u8 u.toNat,h)
    | none=>none
   else none
  | _,_=>(aIdxArr P t (ev s x) (ev s i)).map (·,h)
 | .extract x i=>match ev s x with
  | .tup vs=>(vs[i]?).map (·,h)
  | _=>none
 | .makeMap _ none=>some (.map nm,h.upd nm (some (.map 0 [] [])))
 | .makeChan t n=>aMakeChan P nm t (ev s n) h
 | .lookup t m k ok=>(aLookup P t (ev s m) (ev s k) ok h).map (·,h)
 | .mapUpdate t m k x=>(aMapPut P t (ev s m) (ev s k) (ev s x) h).map (.undef,·)
 | .insert t m k x=>(aMapPut P t (ev s m) (ev s k) (ev s x) h).map (.undef,·)
 | .range t m=>aRange P nm t (ev s m) h
 | .entry it=>(aEntry (ev s it) h).map (·,h)
 | .call {callee:=.builtin b,args,argTypes}=>Jo P nm b argTypes.toList (args.toList.map (ev s)) h
 | _=>none
section
variable {P : Program} {w0 : World} {G : Gh} {h : zI} {w : World} {nm : Nat} {s : List (Nat × AV)} {a : Act}
theorem StepOk.of_value [Vars] {w0:World} {G:Gh} {nm:Nat} {v:AV} {h:zI} {w:World} (I:Inv w0 G h w) {r:Sem Value} (hh:∃cv,r.run P w=.ok cv w∧Rv G v cv) :
  StepOk w0 G nm ((do pure (Next.value (←r)):Sem Next).run P w) v h:=by
 obtain⟨cv,h1,h2⟩:=hh
 simp only[Sem.run_bind,h1,Result.andThen_ok,Sem.run_pure]
 exact StepOk.value I h2
theorem JH [Vars] (hs:∀x,Rv G (ev s x) (a.eval x)):∀l:List Operand,RvL G (l.map (ev s)) (l.map a.eval)
 | []=>by simp[RvL]
 | x :: r=>by simp only[List.map_cons,RvL];exact⟨_,_,rfl,hs x,JH hs r⟩
theorem Qp [Vars] (hs:∀x,Rv G (ev s x) (a.eval x)):∀o:Option Operand,RvO G (o.map (ev s)) (o.map a.eval)
 | none=>.none
 | some x=>.some (hs x)
theorem RvP_map [Vars] (hs:∀x,Rv G (ev s x) (a.eval x)):∀l:List (Nat × Operand),RvP G (l.map fun p=>(p.1,ev s p.2)) (l.map fun p=>(p.1,a.eval p.2))
 | []=>.nil|(_,x) :: r=>.cons (hs x) (RvP_map hs r)
theorem builtin_ok [Vars] (I:Inv w0 G h w) (hnm:G.reg nm=none) {b:Builtin} {ts:Array TypeId} {ty:TypeId} {cs:Array Bool} {xs:List AV} {vs:Array Value} (hv:RvL G xs vs.toList) {r:AV} {h':zI}
  (hx:Jo P nm b ts.toList xs h=some (r,h')):StepOk w0 G nm ((builtin b ts ty cs vs).run P w) r h':=by
 unfold Jo at hx
 split at hx
 ·-- len
  rename_i t x hts
  simp only[Option.map_eq_some_iff,Prod.mk.injEq] at hx
  obtain⟨y,h1,rfl,rfl⟩:=hx
  simp only[RvL] at hv
  obtain⟨v,vr,e,hv1,rfl⟩:=hv
  have e1:ts = #[t]:=by apply Array.ext';simpa using hts
  have e2:vs = #[v]:=by apply Array.ext';simpa using e
  subst e1;subst e2
  exact StepOk.of_value I (len_ok I hv1 h1)
 ·-- append
  rename_i t t' d x hts
  split at hx
  ·rename_i htt
   subst htt
   simp only[RvL] at hv
   obtain⟨v,vr,e,hv1,v2,vr2,rfl,hv2,rfl⟩:=hv
   have e1:ts = #[t,t]:=by apply Array.ext';simpa using hts
   have e2:vs = #[v,v2]:=by apply Array.ext';simpa using e
   subst e1;subst e2
   obtain⟨cv,w',G',h1,h2,h3,h4,h5⟩:=append_ok (ty:=ty) I hnm hv1 hv2 hx
   refine⟨cv,w',G',.inl ?_,h2,h3,h4,h5⟩
   simp only[builtin,Sem.run_bind,h1,Result.andThen_ok,Sem.run_pure]
  ·simp only[RvL] at hv
   obtain⟨v,vr,e,hv1,v2,vr2,rfl,hv2,rfl⟩:=hv
   have e1:ts = #[t,t']:=by apply Array.ext';simpa using hts
   have e2:vs = #[v,v2]:=by apply Array.ext';simpa using e
   subst e1;subst e2
   obtain⟨cv,w',G',h1,h2,h3,h4,h5⟩:=appStr_ok (ty:=ty) I hnm hv1 hv2 hx
   refine⟨cv,w',G',.inl ?_,h2,h3,h4,h5⟩
   simp only[builtin,Sem.run_bind,h1,Result.andThen_ok,Sem.run_pure]
 ·-- unsafe.SliceData
  rename_i x
  simp only[Option.map_eq_some_iff,Prod.mk.injEq] at hx
  obtain⟨y,h1,rfl,rfl⟩:=hx
  simp only[RvL] at hv
  obtain⟨v,vr,e,hv1,rfl⟩:=hv
  have e2:vs = #[v]:=by apply Array.ext';simpa using e
  subst e2
  exact StepOk.of_value I (sliceData_ok hv1 h1 ts ty)
 ·-- unsafe.String
  rename_i pt it p n hts
  simp only[RvL] at hv
  obtain⟨v,vr,e,hv1,v2,vr2,rfl,hv2,rfl⟩:=hv
  have e1:ts = #[pt,it]:=by apply Array.ext';simpa using hts
  have e2:vs = #[v,v2]:=by apply Array.ext';simpa using e
  subst e1;subst e2
  obtain⟨cv,w',h1,h4,h5⟩:=unsStr_ok (it:=it) (ty:=ty) I hv1 hv2 hx
  refine⟨cv,w',G,.inl ?_,fun _ _=>rfl,GLe.refl G,h4,h5⟩
  simp only[builtin,Sem.run_bind,h1,Result.andThen_ok,Sem.run_pure]
 ·-- copy
  rename_i t t' d x hts
  simp only[RvL] at hv
  obtain⟨v,vr,e,hv1,v2,vr2,rfl,hv2,rfl⟩:=hv
  have e1:ts = #[t,t']:=by apply Array.ext';simpa using hts
  have e2:vs = #[v,v2]:=by apply Array.ext';simpa using e
  subst e1;subst e2
  obtain⟨cv,w',h1,h4,h5⟩:=copy_ok (t2:=t') (ty:=ty) I hv1 hv2 hx
  refine⟨cv,w',G,.inl ?_,fun _ _=>rfl,GLe.refl G,h4,h5⟩
  simp only[builtin,Sem.run_bind,h1,Result.andThen_ok,Sem.run_pure]
 ·-- clear
  rename_i t x hts
  simp only[Option.map_eq_some_iff,Prod.mk.injEq] at hx
  obtain⟨y,h1,rfl,rfl⟩:=hx
  simp only[RvL] at hv
  obtain⟨v,vr,e,hv1,rfl⟩:=hv
  have e1:ts = #[t]:=by apply Array.ext';simpa using hts
  have e2:vs = #[v]:=by apply Array.ext';simpa using e
  subst e1;subst e2
  obtain⟨cv,w',h2,h4⟩:∃cv w',(Builtin.clear_ #[t] ty #[v]).run P w=.ok cv w'∧Inv w0 G y w':=by
   rcases Option.or_eq_some_iff.1 h1 with h1 | ⟨_,h1⟩
   ·exact clear_ok (ty:=ty) I hv1 h1
   ·exact clearMap_ok I hv1 h1
  refine⟨cv,w',G,.inl ?_,fun _ _=>rfl,GLe.refl G,h4,by simp[Rv]⟩
  simp only[builtin,Sem.run_bind,h2,Result.andThen_ok,Sem.run_pure]
 ·-- delete
  rename_i t t' x k hts
  simp only[Option.map_eq_some_iff,Prod.mk.injEq] at hx
  obtain⟨y,h1,rfl,rfl⟩:=hx
  simp only[RvL] at hv
  obtain⟨v,vr,e,hv1,v2,vr2,rfl,hv2,rfl⟩:=hv
  have e1:ts = #[t,t']:=by apply Array.ext';simpa using hts
  have e2:vs = #[v,v2]:=by apply Array.ext';simpa using e
  subst e1;subst e2
  obtain⟨cv,w',h2,h4⟩:=delete_ok (ty:=ty) I hv1 hv2 h1 t'
  refine⟨cv,w',G,.inl ?_,fun _ _=>rfl,GLe.refl G,h4,by simp[Rv]⟩
  simp only[builtin,Sem.run_bind,h2,Result.andThen_ok,Sem.run_pure]
 ·rename_i x y
  simp only[Option.map_eq_some_iff,Prod.mk.injEq] at hx
  obtain⟨z,h1,rfl,rfl⟩:=hx
  simp only[RvL] at hv
  obtain⟨v,vr,e,hv1,v2,vr2,rfl,hv2,rfl⟩:=hv
  have e2:vs = #[v,v2]:=by apply Array.ext';simpa using e
  subst e2
  unfold aMinMax at h1
  split at h1
  ·cases h1
   simp only[Rv] at hv1 hv2
   obtain⟨rfl,_⟩:=hv1;obtain⟨rfl,_⟩:=hv2
   refine StepOk.of_value I ⟨_,?_,Rv_iv.2 rfl⟩
   simp[Builtin.max_,Builtin.max2]
  ·cases h1
 ·rename_i x y
  simp only[Option.map_eq_some_iff,Prod.mk.injEq] at hx
  obtain⟨z,h1,rfl,rfl⟩:=hx
  simp only[RvL] at hv
  obtain⟨v,vr,e,hv1,v2,vr2,rfl,hv2,rfl⟩:=hv
  have e2:vs = #[v,v2]:=by apply Array.ext';simpa using e
  subst e2
  unfold aMinMax at h1
  split at h1
  ·cases h1
   simp only[Rv] at hv1 hv2
   obtain⟨rfl,_⟩:=hv1;obtain⟨rfl,_⟩:=hv2
   refine StepOk.of_value I ⟨_,?_,Rv_iv.2 rfl⟩
   simp[Builtin.min_,Builtin.min2]
  ·cases h1
 ·rename_i x
  simp only[RvL] at hv
  obtain⟨v,vr,e,hv1,rfl⟩:=hv
  have e2:vs = #[v]:=by apply Array.ext';simpa using e
  subst e2
  obtain⟨cv,w',h1,h2,h3⟩:=close_ok (P:=P) I hv1 hx ts ty
  refine⟨cv,w',G,.inl ?_,fun _ _=>rfl,GLe.refl G,h2,h3⟩
  simp only[builtin,Sem.run_bind,h1,Result.andThen_ok,Sem.run_pure]
 ·cases hx
end
end Go.AM
namespace Go.AM
open Go.RowKit
section
variable {P : Program} {w0 : World} {G : Gh} {h : zI} {w : World} {nm : Nat} {s : List (Nat × AV)} {a : Act}
theorem step_ok [Vars] (I:Inv w0 G h w) (hnm:G.reg nm=none) (hs:∀x,Rv G (ev s x) (a.eval x)) (o:Oper) {v:AV} {h':zI} (hx:zc P nm o.op s h=some (v,h')) :
  StepOk w0 G nm ((execOp a.eval o).run P w) v h':=by
 obtain⟨dst,op,type,pos,after,guard⟩:=o
 simp only at hx ⊢
 cases op with
 | move x=>
  simp only[zc,Option.some.injEq,Prod.mk.injEq] at hx
  obtain⟨rfl,rfl⟩:=hx
  simp only[execOp,Sem.run_pure]
  exact StepOk.value I (hs x)
 | assign x=>
  simp only[zc,Option.some.injEq,Prod.mk.injEq] at hx
  obtain⟨rfl,rfl⟩:=hx
  simp only[execOp,Sem.run_pure]
  exact StepOk.value I (hs x)
 | pick c p q=>
  simp only[zc] at hx
  split at hx
  ·rename_i t hc
   simp only[Option.some.injEq,Prod.mk.injEq] at hx
   obtain⟨rfl,rfl⟩:=hx
   have:=hs c
   rw[hc] at this
   simp only[Rv] at this
   simp only[execOp,this.1,asBool,Sem.run_bind,Sem.run_pure,Result.andThen_ok]
   cases t
   ·exact StepOk.value I (hs q)
   ·exact StepOk.value I (hs p)
  ·cases hx
 | alloc t=>
  simp only[zc] at hx
  split at hx
  ·rename_i z hz
   split at hx
   ·rename_i hsc
    simp only[Option.some.injEq,Prod.mk.injEq] at hx
    obtain⟨rfl,rfl⟩:=hx
    obtain⟨zv,h1,h2⟩:=JS hz G w
    simp only[execOp,Instr.alloc,newVar,newRow,Sem.run_bind,h1,Result.andThen_ok,Sem.run_pure,run_newObj]
    by_cases htp:Vars.typed.contains t=true
    ·rw[if_pos htp]
     exact typed_ok I hnm t h2 hsc
    ·rw[if_neg htp];exact box_ok I hnm t h2 hsc
   ·cases hx
  ·cases hx
 | box t x=>
  simp only[zc] at hx
  split at hx
  ·rename_i hsc
   simp only[Option.some.injEq,Prod.mk.injEq] at hx
   obtain⟨rfl,rfl⟩:=hx
   simp only[execOp,Instr.box,newVar,newRow,Sem.run_bind,Result.andThen_ok,Sem.run_pure,run_newObj]
   exact box_ok I hnm t (hs x) hsc
  ·cases hx
 | build t ps=>
  simp only[zc,evP_eq,Option.map_eq_some_iff,Prod.mk.injEq] at hx
  obtain⟨y,h1,rfl,rfl⟩:=hx
  simp only[execOp]
  exact StepOk.of_value I (build_ok (by simpa using RvP_map hs ps.toList) h1)
 | buildSlice t n ps=>
  simp only[zc,evP_eq,Option.map_eq_some_iff,Prod.mk.injEq] at hx
  obtain⟨y,h1,rfl,rfl⟩:=hx
  obtain⟨cv,w',G',e1,e2,e3,e4,e5⟩:=buildSlice_ok (qs:=ps.map fun p=>(p.1,a.eval p.2)) I (by simpa using RvP_map hs ps.toList) h1
  refine⟨cv,w',G',.inl ?_,fun k _=>by rw[e2],e3,e4,e5⟩
  simp only[execOp,Sem.run_bind]
  rw[e1];simp
 | load t x=>
  simp only[zc] at hx
  have hxv:=hs x
  split at hx
  ·rename_i sg n off hl he
   rw[he] at hxv
   split at hx
   ·rename_i l hn
    simp only[Option.map_eq_some_iff,Prod.mk.injEq] at hx
    obtain⟨y,h1,rfl,rfl⟩:=hx
    simp only[execOp]
    exact StepOk.of_value I (QZ I hl hxv hn h1)
   ·rename_i e tot l hn
    simp only[Option.map_eq_some_iff,Prod.mk.injEq] at hx
    obtain⟨y,h1,rfl,rfl⟩:=hx
    simp only[execOp]
    exact StepOk.of_value I (QZ (I.untype hn) hl hxv (zD _ _ _) h1)
   ·cases hx
  ·rename_i sg l hl he
   rw[he] at hxv
   simp only[Option.map_eq_some_iff,Prod.mk.injEq] at hx
   obtain⟨y,h1,rfl,rfl⟩:=hx
   simp only[execOp]
   exact StepOk.of_value I (load_fptr_ok I hl hxv h1)
  ·cases hx
 | store t x y=>
  simp only[zc] at hx
  have hxv:=hs x
  split at hx
  ·rename_i k n off hl he
   rw[he] at hxv
   split at hx
   ·rename_i l hn
    split at hx
    ·rename_i hc
     simp only[Option.some.injEq,Prod.mk.injEq] at hx
     obtain⟨rfl,rfl⟩:=hx
     obtain⟨w',h1,h2,_⟩:=qy I hl hxv hn (hs y) hc.1 hc.2.1 hc.2.2
     refine⟨undef,w',G,.inr ⟨?_,rfl⟩,fun _ _=>rfl,GLe.refl G,h2,by simp[Rv]⟩
     simp only[execOp,Sem.run_bind,h1,Result.andThen_ok,Sem.run_pure]
    ·cases hx
   ·rename_i e tot l hn
    split at hx
    ·rename_i hc
     simp only[Option.some.injEq,Prod.mk.injEq] at hx
     obtain⟨rfl,rfl⟩:=hx
     obtain⟨w',h1,h2,h3⟩:=qy (I.untype hn) hl hxv (zD _ _ _) (hs y) hc.1 hc.2.1 hc.2.2
     rw[qr] at h2
     obtain⟨⟨b,lo,tt⟩,vs,g1,g2,g3,g4,g5⟩:=I.obj n _ hn
     simp only at g3 g4
     subst g3
     have h4:=h2.retype (e:=e) (tot:=tot) (zD _ _ _) g1 (by rw[h3];exact g4) g5
     rw[qr] at h4
     refine⟨undef,w',G,.inr ⟨?_,rfl⟩,fun _ _=>rfl,GLe.refl G,h4,by simp[Rv]⟩
     simp only[execOp,Sem.run_bind,h1,Result.andThen_ok,Sem.run_pure]
    ·cases hx
   ·cases hx
  ·cases hx
 | nilCheck x=>
  simp only[zc] at hx
  have hxv:=hs x
  split at hx
  ·rename_i n off he
   rw[he] at hxv
   simp only[Option.some.injEq,Prod.mk.injEq] at hx
   obtain⟨rfl,rfl⟩:=hx
   have hxv':=hxv
   simp only[Rv] at hxv'
   obtain⟨b,lo,t,hr,e⟩:=hxv'
   simp only[execOp,e,Sem.run_pure]
   exact StepOk.value I (e ▸ hxv)
  ·rename_i l he
   rw[he] at hxv
   simp only[Option.some.injEq,Prod.mk.injEq] at hx
   obtain⟨rfl,rfl⟩:=hx
   have hxv':=hxv
   simp only[Rv] at hxv'
   obtain⟨b,vs,e,_⟩:=hxv'
   simp only[execOp,e,Sem.run_pure]
   exact StepOk.value I (e ▸ hxv)
  ·rename_i f p q he
   rw[he] at hxv
   simp only[Option.some.injEq,Prod.mk.injEq] at hx
   obtain⟨rfl,rfl⟩:=hx
   have hxv':=hxv
   simp only[Rv] at hxv'
   obtain⟨b,vs,e,_⟩:=hxv'
   simp only[execOp,e,Sem.run_pure]
   exact StepOk.value I (e ▸ hxv)
  ·cases hx
 | binOp op t x y t'=>
  simp only[zc,Option.map_eq_some_iff,Prod.mk.injEq] at hx
  obtain⟨z,h1,rfl,rfl⟩:=hx
  simp only[execOp]
  rcases Option.or_eq_some_iff.1 h1 with h1 | ⟨_,h1⟩
  ·exact StepOk.of_value I (aBin_ok (hs x) (hs y) h1 x y)
  ·exact StepOk.of_value I (bin2_ok (hs x) (hs y) h1)
 | makeInterface t x=>
  simp only[zc,Option.map_eq_some_iff,Prod.mk.injEq] at hx
  obtain⟨z,h1,rfl,rfl⟩:=hx
  simp only[execOp]
  exact StepOk.of_value I (mkIface_ok (hs x) h1)
 | typeAssert x xt t ok=>
  simp only[zc,Option.map_eq_some_iff,Prod.mk.injEq] at hx
  obtain⟨z,h1,rfl,rfl⟩:=hx
  simp only[execOp]
  exact StepOk.of_value I (assert_ok (hs x) h1)
 | mapEntry t m k=>
  simp only[zc] at hx
  obtain⟨cv,w',h1,h2,h3⟩:=mapEntry_ok I (hs m) (hs k) hx
  refine⟨cv,w',G,.inl ?_,fun _ _=>rfl,GLe.refl G,h2,h3⟩
  simp only[execOp,Sem.run_bind,h1,Result.andThen_ok,Sem.run_pure]
 | entryStore t m b x=>
  simp only[zc,Option.map_eq_some_iff,Prod.mk.injEq] at hx
  obtain⟨z,h1,rfl,rfl⟩:=hx
  obtain⟨w',h2,h3⟩:=entryStore_ok (P:=P) I (hs m) (hs b) (hs x) h1 t
  refine⟨undef,w',G,.inr ⟨?_,rfl⟩,fun _ _=>rfl,GLe.refl G,h3,by simp[Rv]⟩
  simp only[execOp,Sem.run_bind,h2,Result.andThen_ok,Sem.run_pure];try rfl
 | unOp op t x=>
  have hxv:=hs x
  cases op with
  | not=>
   simp only[zc] at hx
   split at hx
   ·rename_i b he
    rw[he] at hxv
    simp only[Option.some.injEq,Prod.mk.injEq] at hx
    obtain⟨rfl,rfl⟩:=hx
    simp only[Rv] at hxv
    simp only[execOp]
    exact StepOk.of_value I ⟨_,by simp[Op.unary,hxv.1],Rv_bv.2 rfl⟩
   ·cases hx
  | neg=>
   simp only[zc,Option.map_eq_some_iff,Prod.mk.injEq] at hx
   obtain⟨z,h1,rfl,rfl⟩:=hx
   unfold aNeg at h1
   split at h1
   ·rename_i k n he
    rw[he] at hxv
    cases h1
    simp only[Rv] at hxv
    simp only[execOp]
    exact StepOk.of_value I ⟨_,by simp[Op.unary,hxv.1,Op.intArith],Rv_iv.2 rfl⟩
   ·cases h1
  | xor=>
   simp only[zc,Option.map_eq_some_iff,Prod.mk.injEq] at hx
   obtain⟨z,h1,rfl,rfl⟩:=hx
   unfold aXorU at h1
   split at h1
   ·rename_i k n he
    rw[he] at hxv
    simp only[Rv] at hxv
    obtain⟨cv,h2,h3⟩:=binInt_ok (P:=P) (w:=w) (G:=G) h1 t
    simp only[execOp]
    refine StepOk.of_value I ⟨cv,?_,h3⟩
    rw[hxv.1]
    simpa [binOp,Op.unary] using h2
   ·cases h1
  | plus=>simp[zc] at hx
 | convert p q x=>
  simp only[zc] at hx
  split at hx
  ·simp only[Option.map_eq_some_iff,Prod.mk.injEq] at hx
   obtain⟨z,h1,rfl,rfl⟩:=hx
   simp only[execOp]
   exact StepOk.of_value I (uns_ok I (hs x) h1)
  simp only[Option.map_eq_some_iff,Prod.mk.injEq] at hx
  obtain⟨z,h1,rfl,rfl⟩:=hx
  have hxv:=hs x
  unfold aConvert at h1
  split at h1
  ·rename_i kk n d k he hu1 hu2
   rw[he] at hxv
   cases h1
   simp only[Rv] at hxv
   simp only[execOp]
   exact StepOk.of_value I ⟨_,by simp[convert,hxv.1,run_underlying hu1,run_underlying hu2,Conv.intToInt],Rv_iv.2 rfl⟩
  ·rename_i b he hu1 hu2
   rw[he] at hxv
   cases h1
   simp only[Rv] at hxv
   simp only[execOp]
   exact StepOk.of_value I ⟨_,by simp[convert,hxv.1,run_underlying hu1,run_underlying hu2],Rv_sv.2 rfl⟩
  ·rename_i b e he hu1 hu2
   rw[he] at hxv
   split at h1
   ·rename_i hu3
    cases h1
    simp only[Rv] at hxv
    obtain⟨cv,w',G',e1,e2,e3,e4,e5⟩:=bytes_ok I hu1 hu2 hu3 b
    refine⟨cv,w',G',.inl ?_,fun k _=>by rw[e2],e3,e4,e5⟩
    simp only[execOp,hxv.1,Sem.run_bind,e1,Result.andThen_ok,Sem.run_pure]
   ·cases h1
  ·rename_i fu l e he hu1 hu2
   rw[he] at hxv
   split at h1
   ·rename_i hu3
    simp only[Option.map_eq_some_iff] at h1
    obtain⟨bs,hb,rfl⟩:=h1
    rw[Rv] at hxv
    obtain⟨ad0,cap,hv,_,_,_,h5⟩:=hxv
    obtain⟨ad,rfl,h6⟩:=h5 rfl
    simp only[execOp]
    have hlb:=Jt _ _ hb
    have hrun:=run_convert_bytes_back (P:=P) w _ _ e ad cap bs hu1 hu3 hu2 (fun j hj=>I.imm _ _ (by
     have:=RvE_out l 0 bs hb h6 j bs[j] (List.getElem?_eq_getElem hj)
     rwa [Nat.zero_add] at this))
    rw[hlb] at hrun
    exact StepOk.of_value I ⟨_,by rw[hv];exact hrun,Rv_sv.2 rfl⟩
   ·cases h1
  ·cases h1
 | makeFunc fn p q=>
  simp only[zc,Option.some.injEq,Prod.mk.injEq] at hx
  obtain⟨rfl,rfl⟩:=hx
  simp only[execOp,Instr.makeFunc]
  refine StepOk.of_value I ⟨_,Sem.run_pure _ _ _,?_⟩
  simp only[Rv]
  exact⟨_,_,rfl,by simpa using JH hs p.toList,by simpa using JH hs q.toList⟩
 | makeSlice t n m=>
  simp only[zc] at hx
  have hn:=hs n
  have hm:=hs m
  split at hx
  ·rename_i k1 n' k2 m' e1 e2
   rw[e1] at hn;rw[e2] at hm
   simp only[Rv] at hn hm
   split at hx
   ·rename_i sz l k hmk
    simp only[Option.some.injEq,Prod.mk.injEq] at hx
    obtain⟨rfl,rfl⟩:=hx
    obtain⟨cv,w',r,h1,h2,h3⟩:=make_ok I hnm hmk k1 k2
    refine⟨cv,w',_,.inl ?_,fun k hk=>Gh.set_ne hk,Gh.le_set hnm,h2,h3⟩
    simp only[execOp,hn.1,hm.1,Sem.run_bind,h1,Result.andThen_ok,Sem.run_pure]
   ·cases hx
  ·cases hx
 | slice t x lo hi mx=>
  simp only[zc,Option.map_eq_some_iff,Prod.mk.injEq] at hx
  obtain⟨z,h1,rfl,rfl⟩:=hx
  simp only[execOp]
  cases e:aSlice P t (ev s x) (lo.map (ev s)) (hi.map (ev s)) (mx.map (ev s)) with
  | some y=>
   rw[e] at h1
   simp only[Option.some_or,Option.some.injEq] at h1
   subst h1
   exact StepOk.of_value I (slice_ok (hs x) (Qp hs lo) (Qp hs hi) (Qp hs mx) e)
  | none=>
   rw[e] at h1
   simp only[Option.none_or] at h1
   split at h1
   ·exact StepOk.of_value I (sliceCap_ok I (hs x) (Qp hs lo) (Qp hs hi) (Qp hs mx) h1)
   ·cases h1
 | fieldAddr t x f=>
  simp only[zc] at hx
  have hxv:=hs x
  split at hx
  ·rename_i o z hf
   split at hx
   ·cases hx
   ·rename_i hz
    split at hx
    ·rename_i n off he
     rw[he] at hxv
     simp only[Option.some.injEq,Prod.mk.injEq] at hx
     obtain⟨rfl,rfl⟩:=hx
     simp only[execOp]
     exact StepOk.of_value I (field_ptr_ok hf hz hxv)
    ·rename_i l he
     rw[he] at hxv
     simp only[Option.some.injEq,Prod.mk.injEq] at hx
     obtain⟨rfl,rfl⟩:=hx
     simp only[execOp]
     exact StepOk.of_value I (field_fptr_ok hf hz hxv)
    ·cases hx
  ·cases hx
 | indexAddr t x i=>
  simp only[zc] at hx
  have hxv:=hs x
  have hiv:=hs i
  split at hx
  ·rename_i e k i' he hi
   rw[hi] at hiv
   simp only[Rv] at hiv
   split at hx
   ·rename_i nl full z l hxe
    rw[hxe] at hxv
    split at hx
    ·rename_i hc
     split at hx
     ·rename_i y hy
      simp only[Option.some.injEq,Prod.mk.injEq] at hx
      obtain⟨rfl,rfl⟩:=hx
      simp only[execOp,hiv.1]
      exact StepOk.of_value I (index_fslc_ok he hc.1 hxv hc.2 hy)
     ·cases hx
    ·cases hx
   ·rename_i n off len z hxe
    rw[hxe] at hxv
    split at hx
    ·rename_i hc
     simp only[Option.some.injEq,Prod.mk.injEq] at hx
     obtain⟨rfl,rfl⟩:=hx
     simp only[execOp,hiv.1]
     exact StepOk.of_value I (index_slc_ok he hc.1 hxv hc.2.1 hc.2.2)
    ·cases hx
   ·cases hx
  ·simp only[Option.map_eq_some_iff,Prod.mk.injEq] at hx
   obtain⟨y,h1,rfl,rfl⟩:=hx
   simp only[execOp]
   exact StepOk.of_value I (addrArr_ok hxv hiv h1)
 | index t x i=>
  simp only[zc] at hx
  have hxv:=hs x
  have hiv:=hs i
  split at hx
  ·rename_i b k i' hxe hi
   rw[hxe] at hxv
   rw[hi] at hiv
   simp only[Rv] at hxv hiv
   split at hx
   ·rename_i hc
    obtain⟨d,hu,hd⟩:=kd_und hc.1 (by simp)
    simp only at hd
    subst hd
    split at hx
    ·rename_i u hy
     simp only[Option.some.injEq,Prod.mk.injEq] at hx
     obtain⟨rfl,rfl⟩:=hx
     simp only[execOp,hiv.1,hxv.1]
     refine StepOk.of_value I ⟨_,?_,Rv_iv.2 rfl⟩
     simp[Instr.index,asIntOf,run_underlying hu,hc.2,hy]
    ·cases hx
   ·cases hx
  ·simp only[Option.map_eq_some_iff,Prod.mk.injEq] at hx
   obtain⟨y,h1,rfl,rfl⟩:=hx
   simp only[execOp]
   exact StepOk.of_value I (idxArr_ok hxv hiv h1)
 | extract x i=>
  simp only[zc] at hx
  have hxv:=hs x
  split at hx
  ·rename_i vs he
   rw[he] at hxv
   simp only[Option.map_eq_some_iff,Prod.mk.injEq] at hx
   obtain⟨z,h1,rfl,rfl⟩:=hx
   simp only[Rv] at hxv
   obtain⟨us,e,hr⟩:=hxv
   obtain⟨u,h2,h3⟩:=hr.get _ _ h1
   simp only[execOp,e]
   refine StepOk.of_value I ⟨u,?_,h3⟩
   have:us[i]? = some u:=by simpa using h2
   simp[Instr.extract,this]
  ·cases hx
 | makeMap t r=>
  cases r with
  | some r=>simp[zc] at hx
  | none=>
   simp only[zc,Option.some.injEq,Prod.mk.injEq] at hx
   obtain⟨rfl,rfl⟩:=hx
   have:=makeMap_ok I hnm
   simp only[execOp,Option.map_none,Sem.run_bind,run_makeMap,Result.andThen_ok,Sem.run_pure]
   exact this
 | makeChan t n=>
  simp only[zc] at hx
  obtain⟨cv,w',h1,h2⟩:=makeChan_ok I hnm (hs n) hx
  simp only[execOp,Sem.run_bind,h1,Result.andThen_ok,Sem.run_pure]
  exact h2
 | lookup t m k ok=>
  simp only[zc,Option.map_eq_some_iff,Prod.mk.injEq] at hx
  obtain⟨y,h1,rfl,rfl⟩:=hx
  simp only[execOp]
  exact StepOk.of_value I (lookup_ok I (hs m) (hs k) h1)
 | mapUpdate t m k x=>
  simp only[zc,Option.map_eq_some_iff,Prod.mk.injEq] at hx
  obtain⟨y,h1,rfl,rfl⟩:=hx
  obtain⟨w',h2,h3⟩:=mapPut_ok I (hs m) (hs k) (hs x) h1
  refine⟨undef,w',G,.inr ⟨?_,rfl⟩,fun _ _=>rfl,GLe.refl G,h3,by simp[Rv]⟩
  simp only[execOp,Sem.run_bind,h2,Result.andThen_ok,Sem.run_pure]
 | insert t m k x=>
  simp only[zc,Option.map_eq_some_iff,Prod.mk.injEq] at hx
  obtain⟨y,h1,rfl,rfl⟩:=hx
  obtain⟨w',h2,h3⟩:=mapPut_ok I (hs m) (hs k) (hs x) h1
  refine⟨undef,w',G,.inr ⟨?_,rfl⟩,fun _ _=>rfl,GLe.refl G,h3,by simp[Rv]⟩
  simp only[execOp,Sem.run_bind,h2,Result.andThen_ok,Sem.run_pure]
 | range t m=>
  simp only[zc] at hx
  obtain⟨cv,w',h1,h2⟩:=range_ok I hnm (hs m) hx
  simp only[execOp,Sem.run_bind,h1,Result.andThen_ok,Sem.run_pure]
  exact h2
 | entry it=>
  simp only[zc,Option.map_eq_some_iff,Prod.mk.injEq] at hx
  obtain⟨y,h1,rfl,rfl⟩:=hx
  simp only[execOp]
  exact StepOk.of_value I (entry_ok I (hs it) h1)
 | call c=>
  obtain⟨callee,args,argTypes⟩:=c
  cases callee with
  | builtin b=>
   simp only[zc] at hx
   have:=builtin_ok (ty:=type) (cs:=args.map fun | .const _=>true | _=>false) I hnm (vs:=args.map a.eval) (by simpa using JH hs args.toList) hx
   simp only[execOp,resolve,Sem.run_bind,Sem.run_pure,Result.andThen_ok,invoke]
   exact this
  | _=>simp[zc] at hx
 | _=>simp[zc] at hx
end
end Go.AM
namespace Go.AM
open Go.RowKit
structure Ext (fl:Nat) (G G':Gh):Prop where
 reg:∀k,k < fl→G'.reg k=G.reg k
 imm:∀a v,G.imm a=some v→G'.imm a=some v
 own:∃l,G'.own=l ++ G.own
 base:G'.base=G.base
 lps:∀b ∈ G.lps,b ∈ G'.lps
def Zs (n:Nat) (G:Gh):Prop:=∀k,n≤k→G.reg k=none
theorem Ext.refl (fl:Nat) (G:Gh):Ext fl G G:=⟨fun _ _=>rfl,fun _ _ h=>h,⟨[],rfl⟩,rfl,fun _ h=>h⟩
theorem Ext.trans {fl:Nat} {a b c:Gh} (h:Ext fl a b) (k:Ext fl b c):Ext fl a c:=⟨fun i hi=>(k.reg i hi).trans (h.reg i hi),fun _ _ e=>k.imm _ _ (h.imm _ _ e),let ⟨l,e⟩:=h.own;let ⟨m,f⟩:=k.own;⟨m ++ l,by rw[f,e,List.append_assoc]⟩,k.base.trans h.base,fun _ x=>k.lps _ (h.lps _ x)⟩
theorem Ext.mono {fl fl':Nat} {a b:Gh} (h:Ext fl a b) (hl:fl'≤fl):Ext fl' a b:=⟨fun i hi=>h.reg i (Nat.lt_of_lt_of_le hi hl),h.imm,h.own,h.base,h.lps⟩
theorem Ext.le {n:Nat} {G G':Gh} (h:Ext n G G') (f:Zs n G):VLe G G':=by
 refine⟨fun k r e=>?_,h.imm⟩
 rcases Nat.lt_or_ge k n with hk | hk
 ·rw[h.reg k hk];exact e
 ·rw[f k hk] at e;cases e
def mark (b:Nat):Deferred:={target:=.collected b,args:=#[]}
def FR (r:Option Nat):Fence:={fn:=fun _=>True,depth:=none,alive:=false,round:=r}
theorem room_FR (r:Option Nat) (n:Nat):(FR r).room n:=fun _ h=>by simp[FR] at h
theorem qZ (r:Option Nat) {p:Prop}:(FR r).depth.isSome=true→p:=fun h=>by simp[FR] at h
theorem calls_FR {r:Option Nat} {n:Nat} {P:Program} {f:FuncId} {args:Array Value} {w:World} {R:Ending→World→Prop} (h:Calls P f args w R):CallsIn (FR r) n P f args w R:=
 callsIn_wide.2 h
structure Sim [Vars] (w0:World) (G:Gh) (st:St) (a:Act) (w:World):Prop where
 inv:Inv w0 G st.h w
 size:a.tmps.size=st.nt
 defers:a.defers=G.own.map mark ++ G.base.2.1
 slots:∀t,Rv G (get st.s t) (a.tmps.getD t undef)
 fresh:Zs st.n G
def JZ (P:Program) (f:FuncId):Bool:=
 match P.funcs[f]? with
 | some fn=>!(fn.name == "runtime.NumGoroutine") && fn.body.isSome
 | none=>false
def zQ [Vars] (P:Program) (f:FuncId) (args:List AV) (h:zI) (n:Nat) (K:AV→zI→Nat→Prop):Prop:=
 JZ P f=true∧∀w0 G w vs,Inv w0 G h w→Zs n G→RvL G args vs→
  Calls P f vs.toArray w fun e w'=>∃G' r x h' n',e=.returned r∧(Ext n G G'∧G'.own=G.own)∧Inv w0 G' h' w'∧Zs n' G'∧n≤n'∧Rv G' x r∧K x h' n'
theorem zQ.mono [Vars] {P:Program} {f:FuncId} {args:List AV} {h:zI} {n:Nat} {K K':AV→zI→Nat→Prop} (hc:zQ P f args h n K) (hk:∀x h n,K x h n→K' x h n):zQ P f args h n K':=
 ⟨hc.1,fun w0 G w vs I hf hr=>(hc.2 w0 G w vs I hf hr).mono fun _ _ ⟨G',r,x,h',n',e1,e2,e3,e4,e5,e6,e7⟩=>⟨G',r,x,h',n',e1,e2,e3,e4,e5,e6,hk _ _ _ e7⟩⟩
def put (st:St) (dst:Option Tmp) (v:AV):St:=
 match dst with
 | some d=>{st with s:=(d,v) :: st.s}
 | none=>st
def Zh (nt:Nat):Option Tmp→Bool
 | some d=>decide (d < nt)
 | none=>true
def ZR (ops:Array Oper) (s:List (Nat × AV)) (g:Option (Nat × Bool)):Option Bool:=
 match g with
 | none=>some true
 | some (j,want)=>match (ops[j]?).bind (·.dst) with
  | some d=>match get s d with
   | .c (.bool b)=>some (b == want)
   | .tup _=>some false
   | _=>none
  | none=>none
def ze [Vars] (P:Program) (fl:Nat) (c:Code) (Q:Exit→St→Prop) (st:St):Prop:=
 ∀r w0 G a w,(∀l,r=some l→l ∈ G.lps)→Sim w0 G st a w→fl≤st.n→Code.wpIn (FR r) 0 P c (fun e a' w'=>∃G' st',Ext fl G G'∧fl≤st'.n∧Sim w0 G' st' a' w'∧Q e st') a w
def Zk (s:List (Nat × AV)):List Tmp→List AV→List (Nat × AV)
 | t :: ts,x :: xs=>Zk ((t,x) :: s) ts xs
 | _,_=>s
def roundK (m:Nat) (_:Nat) (_:List (Nat × AV)) (_:Array Tmp) (_ _:Code) (K:AV→zI→Nat→Prop):Exit→St→Prop
 | .normal,st=>∃nt s ps asg body,st.h m=some (.loop .busy none nt s ps asg body)∧K (.c (.bool true)) (st.h.upd m (some (.loop .ready none nt s ps asg body))) st.n
 | .ret,st=>∃nt s ps asg body,st.h m=some (.loop .busy none nt s ps asg body)∧K (.c (.bool false)) (st.h.upd m (some (.loop .done (some .ret) nt s ps asg body))) st.n
 | .exit id,st=>∃nt s ps asg body,st.h m=some (.loop .busy none nt s ps asg body)∧K (.c (.bool false)) (st.h.upd m (some (.loop .done (some (.exit id)) nt s ps asg body))) st.n
 | _,_=>False
def asgK [Vars] (P:Program) (fl:Nat) (m:Nat) (nt:Nat) (s:List (Nat × AV)) (ps:Array Tmp) (asg body:Code) (K:AV→zI→Nat→Prop):Exit→St→Prop
 | .normal,st=>∃nt' s' ps' asg' body',st.h m=some (.loop .ready none nt' s' ps' asg' body')∧ze P fl body (roundK m nt s ps asg body K) {st with h:=st.h.upd m (some (.loop .busy none nt' s' ps' asg' body'))}
 | _,_=>False
def yieldK [Vars] (P:Program) (m:Nat) (args:List AV) (h:zI) (n:Nat) (K:AV→zI→Nat→Prop):Prop:=
 match h m with
 | some (.loop .ready none nt s ps asg body)=>(args.length=ps.size∧ps.all (·< nt)=true)∧ze P n asg (asgK P n m nt s ps asg body K) ⟨nt,Zk s ps.toList args,h,n⟩
 | _=>False
def Zo:Op→Option (Operand × List Operand)
 | .call {callee:=.value f,args,..}=>some (f,args.toList)
 | _=>none
def XCalls [Vars] (P:Program) (g:FuncId) (args:List AV) (h:zI) (n:Nat) (K:AV→zI→Nat→Prop):Prop:=
 ∀w0 G w vs,Inv w0 G h w→Zs n G→RvL G args vs→∃r w',(callFunc g vs.toArray).run P w=.ok (.value r) w'∧
  ∃G' x h' n',(Ext n G G'∧G'.own=G.own)∧Inv w0 G' h' w'∧Zs n' G'∧n≤n'∧Rv G' x r∧K x h' n'
def GCalls [Vars] (P:Program) (g:FuncId) (args:List AV) (h:zI) (n:Nat) (K:AV→zI→Nat→Prop):Prop:=zQ P g args h n K∨XCalls P g args h n K
def callK [Vars] (P:Program) (f:AV) (args:List AV) (h:zI) (n:Nat) (K:AV→zI→Nat→Prop):Prop:=
 match f with
 | .func (.func g) first captured=>GCalls P g (first ++ args ++ captured) h n K
 | .yld m=>yieldK P m args h n K
 | _=>False
def jq (r:Option (AV × zI)) (n:Nat) (K:AV→zI→Nat→Prop):Prop:=
 match r with
 | some (x,h)=>K x h n
 | none=>False
def Zx [Vars] (P:Program) (ops:Array Oper) (nm:Nat) (o:Oper) (s:List (Nat × AV)) (h:zI) (n:Nat) (K:AV→zI→Nat→Prop):Prop:=
 match ZR ops s o.guard with
 | none=>False
 | some false=>K (.tup []) h n
 | some true=>match Zo o.op with
  | some (f,args)=>callK P (ev s f) (args.map (ev s)) h n K
  | none=>jq (zc P nm o.op s h) n K
def aOp [Vars] (P:Program) (ops:Array Oper) (nm:Nat) (o:Oper) (st:St) (K:St→Prop):Prop:=
 Zh st.nt o.dst=true∧Zx P ops nm o st.s st.h st.n fun x h n=>K (put ⟨st.nt,st.s,h,n⟩ o.dst x)
def Jb [Vars] (P:Program) (ops:Array Oper) (base:Nat) (K:St→Prop):Nat→List Oper→St→Prop
 | _,[],st=>K st
 | i,o :: r,st=>aOp P ops (base + i) o st (Jb P ops base K (i + 1) r)
structure RSim [Vars] (w0:World) (G0:Gh) (fl base:Nat) (rem:List Nat) (G:Gh) (st:St) (a:Act) (w:World):Prop where
 sim:Sim w0 G st a w
 ext:Ext fl G0 G
 lim:fl≤st.n
 names:∀j ∈ rem,G.reg (base + j)=none∧base + j < st.n
 own:G.own=G0.own
theorem RSim.sub [Vars] {w0:World} {G0:Gh} {fl base:Nat} {rem rem':List Nat} {G:Gh} {st:St} {a:Act} {w:World} (S:RSim w0 G0 fl base rem G st a w) (h:∀j ∈ rem',j ∈ rem):RSim w0 G0 fl base rem' G st a w:=
 ⟨S.sim,S.ext,S.lim,fun j hj=>S.names j (h j hj),S.own⟩
theorem JA {G:Gh} {st:St} {a:Act} (hs:∀t,Rv G (get st.s t) (a.tmps.getD t undef)) (hsz:a.tmps.size=st.nt) {dst:Option Tmp} (hd:Zh st.nt dst=true) {x:AV} {v:Value} (hv:Rv G x v) :
  ∀t,Rv G (get (put st dst x).s t) ((a.put dst v).tmps.getD t undef):=by
 intro t
 cases dst with
 | none=>exact hs t
 | some d=>
  simp only[Zh,decide_eq_true_eq] at hd
  simp only[put,get,Act.put]
  by_cases ht:t=d
  ·subst ht
   have:t < a.tmps.size:=by rw[hsz];exact hd
   simpa [this] using hv
  ·rw[if_neg ht]
   have:(a.tmps.setIfInBounds d v).getD t undef=a.tmps.getD t undef:=by
    simp[Array.getD_eq_getD_getElem?,Array.getElem?_setIfInBounds_ne (Ne.symm ht)]
   rw[this];exact hs t
theorem Jv {a:Act} {dst:Option Tmp} {v:Value}:(a.put dst v).tmps.size=a.tmps.size:=by
 cases dst <;> simp[Act.put]
theorem jj {a:Act} {dst:Option Tmp} {v:Value}:(a.put dst v).defers=a.defers:=by
 cases dst <;> simp[Act.put]
theorem put_nt {st:St} {dst:Option Tmp} {x:AV}:(put st dst x).nt=st.nt∧(put st dst x).h=st.h∧(put st dst x).n=st.n:=by
 cases dst <;> simp[put]
theorem jp {P:Program} {g:FuncId} (hg:JZ P g=true) (args:Array Value) (w:World):(callFunc g args).run P w=.ok (.enter g args) w:=by
 unfold JZ at hg
 cases hf:P.funcs[g]? with
 | none=>simp[hf] at hg
 | some fn=>
  simp only[hf,Bool.and_eq_true,Bool.not_eq_true'] at hg
  have hb:fn.body.isNone=false:=by cases h:fn.body <;> simp_all
  simp only[callFunc,Sem.run_bind,run_program,Result.andThen_ok,hf,hg.1,hb,Bool.false_eq_true,if_false,Sem.run_pure]
end Go.AM
namespace Go.AM
open Go.RowKit
theorem Inv.reoth [Vars] {w0:World} {G G':Gh} {h:zI} {w:World} (I:Inv w0 G h w) (hr:G'.reg=G.reg) (hi:G'.imm=G.imm) (o:Oth w0 G' w):Inv w0 G' h w:=by
 have hv:VLe G G':=⟨fun k r e=>by rw[hr];exact e,fun a v e=>by rw[hi];exact e⟩
 refine⟨I.below,fun a v e=>I.imm a v (hi ▸ e),fun n p e=>(I.obj n p e).keep hv (Nat.le_refl _) (fun _ _ _ _=>⟨rfl,rfl⟩) (fun _ _ _=>rfl) (fun _ _ _ hp=>hp),?_,?_,o⟩
 ·rw[hr];exact I.disj
 ·rw[hr,hi];exact I.sep
theorem Inv.setLoop [Vars] {w0:World} {G:Gh} {h:zI} {w:World} (I:Inv w0 G h w) {m b nt:Nat} {st:LoopState} {pend:Option Code} {s:List (Nat × AV)} {ps:Array Tmp} {asg body:Code}
  (hm:h m=some (.loop st pend nt s ps asg body)) (hreg:G.reg m=some (b,0,1)) {L:Loop} (hL:w.heap[b]? = some (.loop L)) (st':LoopState) (pend':Option Code) :
  Inv w0 G (h.upd m (some (.loop st' pend' nt s ps asg body))) (w.putObj b (.loop {L with state:=st',pending:=pend'})):=by
 obtain⟨b',fn,tmps,D,h1,h2,h3,h4,h5⟩:=I.obj m _ hm
 rw[hreg] at h1;cases h1
 rw[hL] at h3;cases h3
 refine I.putObj hm hreg hL (by simp) (by simp) (by simp) (fun _ _=>⟨_,rfl⟩) h2 ⟨b,fn,tmps,D,hreg,h2,?_,h4,h5⟩
 exact World.putObj_heap_same (Array.getElem?_eq_some_iff.1 hL).1
theorem Inv.shut [Vars] {w0:World} {G:Gh} {h:zI} {w:World} (I:Inv w0 G h w) {b:Nat} {l:List Nat} (hb:G.own=b :: l):Inv w0 {G with own:=l} h (w.putObj b (.deferred none)):=by
 have ho:=(I.oth.own b (by rw[hb];simp)).1
 have hb0:=(I.oth.own b (by rw[hb];simp)).2
 have hcell:=cell_putObj (o':=.deferred none) ho (by simp) (by simp)
 have hlt:b < w.heap.size:=(Array.getElem?_eq_some_iff.1 ho).1
 have other:∀k (o:Obj),w.heap[k]? = some o→(∀L,o≠.deferred L)→(w.putObj b (.deferred none)).heap[k]? = some o:=fun k o e hne=>by
  have:k≠b:=fun ek=>by subst ek;rw[ho] at e;exact hne _ (Option.some.inj e).symm
  rw[World.putObj_heap_other this];exact e
 have nd:=I.oth.nd
 rw[hb,List.cons_append,List.nodup_cons] at nd
 have df:∀k,k ∈ l ++ G.base.1→w.heap[k]? = some (.deferred (some []))→(w.putObj b (.deferred none)).heap[k]? = some (.deferred (some [])):=fun k hk e=>by
  have:k≠b:=fun ek=>nd.1 (ek ▸ hk)
  rw[World.putObj_heap_other this];exact e
 refine⟨putObj_below I.below hb0 _,fun a v e=>by rw[(hcell a).1];exact I.imm a v e,fun n q e=>?_,I.disj,I.sep,⟨fun k hk=>⟨df k (List.mem_append.2 (.inl hk)) (I.oth.own k (by rw[hb];simp[hk])).1,(I.oth.own k (by rw[hb];simp[hk])).2⟩,fun k hk=>df k (List.mem_append.2 (.inr hk)) (I.oth.base k hk),nd.2,fun k hk=>?_,I.oth.old,I.oth.vars,I.oth.tabs⟩⟩
 ·have ok:=I.obj n q e
  have hv:VLe G {G with own:=l}:=⟨fun _ _ e=>e,fun _ _ e=>e⟩
  cases q with
  | cells c=>
   obtain⟨r,vs,h1,h2⟩:=ok
   exact⟨r,vs,h1,h2.base,by simpa using h2.lt,h2.len,h2.sc,h2.rel.mono hv,fun j v e=>by rw[(hcell _).1];exact h2.val j v e,fun j hj=>by rw[(hcell _).1];exact h2.some j hj,fun j hj=>by rw[(hcell _).2];exact h2.free j hj⟩
  | tcells e tot c=>
   obtain⟨r,vs,h1,h2,h3,h4,h5⟩:=ok
   refine⟨r,vs,h1,⟨h2.base,by simpa using h2.lt,h2.len,h2.sc,h2.rel.mono hv,fun j v e=>by rw[(hcell _).1];exact h2.val j v e,fun j hj=>by rw[(hcell _).1];exact h2.some j hj,fun j hj=>by rw[(hcell _).2];exact h2.free j hj⟩,h3,?_,h5⟩
   have hne:r.1≠b:=fun e=>by rw[e] at h4;simp only[World.shape?,ho] at h4;cases h4
   rw[Zr (World.putObj_heap_other hne)];exact h4
  | map clk bs es=>
   obtain⟨k,ents,h1,h2⟩:=ok
   exact⟨k,ents,h1,h2.base,other k _ h2.blk (by simp),h2.keys,h2.vals.mono hv,h2.born,h2.lt⟩
  | chan cap buf closed=>
   obtain⟨k,vs,s,r,h1,h2,h3,h4⟩:=ok
   exact⟨k,vs,s,r,h1,h2,other k _ h3 (by simp),h4.mono hv⟩
  | loop st pend nt s ps asg body=>
   obtain⟨k,fn,tmps,D,h1,h2,h3,h4,h5⟩:=ok
   exact⟨k,fn,tmps,D,h1,h2,other k _ h3 (by simp),h4,fun t=>(h5 t).mono hv⟩
  | iter im since c0 seen=>
   obtain⟨k,bm,sa,h1,h2,h3,h4,h5⟩:=ok
   exact⟨k,bm,sa,h1,h2,h3,other k _ h4 (by simp),h5⟩
 ·obtain⟨L,e⟩:=I.oth.lps k hk
  exact⟨L,other k _ e (by simp)⟩
theorem roundSlots_ok {G:Gh}:∀(ps:List Tmp) (args:List AV) (vs:List Value) (s:List (Nat × AV)) (tmps:Array Value),RvL G args vs→args.length=ps.length→(∀t ∈ ps,t < tmps.size)→(∀t,Rv G (get s t) (tmps.getD t undef))→
  ((ps.zip vs).foldl (fun t (p,v)=>t.setIfInBounds p v) tmps).size=tmps.size∧∀t,Rv G (get (Zk s ps args) t) (((ps.zip vs).foldl (fun t (p,v)=>t.setIfInBounds p v) tmps).getD t undef)
 | [],args,vs,s,tmps,_,_,_,h=>by simpa [Zk] using h
 | t :: ps,[],vs,s,tmps,_,hl,_,_=>by simp at hl
 | t :: ps,x :: args,vs,s,tmps,hv,hl,hb,h=>by
  simp only[RvL] at hv
  obtain⟨v,vr,rfl,h1,h2⟩:=hv
  have ht:=hb t (by simp)
  have:=roundSlots_ok ps args vr ((t,x) :: s) (tmps.setIfInBounds t v) h2 (by simpa using hl) (fun k hk=>by simpa using hb k (by simp[hk])) (fun k=>?_)
  ·simpa [Zk] using this
  ·simp only[get]
   by_cases hk:k=t
   ·subst hk;rw[if_pos rfl];simpa [ht] using h1
   ·rw[if_neg hk]
    have:(tmps.setIfInBounds t v).getD k undef=tmps.getD k undef:=by
     simp[Array.getD_eq_getD_getElem?,Array.getElem?_setIfInBounds_ne (Ne.symm hk)]
    rw[this];exact h k
def qU [Vars] (w0:World) (n:Nat) (G:Gh) (K:AV→zI→Nat→Prop) (e:Ending) (w':World):Prop:=
 ∃G' r x h' n',e=.returned r∧(Ext n G G'∧G'.own=G.own)∧Inv w0 G' h' w'∧Zs n' G'∧n≤n'∧Rv G' x r∧K x h' n'
theorem yield_ok [Vars] {P:Program} {w0:World} {G:Gh} {h:zI} {w:World} {m n:Nat} {args:List AV} {vs:List Value} {K:AV→zI→Nat→Prop} (I:Inv w0 G h w) (hf:Zs n G) (hv:RvL G args vs) (hy:yieldK P m args h n K)
  {b lo t:Nat} (hreg:G.reg m=some (b,lo,t)) (r:Option Nat) :
  ∃fn tmps asg body,(Instr.yield b vs.toArray).run P w=.ok (.round b fn tmps asg body) w∧RoundIn (FR r) 0 P b fn tmps asg body w (qU w0 n G K):=by
 unfold yieldK at hy
 split at hy
 ·rename_i nt s ps asg body hm
  obtain⟨⟨hlen,hps⟩,hc⟩:=hy
  obtain⟨b',fn,tmps,D,h1,h2,h3,h4,h5⟩:=I.obj m _ hm
  rw[hreg] at h1
  simp only[Option.some.injEq,Prod.mk.injEq] at h1
  obtain⟨rfl,rfl,rfl⟩:=h1
  have hvl:=hv.length
  have hyr:=run_yield (P:=P) (args:=vs.toArray) h3 (by simp only[List.size_toArray];omega)
  refine⟨_,_,_,_,hyr,?_⟩
  have hmn:m < n:=by
   rcases Nat.lt_or_ge m n with h' | h'
   ·exact h'
   ·rw[hf m h'] at hreg;cases hreg
  obtain⟨G1,hG1⟩:∃G1:Gh,G1 = {G with own:=[],base:=(G.own ++ G.base.1,[],G.base.2.2),lps:=b :: G.lps}:=⟨_,rfl⟩
  have r1:G1.reg=G.reg:=by rw[hG1]
  have i1:G1.imm=G.imm:=by rw[hG1]
  have hv1:VLe G G1:=⟨fun k r e=>by rw[r1];exact e,fun a v e=>by rw[i1];exact e⟩
  have I1:Inv w0 G1 h w:=I.reoth r1 i1 (by
   rw[hG1]
   refine⟨by simp,fun k hk=>?_,by simpa using I.oth.nd,fun k hk=>?_,I.oth.old,I.oth.vars,I.oth.tabs⟩
   ·rcases List.mem_append.1 hk with h' | h'
    ·exact (I.oth.own k h').1
    ·exact I.oth.base k h'
   ·rcases List.mem_cons.1 hk with rfl | h'
    ·exact⟨_,h3⟩
    ·exact I.oth.lps k h')
  have htm:(ps.zip vs.toArray).foldl (fun tmps (t,a)=>tmps.setIfInBounds t a) tmps=(ps.toList.zip vs).foldl (fun t (p,v)=>t.setIfInBounds p v) tmps:=by
   rw[←Array.foldl_toList,Array.toList_zip]
  have hps':∀t ∈ ps.toList,t < tmps.size:=fun t ht=>by
   rw[h4]
   have:=(Array.all_eq_true_iff_forall_mem.1 hps) t (by simpa using ht)
   simpa using this
  obtain⟨hsz,hsl⟩:=roundSlots_ok ps.toList args vs s tmps hv (by simpa using hlen) hps' h5
  have S1:Sim w0 G1 ⟨nt,Zk s ps.toList args,h,n⟩ {tmps:=(ps.zip vs.toArray).foldl (fun tmps (t,a)=>tmps.setIfInBounds t a) tmps,defers:=[]} w:=
   ⟨I1,by simp only[htm,hsz,h4],by rw[hG1];rfl,fun t=>by simp only[htm];exact (hsl t).mono hv1,fun k hk=>by rw[r1];exact hf k hk⟩
  have hlps:∀G2:Gh,Ext n G1 G2→∀l,some b=some l→l ∈ G2.lps:=fun G2 e l hl=>by
   cases hl;exact e.lps _ (by rw[hG1];simp)
  have fin:∀(nt:Nat) (s:List (Nat × AV)) (ps:Array Tmp) (asg body:Code) (jump:Option Code) (stt:LoopState) (x:AV) (G2:Gh) (st2:St) (a2:Act) (w2:World),Ext n G1 G2→n≤st2.n→Sim w0 G2 st2 a2 w2→st2.h m=some (.loop .busy none nt s ps asg body)→
    (stt=if jump.isNone then .ready else .done)→x=.c (.bool jump.isNone)→K x (st2.h.upd m (some (.loop stt jump nt s ps asg body))) st2.n→
    ∃v w',(Instr.endRound b jump).run P w2=.ok v w'∧qU w0 n G K (.returned v) w':=by
   intro nt s ps asg body jump stt x G2 st2 a2 w2 hE hn S2 hm2 hstt hx hK
   subst hstt
   have hreg2:G2.reg m=some (b,0,1):=by rw[hE.reg m hmn,r1];exact hreg
   obtain⟨b',fn',tmps',D',g1,g2,g3,g4,g5⟩:=S2.inv.obj m _ hm2
   rw[hreg2] at g1;cases g1
   have hrun:=run_endRound (P:=P) jump g3
   have I2:=S2.inv.setLoop hm2 hreg2 g3 (if jump.isNone then .ready else .done) jump
   obtain⟨l2,hl2⟩:=hE.own
   have hb2:G2.base=(G.own ++ G.base.1,[],G.base.2.2):=by rw[hE.base,hG1]
   refine⟨_,_,hrun,{G2 with own:=G.own,base:=G.base},_,x,_,st2.n,rfl,⟨⟨fun k hk=>?_,fun a v e=>hE.imm a v (by rw[i1];exact e),⟨[],rfl⟩,rfl,fun k hk=>hE.lps k (by rw[hG1];simp[hk])⟩,rfl⟩,(I2.reoth (by rfl) (by rfl) ?_),fun k hk=>S2.fresh k hk,hn,?_,hK⟩
   ·exact (hE.reg k hk).trans (by rw[r1])
   ·have o2:=I2.oth
    refine⟨fun k hk=>⟨o2.base k (by rw[hb2];exact List.mem_append.2 (.inl hk)),(I.oth.own k hk).2⟩,fun k hk=>o2.base k (by rw[hb2];exact List.mem_append.2 (.inr hk)),I.oth.nd,o2.lps,fun a v e hl=>by have:=o2.old a v e hl;rw[hb2] at this;exact this,o2.vars,o2.tabs⟩
   ·rw[hx];simp[Rv,Value.oneCell']
  refine roundIn_of_wpIn (F:=FR r) trivial (wpIn_mono (hc (some b) w0 G1 _ w (hlps G1 (Ext.refl n G1)) S1 (Nat.le_refl _)) ?_)
  rintro e a1 w1 ⟨G2,st2,hE,hn,S2,hq⟩
  cases e with
  | normal=>
   obtain⟨nt',s',ps',asg',body',hm2,hbody⟩:=hq
   have hreg2:G2.reg m=some (b,0,1):=by rw[hE.reg m hmn,r1];exact hreg
   obtain⟨b',fn',tmps',D',g1,g2,g3,g4,g5⟩:=S2.inv.obj m _ hm2
   rw[hreg2] at g1;cases g1
   refine⟨_,run_beginRound g3 rfl,?_⟩
   have I3:=S2.inv.setLoop hm2 hreg2 g3 .busy none
   have S3:Sim w0 G2 {st2 with h:=st2.h.upd m (some (.loop .busy none nt' s' ps' asg' body'))} a1 (w1.putObj b (.loop {state:=.busy,pending:=none,fn:=fn',tmps:=tmps',params:=ps',assign:=asg',body:=body',defers:=D'})):=
    ⟨I3,S2.size,S2.defers,S2.slots,S2.fresh⟩
   refine wpIn_mono (hbody (some b) w0 G2 a1 _ (hlps G2 hE) S3 hn) ?_
   rintro e a3 w3 ⟨G3,st3,hE3,hn3,S4,hq3⟩
   cases e with
   | normal=>obtain⟨_,_,_,_,_,q1,q2⟩:=hq3;exact fin _ _ _ _ _ none _ _ G3 st3 a3 w3 (hE.trans hE3) hn3 S4 q1 rfl rfl q2
   | ret=>obtain⟨_,_,_,_,_,q1,q2⟩:=hq3;exact fin _ _ _ _ _ (some .ret) _ _ G3 st3 a3 w3 (hE.trans hE3) hn3 S4 q1 rfl rfl q2
   | exit id=>obtain⟨_,_,_,_,_,q1,q2⟩:=hq3;exact fin _ _ _ _ _ (some (.exit id)) _ _ G3 st3 a3 w3 (hE.trans hE3) hn3 S4 q1 rfl rfl q2
   | _=>exact hq3.elim
  | _=>exact hq.elim
 ·exact hy.elim
theorem op_ok [Vars] {P:Program} {w0:World} {G0:Gh} {fl base i:Nat} {rem:List Nat} {G:Gh} {st:St} {a:Act} {w:World} {ops:Array Oper} {o:Oper} {K:St→Prop} {Q:Exit→Act→World→Prop}
  (S:RSim w0 G0 fl base (i :: rem) G st a w) (hfl:fl≤base) (hi:i ∉ rem) (h:aOp P ops (base + i) o st K) {next:Act→World→Prop}
  (hn:∀G' st' a' w',RSim w0 G0 fl base rem G' st' a' w'→K st'→next a' w') (r:Option Nat) :
  if Region.wanted o (yielded ops a.tmps) then o.wpIn (FR r) 0 P a w next Q else (∀f,o.about P w a.eval=some f→(FR r).fn f)∧next (a.put o.dst undef) w:=by
 obtain⟨hd,h⟩:=h
 unfold Zx at h
 have hsim:=S.sim
 have hnm:=S.names i (by simp)
 have hrem:∀j ∈ rem,G.reg (base + j)=none∧base + j < st.n:=fun j hj=>S.names j (by simp[hj])
 have hev:∀x,Rv G (ev st.s x) (a.eval x):=Qe hsim.inv.oth.vars hsim.slots
 have hwant:∀b,ZR ops st.s o.guard=some b→Region.wanted o (yielded ops a.tmps)=b:=by
  intro b hb
  unfold ZR at hb
  unfold Region.wanted
  cases hg:o.guard with
  | none=>rw[hg] at hb;simpa using hb
  | some jw=>
   obtain⟨j,want⟩:=jw
   rw[hg] at hb
   simp only at hb ⊢
   cases hj:(ops[j]?).bind (·.dst) with
   | none=>rw[hj] at hb;cases hb
   | some d=>
    rw[hj] at hb
    simp only at hb
    split at hb
    ·rename_i c hc
     cases hb
     have:=hsim.slots d
     rw[hc] at this
     simp only[Rv] at this
     have hsome:a.tmps[d]? = some (.bool c):=by
      have h1:=this.1
      rw[Array.getD_eq_getD_getElem?] at h1
      cases hq:a.tmps[d]? with
      | none=>rw[hq] at h1;simp[undef] at h1
      | some u=>rw[hq] at h1;simp at h1;rw[h1]
     simp[yielded,hj,hsome]
    ·rename_i vs hc
     cases hb
     have:=hsim.slots d
     rw[hc] at this
     simp only[Rv] at this
     obtain⟨us,hu,_⟩:=this
     have hy:yielded ops a.tmps j=none:=by
      simp only[yielded,hj,Option.bind_some]
      cases hq:a.tmps[d]? with
      | none=>rfl
      | some u=>
       rw[Array.getD_eq_getD_getElem?,hq] at hu
       simp at hu
       subst hu;rfl
     rw[hy];rfl
    ·cases hb
 split at h
 ·exact h.elim
 ·rename_i hw
  rw[hwant _ hw]
  simp only[Bool.false_eq_true,if_false]
  refine⟨fun _ _=>trivial,?_⟩
  refine hn G _ _ _ ⟨⟨?_,?_,?_,?_,?_⟩,S.ext,by rw[put_nt.2.2];exact S.lim,fun j hj=>?_,S.own⟩ h
  ·rw[put_nt.2.1];exact hsim.inv
  ·rw[Jv,put_nt.1];exact hsim.size
  ·rw[jj];exact hsim.defers
  ·exact JA hsim.slots hsim.size hd (by simp only[Rv];exact⟨#[],rfl,by simp[RvL]⟩)
  ·rw[put_nt.2.2];exact hsim.fresh
  ·rw[put_nt.2.2];exact hrem j hj
 ·rename_i hw
  rw[hwant _ hw]
  simp only[if_true]
  have hnd:∀(x:AV) (h':zI),zc P (base + i) o.op st.s st.h=some (x,h')→∀c,o.op≠.defer c:=fun x h' hx c e=>by
   rw[e] at hx;simp[zc] at hx
  have simple:∀(x:AV) (h':zI),zc P (base + i) o.op st.s st.h=some (x,h')→K (put {st with h:=h'} o.dst x)→o.wpIn (FR r) 0 P a w next Q:=by
   intro x h' hx hk
   obtain⟨cv,w',G',hr,hreg,hle,I',hv⟩:=step_ok hsim.inv hnm.1 hev o hx
   have hRS:RSim w0 G0 fl base rem G' (put {st with h:=h'} o.dst x) (a.put o.dst cv) w':=by
    refine⟨⟨?_,?_,?_,?_,?_⟩,⟨fun k hk=>?_,fun b v e=>hle.imm _ _ (S.ext.imm _ _ e),by rw[hle.own];exact S.ext.own,by rw[hle.base];exact S.ext.base,fun b hb=>hle.lps _ (S.ext.lps _ hb)⟩,by rw[put_nt.2.2];exact S.lim,fun j hj=>?_,hle.own.trans S.own⟩
    ·rw[put_nt.2.1];exact I'
    ·rw[Jv,put_nt.1];exact hsim.size
    ·rw[jj,hle.own,hle.base];exact hsim.defers
    ·exact JA (st:={st with h:=h'}) (fun t=>(hsim.slots t).mono hle.v) hsim.size hd hv
    ·rw[put_nt.2.2]
     intro k hk
     simp only at hk
     rw[hreg k (by have:=hnm.2;omega)];exact hsim.fresh k hk
    ·rw[hreg k (by omega)];exact S.ext.reg k hk
    ·rw[put_nt.2.2]
     have hne:base + j≠base + i:=fun e=>hi (by have:j=i:=by omega
                                               exact this ▸ hj)
     rw[hreg _ hne];exact hrem j hj
   refine⟨fun _ _=>trivial,?_⟩
   rw[Oper.semAt_eq _ _ _ (hnd x h' hx)]
   rcases hr with hr | ⟨hr,rfl⟩
   ·simp only[hr,Oper.uponIn_value];exact hn _ _ _ _ hRS hk
   ·simp only[hr,Oper.uponIn_skip];exact hn _ _ _ _ hRS hk
  split at h
  ·rename_i f args hop
   obtain⟨ats,aa,hop',rfl⟩:∃ats aa,o.op=.call {callee:=.value f,args:=aa,argTypes:=ats}∧aa.toList=args:=by
    unfold Zo at hop
    split at hop
    ·rename_i f' a' t' he
     simp only[Option.some.injEq,Prod.mk.injEq] at hop
     obtain⟨rfl,rfl⟩:=hop
     exact⟨_,_,he,rfl⟩
    ·cases hop
   have hnd:∀c,o.op≠.defer c:=fun c e=>by rw[e] at hop';cases hop'
   have hback:∀e w',qU w0 st.n G (fun x h n=>K (put ⟨st.nt,st.s,h,n⟩ o.dst x)) e w'→∃rv,e=.returned rv∧next (a.put o.dst rv) w':=by
    rintro e w' ⟨G',rv,x,h',n',rfl,⟨e2,eo⟩,e3,e4,e5,e6,e7⟩
    have hle:=e2.le hsim.fresh
    refine⟨rv,rfl,hn _ _ _ _ ⟨⟨?_,?_,?_,?_,?_⟩,⟨fun k hk=>?_,fun b v e=>hle.imm _ _ (S.ext.imm _ _ e),by rw[eo];exact S.ext.own,e2.base.trans S.ext.base,fun b hb=>e2.lps _ (S.ext.lps _ hb)⟩,by rw[put_nt.2.2];exact Nat.le_trans S.lim e5,fun j hj=>?_,eo.trans S.own⟩ e7⟩
    ·rw[put_nt.2.1];exact e3
    ·rw[Jv,put_nt.1];exact hsim.size
    ·rw[jj,eo,e2.base];exact hsim.defers
    ·exact JA (st:=⟨st.nt,st.s,h',n'⟩) (fun t=>(hsim.slots t).mono hle) hsim.size hd e6
    ·rw[put_nt.2.2];exact e4
    ·rw[e2.reg k (by have:=hnm.2;omega)];exact S.ext.reg k hk
    ·rw[put_nt.2.2]
     obtain⟨q1,q2⟩:=hrem j hj
     exact⟨by rw[e2.reg _ q2];exact q1,by simp only;omega⟩
   refine⟨fun _ _=>trivial,?_⟩
   rw[Oper.semAt_eq _ _ _ hnd]
   unfold callK at h
   split at h
   ·rename_i g first captured hf
    have hfv:=hev f
    rw[hf] at hfv
    simp only[Rv] at hfv
    obtain⟨f',c',hfe,hfr,hcr⟩:=hfv
    have hargs:=RvL.append (RvL.append hfr (JH hev aa.toList)) hcr
    have harr:(f'.toList ++ aa.toList.map a.eval ++ c'.toList).toArray=f' ++ aa.map a.eval ++ c':=by
     apply Array.ext';simp
    rcases Or.symm h with hx | ⟨hg,hc⟩
    ·obtain⟨rv,w',h1,G',x,h',n',e1,e2,e3,e4,e5,e6⟩:=hx w0 G w _ hsim.inv hsim.fresh hargs
     rw[harr] at h1
     have hrun:(execOp a.eval o).run P w=.ok (.value rv) w':=by
      simp only[execOp,hop',resolve,hfe,Deferred.ofValue,Sem.run_bind,Sem.run_pure,Result.andThen_ok,invoke,h1]
     simp only[hrun,Oper.uponIn_value]
     obtain⟨rv',e,hnx⟩:=hback (.returned rv) w' ⟨G',rv,x,h',n',rfl,e1,e2,e3,e4,e5,e6⟩
     cases e
     exact hnx
    have hcall:=hc w0 G w _ hsim.inv hsim.fresh hargs
    rw[harr] at hcall
    have hrun:(execOp a.eval o).run P w=.ok (.enter g (f' ++ aa.map a.eval ++ c')) w:=by
     simp only[execOp,hop',resolve,hfe,Deferred.ofValue,Sem.run_bind,Sem.run_pure,Result.andThen_ok,invoke,jp hg]
    simp only[hrun,Oper.uponIn_enter]
    refine⟨qZ r,calls_FR (hcall.mono ?_)⟩
    intro e w' hb
    obtain⟨rv,rfl,hnx⟩:=hback e w' hb
    exact hnx
   ·rename_i m hf
    have hfv:=hev f
    rw[hf] at hfv
    simp only[Rv] at hfv
    obtain⟨b,lo,t,hreg,hfe⟩:=hfv
    obtain⟨fn,tmps,asg,body,hy1,hy2⟩:=yield_ok (P:=P) hsim.inv hsim.fresh (JH hev aa.toList) h hreg r
    have harr:(aa.toList.map a.eval).toArray = #[] ++ aa.map a.eval:=by apply Array.ext';simp
    rw[harr] at hy1
    have hrun:(execOp a.eval o).run P w=.ok (.round b fn tmps asg body) w:=by
     simp only[execOp,hop',resolve,hfe,Deferred.ofValue,Sem.run_bind,Sem.run_pure,Result.andThen_ok,invoke,hy1]
    simp only[hrun,Oper.uponIn_round]
    refine⟨qZ r,hy2.mono ?_⟩
    intro e w' hb
    obtain⟨rv,rfl,hnx⟩:=hback e w' hb
    exact hnx
   ·exact h.elim
  ·unfold jq at h
   split at h
   ·rename_i x h' hx
    exact simple x h' hx h
   ·exact h.elim
end Go.AM
