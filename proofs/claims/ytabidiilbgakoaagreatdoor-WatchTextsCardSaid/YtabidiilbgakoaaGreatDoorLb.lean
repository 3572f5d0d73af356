/- The tokens of a source, plainly; versions, plainly. Conditions: as each theorem says. -/
import Derived.Test.YtabidiilbgakoaaGreatDoorLa
import Derived.Test.YtabidiilbgakoaaGreatDoorDd
namespace Go.AM
open Go.Proofs Cw Du
set_option maxRecDepth 10000
set_option maxHeartbeats 4000000
def mkL (s:ByteArray) (i:Nat) (u:Nat):Nat:=
 if u=59∨u=44∨u=40∨u=41∨u=61 then 1
 else if u=60∨u=62 then (if s.data.toList[i + 1]? = some 61 then 2 else 1)
 else if u=33∧s.data.toList[i + 1]? = some 61 then 2 else 0
end Go.AM
namespace Go.AM
open Go.Proofs Cw Du
structure Tk where
 kind:Int
 text:ByteArray
 val:Nat
 pos:Nat
inductive LSt where
 | skip (j:Nat)
 | bad (j:Nat)
 | tok (k:Int) (v j:Nat)
def uppr (u:Nat):Bool:=decide (65≤u) && decide (u≤90)
def nxt (s:ByteArray) (j:Nat) (p:Nat→Bool):Bool:=match s.data.toList[j]? with
 | some x=>p x.toNat
 | none=>false
def qi (s:ByteArray) (i u:Nat):Nat:=if u=48 then i + 1 else JU jk s i
def numV (s:ByteArray) (i u:Nat):Nat:=valN (s.extract i (qi s i u)).data.toList
def Ze (s:ByteArray) (i u:Nat):LSt:=
 if u=32∨u=9∨u=10 then .skip (i + 1)
 else if u=35 then .skip (JU nlf s i)
 else if JM u=true then (if 24 < JU js s i - i then .bad i else .tok (if inS (s.extract i (JU js s i)) resl then 3 else 1) 0 (JU js s i))
 else if jk u=true then (if 10000 < numV s i u then .bad i else if nxt s (qi s i u) (fun w=>js w || uppr w)=true then .bad (qi s i u) else .tok 2 (numV s i u) (qi s i u))
 else if mkL s i u=0 then .bad i else .tok 3 0 (i + mkL s i u)
def lexG (s:ByteArray):Nat→Nat→List Tk→Except Nat (List Tk)
 | 0,_,acc=>.ok acc
 | f + 1,i,acc=>match s.data.toList[i]? with
  | none=>.ok acc
  | some c=>match Ze s i c.toNat with
   | .skip j=>lexG s f j acc
   | .bad j=>.error j
   | .tok k v j=>lexG s f j (acc ++ [⟨k,s.extract i j,v,i⟩])
def Jn (s:ByteArray) (i:Nat) (acc:List Tk):Except Nat (List Tk):=lexG s (s.size - i) i acc
theorem numE_le {s:ByteArray} {i:Nat} {x:UInt8} (hx:s.data.toList[i]? = some x) (hd:jk x.toNat=true):i < qi s i x.toNat∧qi s i x.toNat≤s.size:=by
 have hi:i < s.size:=by have:=(List.getElem?_eq_some_iff.1 hx).1;rw[ZT] at this;exact this
 unfold qi
 split
 ·omega
 ·exact⟨runF_gt hx hd,(runF_le (by omega)).2⟩
theorem num_dgts {s:ByteArray} {i:Nat} {x:UInt8} (hx:s.data.toList[i]? = some x) (hd:jk x.toNat=true):dgts (s.extract i (qi s i x.toNat)).data.toList:=by
 intro c hc
 obtain⟨k,h1,h2,h3⟩:=ext_mem hc
 have key:jk c.toNat=true:=by
  unfold qi at h2
  split at h2
  ·have:k=i:=by omega
   subst this
   rw[hx] at h3;cases h3;exact hd
  ·exact runF_all h1 h2 h3
 simpa [jk] using key
theorem mkL_le {s:ByteArray} {i u:Nat} (hi:i < s.size):i + mkL s i u≤s.size:=by
 have h2:s.data.toList[i + 1]? = some 61→i + 2≤s.size:=fun e=>by have:=(List.getElem?_eq_some_iff.1 e).1;rw[ZT] at this;omega
 unfold mkL
 split
 ·omega
 ·split
  ·split
   ·exact h2 (by assumption)
   ·omega
  ·split
   ·rename_i h;exact h2 h.2
   ·omega
theorem QJ {s:ByteArray} {i:Nat} {x:UInt8} (hx:s.data.toList[i]? = some x) {k:Int} {v j:Nat} (h:Ze s i x.toNat=.tok k v j):i < j∧j≤s.size:=by
 have hi:i < s.size:=by have:=(List.getElem?_eq_some_iff.1 hx).1;rw[ZT] at this;exact this
 unfold Ze at h
 split at h
 ·cases h
 ·split at h
  ·cases h
  ·split at h
   ·rename_i hl
    split at h
    ·cases h
    ·cases h
     exact⟨runF_gt hx (by simp[js,hl]),(runF_le (by omega)).2⟩
   ·split at h
    ·rename_i hd
     split at h
     ·cases h
     ·split at h
      ·cases h
      ·cases h;exact numE_le hx hd
    ·split at h
     ·cases h
     ·cases h
      have:=mkL_le (u:=x.toNat) hi
      omega
theorem Qj {s:ByteArray} {i:Nat} {x:UInt8} (hx:s.data.toList[i]? = some x) {j:Nat} (h:Ze s i x.toNat=.skip j):i < j∧j≤s.size:=by
 have hi:i < s.size:=by have:=(List.getElem?_eq_some_iff.1 hx).1;rw[ZT] at this;exact this
 unfold Ze at h
 split at h
 ·cases h;omega
 ·split at h
  ·cases h
   rename_i h35
   exact⟨runF_gt hx (by rw[h35];rfl),(runF_le (by omega)).2⟩
  ·split at h
   ·split at h <;> cases h
   ·split at h
    ·split at h
     ·cases h
     ·split at h <;> cases h
    ·split at h <;> cases h
theorem Je (s:ByteArray):∀(f i:Nat) (acc:List Tk),s.size - i≤f→i≤s.size→lexG s f i acc=lexG s (s.size - i) i acc
 | 0,i,acc,h,hi=>by rw[show s.size - i=0 by omega]
 | f + 1,i,acc,h,hi=>by
  rcases Nat.lt_or_ge i s.size with hlt | hge
  ·obtain⟨g,hg⟩:∃g,s.size - i=g + 1:=⟨s.size - i - 1,by omega⟩
   rw[hg]
   simp only[lexG]
   split
   ·rfl
   ·rename_i c hc
    split
    ·rename_i j hj
     obtain⟨a,b⟩:=Qj hc hj
     rw[Je s f j acc (by omega) b,Je s g j acc (by omega) b]
    ·rfl
    ·rename_i k v j hj
     obtain⟨a,b⟩:=QJ hc hj
     rw[Je s f j _ (by omega) b,Je s g j _ (by omega) b]
  ·have hn:s.data.toList[i]? = none:=List.getElem?_eq_none (by rw[ZT];omega)
   rw[show s.size - i=0 by omega]
   simp only[lexG,hn]
theorem JI {s:ByteArray} {i:Nat} {x:UInt8} (hx:s.data.toList[i]? = some x) (acc:List Tk):Jn s i acc=match Ze s i x.toNat with
  | .skip j=>Jn s j acc
  | .bad j=>.error j
  | .tok k v j=>Jn s j (acc ++ [⟨k,s.extract i j,v,i⟩]):=by
 have hi:i < s.size:=by have:=(List.getElem?_eq_some_iff.1 hx).1;rw[ZT] at this;exact this
 obtain⟨g,hg⟩:∃g,s.size - i=g + 1:=⟨s.size - i - 1,by omega⟩
 rw[Jn,hg,lexG,hx]
 simp only
 split
 ·rename_i j hj
  obtain⟨a,b⟩:=Qj hx hj
  rw[Je s g j acc (by omega) b,Jn]
 ·rfl
 ·rename_i k v j hj
  obtain⟨a,b⟩:=QJ hx hj
  rw[Je s g j _ (by omega) b,Jn]
theorem lexA_end (s:ByteArray) (acc:List Tk):Jn s s.size acc=.ok acc:=by rw[Jn,Nat.sub_self];rfl
end Go.AM
namespace Go.AM
open Cw Du
mutual
def sayC:Cnd→Cnd
 | .mk k f o n _ _ _ ks=>.mk k f o n true true 0 (QD ks)
def QD:List Cnd→List Cnd
 | []=>[]
 | c :: r=>sayC c :: QD r
end
theorem qN:∀l:List Cnd,QD l=l.map sayC
 | []=>rfl
 | c :: r=>by rw[QD,qN r,List.map_cons]
def sayL (l:Lin):List Int × List (List UInt8) × List Int:=([l.kind,l.fr,l.to,l.ev],[l.tower.toList,l.person.toList,l.other.toList],l.exc)
def sayO (o:Ordr):List UInt8 × Int × Cnd:=(o.name.toList,o.rank,sayC o.cond)
end Go.AM
namespace Go.AM
open Go.Proofs Cw Du
set_option maxRecDepth 10000
set_option maxHeartbeats 4000000
theorem J2 {P:Program} {fl:Nat} {c:Code} {K:St→Prop} {Q:Exit→St→Prop} {st:St} (Mid:St→Prop) (h2:∀s,Mid s→K s) (h1:ze P fl c (zG (fun s=>∃s',Wk s s'∧Mid s') Q) st):ze P fl c (zG K Q) st:=
 qx h1 fun e s hq=>by
  cases e with
  | normal=>obtain⟨s',k,m⟩:=hq;exact⟨s',k,h2 s' m⟩
  | _=>exact⟨s,⟨rfl,rfl,fun _=>.inr rfl,fun _ _ e=>e⟩,hq⟩
end Go.AM
