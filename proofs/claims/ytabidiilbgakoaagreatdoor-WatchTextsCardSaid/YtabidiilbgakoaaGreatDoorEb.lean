/- Words that are reserved; names. Conditions: as each theorem says. -/
import Derived.Laws.Strings
import Derived.Test.YtabidiilbgakoaaGreatDoorEa
namespace Go.AM
open Go.Proofs Cw
set_option maxRecDepth 10000
set_option maxHeartbeats 4000000
def resl:List ByteArray:=(match Go.Proofs.SAN.resv with | .fslc _ _ _ l=>l | _=>[]).map fun (x:AV)=>match x with | AV.c (Value.string s)=>s | _=>ByteArray.empty
theorem resl_eq:Go.Proofs.SAN.resv=.fslc false false 1 (resl.map sv):=by kernel_rfl
theorem resl_len:resl.length=21:=by kernel_rfl
theorem fields211:zK Tryz.prog 216 [Go.Proofs.SAN.words] (.fslc false false 1 (resl.map sv)):=by
 intro h n
 rw[←resl_eq]
 exact Go.Proofs.SAN.tab1_ok _ (List.mem_singleton.2 rfl) h n _ fun x hx=>by
  rw[List.mem_singleton.1 hx];exact⟨rfl,rfl,rfl⟩
theorem reserved174 (w:ByteArray):zK Tryz.prog 189 [sv w] (bv (inS w resl)):=by
 intro h n
 have k1:=fields211
 have k2:=contains84 false false resl w (by rw[resl_len];omega)
 refine zQ.pure (zQ.entry (by kernel_rfl) fun hb _=>za Tryz.func189 rfl (by kernel_rfl) (by simp[Tryz.ntmps189]) ?_)
 simp only[Go.Proofs.SAN.words] at k1
 generalize inS w resl=y at *
 generalize List.map sv resl=L at *
 repeat' (first|(refine zF fun K hK=>?_)|(refine zA fun K hK=>?_;simp (disch:=omega) [go_sem, *,Tryz.ntmps189])|(apply zC.out hK;clear hK K;try with_reducible dsimp only[zG])|(with_reducible refine zK.gcall (k1) ?_;try simp (disch:=omega) [go_sem, *])|(with_reducible refine zK.gcall (k2) ?_;try simp (disch:=omega) [go_sem, *]))
 exact zR
theorem word138 (w:ByteArray):zK Tryz.prog 144 [sv w] (iv .i64 (if 24 < w.size then 0 else if inS w resl then 3 else 1)):=by
 intro h n
 have k1:=reserved174 w
 refine zQ.pure (zQ.entry (by kernel_rfl) fun hb _=>za Tryz.func144 rfl (by kernel_rfl) (by simp[Tryz.ntmps144]) ?_)
 by_cases h1:24 < w.size
 ·rw[if_pos h1]
  repeat' (first|(refine zF fun K hK=>?_)|(refine zA fun K hK=>?_;simp (disch:=omega) [go_sem, *,zO,Tryz.ntmps144])|(apply zC.out hK;clear hK K;try with_reducible dsimp only[zG])|(apply zC.out ht;clear ht hf Kt Kf)|(refine zJ ?_)|(refine zH fun Kt Kf ht hf=>?_;simp (disch:=omega) [go_sem, *];try (refine⟨fun hc=>?_,fun hc=>?_⟩ <;> try (exfalso;omega))))
  exact zR
 ·rw[if_neg h1]
  generalize inS w resl=y at *
  cases y
  ·simp only[Bool.false_eq_true,if_false]
   repeat' (first|(refine zF fun K hK=>?_)|(refine zA fun K hK=>?_;simp (disch:=omega) [go_sem, *,zT,Tryz.ntmps144])|(apply zC.out hK;clear hK K;try with_reducible dsimp only[zG])|(apply zC.out hf;clear ht hf Kt Kf)|(with_reducible refine zK.gcall (k1) ?_;try simp (disch:=omega) [go_sem, *])|(refine zJ ?_)|(refine zL ?_;simp only[zG,zN])|(refine zH fun Kt Kf ht hf=>?_;simp (disch:=omega) [go_sem, *];try (refine⟨fun hc=>?_,fun hc=>?_⟩ <;> try (exfalso;omega))))
   exact zR
  ·simp only[if_true]
   repeat' (first|(refine zF fun K hK=>?_)|(refine zA fun K hK=>?_;simp (disch:=omega) [go_sem, *,zT,Tryz.ntmps144])|(apply zC.out hK;clear hK K;try with_reducible dsimp only[zG])|(apply zC.out ht;clear ht hf Kt Kf)|(apply zC.out hf;clear ht hf Kt Kf)|(with_reducible refine zK.gcall (k1) ?_;try simp (disch:=omega) [go_sem, *])|(refine zJ ?_)|(refine zH fun Kt Kf ht hf=>?_;simp (disch:=omega) [go_sem, *];try (refine⟨fun hc=>?_,fun hc=>?_⟩ <;> try (exfalso;omega))))
   exact zR
def Zn (s:ByteArray):Bool:=decide (1≤s.size) && decide (s.size≤24) && (match s.data.toList with | x :: _=>JM x.toNat | []=>false) && !inS s resl && decide (runE s=s.size)
end Go.AM
namespace Go.AM
open Go.Proofs Cw
set_option maxRecDepth 10000
set_option maxHeartbeats 4000000
theorem nameOk_cons (s:ByteArray) (x:UInt8) (hz:0 < s.size) (hx:s[0]=x):Zn s=(decide (s.size≤24) && JM x.toNat && !inS s resl && decide (runE s=s.size)):=by
 have h0:0 < s.data.toList.length:=by rw[Array.length_toList];exact hz
 have e:∃r,s.data.toList=x :: r:=by
  match hd:s.data.toList,h0 with
  | y :: r,_=>
   refine⟨r,?_⟩
   have:s.data.toList[0]? = some x:=by rw[List.getElem?_eq_getElem h0,←hx];rfl
   rw[hd] at this;simp at this;rw[this]
 obtain⟨r,hr⟩:=e
 unfold Zn
 rw[hr]
 simp only[show (1≤s.size)=True by simp;omega,decide_true,Bool.true_and]
theorem named83 (s:ByteArray) (hl:s.size≤1000000):zK Tryz.prog 75 [sv s] (bv (Zn s)):=by
 intro h n
 have k2:=run136 s hl
 have k3:=word138 s
 refine zQ.pure (zQ.entry (by kernel_rfl) fun hb _=>za Tryz.func75 rfl (by kernel_rfl) (by simp[Tryz.ntmps75]) ?_)
 by_cases hz:0 < s.size
 ·obtain⟨x,hx⟩:∃x,s[0]=x:=⟨_,rfl⟩
  have k1:=letter135 x.toNat
  rw[nameOk_cons s x hz hx]
  have hne:s.toList.isEmpty=false:=by
   rw[ByteArray.toList_eq]
   have h0:0 < s.data.toList.length:=by rw[Array.length_toList];exact hz
   cases hs:s.data.toList with
   | nil=>rw[hs] at h0;simp at h0
   | cons a r=>rfl
  have hrl:((runE s:Int) == (s.size:Int))=decide (runE s=s.size):=by rw[Bool.eq_iff_iff];simp;omega
  generalize runE s=e at *
  generalize inS s resl=y at *
  cases hlo:JM x.toNat with
  | false=>
   rw[hlo] at k1
   simp only[Bool.and_false,Bool.false_and]
   clear hlo
   repeat' (first|(refine zF fun K hK=>?_)|(refine zA fun K hK=>?_;simp (disch:=omega) [go_sem, *,Tryz.ntmps75])|(apply zC.out hK;clear hK K;try with_reducible dsimp only[zG])|(with_reducible refine zK.gcall (k1) ?_;try simp (disch:=omega) [go_sem, *]))
   exact zR
  | true=>
   rw[hlo] at k1
   simp only[Bool.and_true]
   clear hlo
   by_cases he:e=s.size
   ·rw[decide_eq_true he] at hrl ⊢
    clear he
    by_cases h24:24 < s.size
    ·rw[if_pos h24] at k3
     rw[decide_eq_false (by omega)]
     simp only[Bool.false_and]
     repeat' (first|(refine zF fun K hK=>?_)|(refine zA fun K hK=>?_;simp (disch:=omega) [go_sem, *,Tryz.ntmps75])|(apply zC.out hK;clear hK K;try with_reducible dsimp only[zG])|(with_reducible refine zK.gcall (k1) ?_;try simp (disch:=omega) [go_sem, *])|(with_reducible refine zK.gcall (k2) ?_;try simp (disch:=omega) [go_sem, *])|(with_reducible refine zK.gcall (k3) ?_;try simp (disch:=omega) [go_sem, *]))
     exact zR
    ·rw[if_neg h24] at k3
     rw[decide_eq_true (by omega)]
     cases y
     ·simp only[Bool.false_eq_true,if_false] at k3
      simp only[Bool.not_false,Bool.and_true]
      repeat' (first|(refine zF fun K hK=>?_)|(refine zA fun K hK=>?_;simp (disch:=omega) [go_sem, *,Tryz.ntmps75])|(apply zC.out hK;clear hK K;try with_reducible dsimp only[zG])|(with_reducible refine zK.gcall (k1) ?_;try simp (disch:=omega) [go_sem, *])|(with_reducible refine zK.gcall (k2) ?_;try simp (disch:=omega) [go_sem, *])|(with_reducible refine zK.gcall (k3) ?_;try simp (disch:=omega) [go_sem, *]))
      exact zR
     ·simp only[if_true] at k3
      simp only[Bool.not_true,Bool.and_false,Bool.false_and]
      repeat' (first|(refine zF fun K hK=>?_)|(refine zA fun K hK=>?_;simp (disch:=omega) [go_sem, *,Tryz.ntmps75])|(apply zC.out hK;clear hK K;try with_reducible dsimp only[zG])|(with_reducible refine zK.gcall (k1) ?_;try simp (disch:=omega) [go_sem, *])|(with_reducible refine zK.gcall (k2) ?_;try simp (disch:=omega) [go_sem, *])|(with_reducible refine zK.gcall (k3) ?_;try simp (disch:=omega) [go_sem, *]))
      exact zR
   ·rw[decide_eq_false he] at hrl ⊢
    simp only[Bool.and_false]
    clear he
    repeat' (first|(refine zF fun K hK=>?_)|(refine zA fun K hK=>?_;simp (disch:=omega) [go_sem, *,Tryz.ntmps75])|(apply zC.out hK;clear hK K;try with_reducible dsimp only[zG])|(with_reducible refine zK.gcall (k1) ?_;try simp (disch:=omega) [go_sem, *])|(with_reducible refine zK.gcall (k2) ?_;try simp (disch:=omega) [go_sem, *]))
    exact zR
 ·have hs:s=⟨#[]⟩:=by
   have h1:s.data.size=0:=by show s.size=0;omega
   cases s;simp at h1;rw[h1]
  subst hs
  have hn:Zn ⟨#[]⟩=false:=by kernel_rfl
  rw[hn]
  clear hl hz hn k2 k3
  repeat' (first|(refine zF fun K hK=>?_)|(refine zA fun K hK=>?_;simp (disch:=omega) [go_sem, *,Tryz.ntmps75])|(apply zC.out hK;clear hK K;try with_reducible dsimp only[zG]))
  exact zR
end Go.AM
