/- A condition printed; a watch printed. Conditions: as each theorem says. -/
import Derived.Test.YtabidiilbgakoaaGreatDoorPb
import Derived.Test.YtabidiilbgakoaaGreatDoorRa
namespace Go.AM
open Go.Proofs Cw Du
set_option maxRecDepth 10000
set_option maxHeartbeats 4000000
def pcT (c:Cnd):ByteArray:=if Cw.formed c then shC c else ⟨#[]⟩
def pcE (c:Cnd):Int:=if Cw.formed c then 0 else 7
theorem Qu {c:Cnd} (h:Cw.formed c=true):Cw.ok c=true∧tot c≤60:=by
 simp only[Cw.formed,Bool.and_eq_true,decide_eq_true_eq] at h
 exact⟨h.1.1,h.1.2⟩
theorem PrintCond_spec (c:Cnd) (hw:wf c) (hs:tot c≤900000):zK Tryz.prog 27 [zn c] (.tup [sv (pcT c),iv .i64 (pcE c)]):=by
 intro h n
 have k1:=qB c hw hs
 refine zQ.pure (zQ.entry (by kernel_rfl) fun hb _=>za Tryz.func27 rfl (by kernel_rfl) (by simp[Tryz.ntmps27]) ?_)
 unfold pcT pcE
 cases hf:Cw.formed c with
 | false=>
  rw[hf] at k1
  obtain⟨k,f,o,nn,nl,fu,s,ks⟩:=c
  simp only[zn] at *
  generalize ZE ks=EL at *
  clear hw hs hf
  repeat' (first|(refine zF fun K hK=>?_)|(refine zA fun K hK=>?_;simp (disch:=omega) [go_sem, *,Tryz.ntmps27])|(apply zC.out hK;clear hK K;try with_reducible dsimp only[zG])|(apply zC.out ht;clear ht hf Kt Kf)|(with_reducible refine zK.gcall (k1) ?_;try simp (disch:=omega) [go_sem, *])|(refine zH fun Kt Kf ht hf=>?_;simp (disch:=omega) [go_sem, *];try (refine⟨fun hc=>?_,fun hc=>?_⟩ <;> try (exfalso;omega))))
  (refine zb ?_;try dsimp only[zG,zN];refine⟨by simp,_,(by first | rfl|(simp (disch:=omega) [go_sem,zB] <;> rfl)),?_⟩;refine zY ⟨fun k hk=>(by first | rfl|(repeat rw[zB _ _ _ _ (by omega)])),(by simp[go_sem,below,belowL]),(by simp[go_sem] <;> omega),by simp,by simp⟩)
 | true=>
  rw[hf] at k1
  obtain⟨g1,g2⟩:=Qu hf
  have k2:=show_spec (tot c) c (Nat.le_refl _) (by omega) hw g1
  generalize shC c=S at *
  obtain⟨k,f,o,nn,nl,fu,s,ks⟩:=c
  simp only[zn] at *
  generalize ZE ks=EL at *
  clear hw hs hf g1 g2
  repeat' (first|(refine zF fun K hK=>?_)|(refine zA fun K hK=>?_;simp (disch:=omega) [go_sem, *,Tryz.ntmps27])|(apply zC.out hK;clear hK K;try with_reducible dsimp only[zG])|(apply zC.out hf;clear ht hf Kt Kf)|(with_reducible refine zK.gcall (k1) ?_;try simp (disch:=omega) [go_sem, *])|(with_reducible refine zK.gcall (k2) ?_;try simp (disch:=omega) [go_sem, *])|(refine zL ?_;simp only[zG])|(refine zH fun Kt Kf ht hf=>?_;simp (disch:=omega) [go_sem, *];try (refine⟨fun hc=>?_,fun hc=>?_⟩ <;> try (exfalso;omega))))
  (refine zb ?_;try dsimp only[zG,zN];refine⟨by simp,_,(by first | rfl|(simp (disch:=omega) [go_sem,zB] <;> rfl)),?_⟩;refine zY ⟨fun k hk=>(by first | rfl|(repeat rw[zB _ _ _ _ (by omega)])),(by simp[go_sem,below,belowL]),(by simp[go_sem] <;> omega),by simp,by simp⟩)
end Go.AM
namespace Go.AM
open Go.Proofs Cw Du
set_option maxRecDepth 10000
set_option maxHeartbeats 4000000
def pwT (ls:List Lin) (l:List Ordr):ByteArray:=if ji ls l=0 then txT ls l else ⟨#[]⟩
theorem Q0 {ls:List Lin} {l:List Ordr} (h:ji ls l=0):ls.length≤60∧l.length≤30∧ls.all ZQ=true∧l.all Zz=true:=by
 unfold ji at h
 split at h
 ·cases h
 ·split at h
  ·cases h
  ·split at h
   ·split at h
    ·rename_i h1 h2 h3 h4
     exact⟨by omega,by omega,h3,h4⟩
    ·cases h
   ·cases h
end Go.AM
