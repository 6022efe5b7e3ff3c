/-
  The variables of a term: the program's text.
-/
import Derived.Test.YtpgfeijkfmgnjaaGreatDoorCmp
import Derived.Test.YtpgfeijkfmgnjaaGreatDoorFi
set_option maxHeartbeats 0
set_option maxRecDepth 100000
namespace Go.Vm.Seat
variable {t:Tm} {l:List Tm} {b:Bool} {es nt:Nat} {L:List (List PV)} {out:PV} {lv:List Nat}
open Go.Proofs
theorem ZZ {n m by_:Nat} (h:n+m≤10000000) (hb:by_≤1000000):WG n m by_=true:=by
 simp only [WG,Bool.and_eq_true,Nat.ble_eq]
 have:=Nat.mul_le_mul (show n+m+256≤10000256 by omega) hb
 omega
theorem YA:ApT E0 24 24 4 56:=⟨_,_,_,_,_,rfl,rfl,rfl,rfl,rfl,rfl,rfl,by decide,rfl⟩
theorem ZC (l:List Tm):noB (Za l)=true:=by
 simp only [YU,noB,List.all_map,List.all_eq_true]
 rintro ⟨k,nm,s,b,kz⟩ _
 rfl
theorem Wo (k:Int) (nm:List UInt8) (s:Int) (b:Bool) (kz:List Tm):Za [Tm.mk k nm s b kz]= [[.int .i64 k,.str nm,.int .i64 s,slV b 4 (Za kz)]]:=rfl
theorem Zsq (ht:t.Ok):t.size≤100000→∀ H,CallOk E0 Tryz.prog 219 [.agg t.cells] H (slV false 4 (Za t.all)) H:=by
 induction ht with
 | @mk k nm s b kz hk hs hn hl hok ih=>
 intro hsz
 simp only [Tm.size] at hsz
 simp only [Tm.all]
 refine Jw tOk fe219.ok (Y5 _ _ _ _ _) ?_
 repeat' first|refine Js ?_|refine Jo ?_|fail
 refine Wp.while (fun m tm H => ∃ (i : Nat) (base : TM) (out : PV) (lv : List Nat) (nt : Nat), i + m = kz.length ∧ ApV false 4 (Za (Tm.mk k nm s b kz :: UB (kz.take i))) out lv nt ∧
   tm=ovr base [(1,.ptr 0 4 0 0),(3,out),(4,.int .i64 (i:Int))]∧H=⟨[.cells 4 [[.int .i64 k,.str nm,.int .i64 s,slV b 4 (Za kz)]]],0,lv,nt⟩)
  (fun m tm H hI=>?_) kz.length _ _ ⟨0,_,_,_,_,by omega,.full (Za [Tm.mk k nm s b kz]) _ _ rfl (ZC _),Zi ⟨rfl,rfl,rfl,trivial⟩,rfl⟩
 obtain ⟨i,base,out,lv,nt,hi,hA,rfl,rfl⟩:=hI
 by_cases hlt:i<kz.length
 · obtain ⟨t', ht'⟩ : ∃ t', kz[i]? = some t' := ⟨kz[i], by simp⟩
   have hm:t'∈kz:=List.mem_of_getElem? ht'
   have hle:=XB hm
   have hs:=Zc1 ht'
   have hc:=ih t' hm (by omega)
   have hlen1:(UB (kz.take i)).length≤Zx kz:=by
    rw [VR];exact Xy kz i
   have hlen2:=t'.all_len
   obtain ⟨out',lv',nt',hap,hA', -⟩:=hA.app YA (.slV false 4 (Za t'.all)) (Zs _) (ZZ (by simp only [Zb,List.length_cons];omega) (by decide)) (ZC _)
   rw [← Zo,List.cons_append, ← hs] at hA'
   obtain ⟨k',nm',s',b',kz'⟩:=t'
   have hj:=Zn ht'
   unfold maxLen at hl
   repeat' first|refine Jc (hc _) ?_|refine JA ?_|refine Jl ?_|refine Jx ?_|refine Jb ?_ ?_|refine Jo ?_|intro hb
   · exact LoopI.go (m-1) (by omega) ⟨i+1,_,out',lv',nt',by omega,hA',Zi ⟨rfl,rfl,Zj (Zg (n:=i+1) (by omega)),trivial⟩,rfl⟩
   · exfalso;rw [Zb] at hb;simp at hb;omega
 · have e : i = kz.length := by omega
   subst e
   rw [List.take_length] at hA
   repeat' first|refine Jl ?_|refine Jb ?_ ?_|refine Jo ?_|intro hb
   · exfalso;rw [Zb] at hb;simp at hb
   · exact hA.frz3 _ _
theorem Zu7 (b:Bool) (hl:∀ x,x∈l→x.Ok∧x.size≤100000) (ht:t.Ok) (hsz:t.size≤100000) (hlen:l.length≤100000):∀ H,CallOk E0 Tryz.prog 287 [slV b 4 (Za l),.agg t.cells] H (slV true 4 (Za (ZcR l t))) H:=by
 have hcmp:∀ x,x∈l→∀ H,CallOk E0 Tryz.prog 36 [.agg t.cells,.agg x.cells] H (.int .i64 (t.cmp x)) H:=fun x hx H=>Zlw (d36 ht (hl x hx).1 (by omega) (by have:=(hl x hx).2;omega) H)
 obtain ⟨T,hT⟩:∃ T,T=t:=⟨_,rfl⟩
 obtain ⟨k,nm,s,tb,kz⟩:=t
 have hlen0:=fun i=>Ul T (l.take i) ([],false)
 refine Jw tOk fe287.ok (Y5 _ _ _ _ _) ?_ (by simp only [ZJ,Yy];simp [frzG,Tm.cells,VF])
 repeat' first|refine Jt ?_|refine Jo ?_|fail
 refine Wp.while (fun m tm H => ∃ (i : Nat) (base : TM) (out : PV) (lv : List Nat) (nt : Nat), i + m = l.length ∧ ApV true 4 (Za ((l.take i).foldl (Yk T) ([], false)).1) out lv nt ∧
   tm=ovr base [(0,slV b 4 (Za l)),(3,.ptr 0 4 0 0),(5,out),(6,.bool ((l.take i).foldl (Yk T) ([],false)).2),(7,.int .i64 (i:Int))]∧H=⟨[.cells 4 [[.int .i64 k,.str nm,.int .i64 s,slV tb 4 (Za kz)]]],0,lv,nt⟩)
  (fun m tm H hI=>?_) l.length _ _ ⟨0,_,_,_,_,by omega,.nil _ _ rfl,Zi ⟨rfl,rfl,rfl,rfl,rfl,trivial⟩,rfl⟩
 obtain ⟨i,base,out,lv,nt,hi,hA,rfl,rfl⟩:=hI
 have hl1:=hlen0 i
 have hl2:(l.take i).length≤l.length:=by rw [List.length_take];omega
 by_cases hlt:i<l.length
 · obtain ⟨x, hx⟩ : ∃ x, l[i]? = some x := ⟨l[i], by simp⟩
   have hm:x∈l:=List.mem_of_getElem? hx
   have hs:=ZbM (f:=Yk T) (b:=([],false)) hx
   generalize (l.take i).foldl (Yk T) ([],false)=S at hA hs hl1 ⊢
   obtain ⟨o,d⟩:=S
   have hc:=hcmp x hm
   rw [← hT] at hc
   have hlo:o.length≤100001:=by simp only [b01,List.length_nil] at hl1;omega
   simp only [Yk] at hs
   generalize T.cmp x=c at hc hs
   rw [hT] at hc
   obtain ⟨o1,v1,n1,hap1,hA1, -⟩:=hA.app YA (.sl .full 4 (Za [Tm.mk k nm s tb kz])) (Zs _) (ZZ (by simp only [Zb,List.length_cons,List.length_nil];omega) (by decide)) (ZC _)
   obtain ⟨o2,v2,n2,hap2,hA2, -⟩:=hA.app YA (.sl .full 4 (Za [x])) (Zs _) (ZZ (by simp only [Zb,List.length_cons,List.length_nil];omega) (by decide)) (ZC _)
   obtain ⟨o3,v3,n3,hap3,hA3, -⟩:=hA1.app YA (.sl .full 4 (Za [x])) (Zs _) (ZZ (by simp only [Zb,List.length_cons,List.length_nil,List.length_append];omega) (by decide)) (ZC _)
   rw [← Zo] at hA1 hA2
   rw [← Zo, ← Zo, ← hT] at hA3
   obtain ⟨k',nm',s',b',kz'⟩:=x
   have hj:=Zn hx
   rw [Wo] at hap1 hap2 hap3
   repeat' first|refine Jk ?_|refine Js ?_|refine JA ?_|refine Jl ?_|refine Jx ?_|refine Jt ?_|refine Jb ?_ ?_|refine Jo ?_|refine Jd (hc _) ?_|refine JI ?_|refine Jh ?_|(apply Wp.draw tOk follows;kernel_rfl)|intro hb
   · have hd : d = true := hb
     rw [if_neg (by rw [hd];simp)] at hs
     exact LoopI.go (m-1) (by omega) ⟨i+1,_,o2,v2,n2,by omega,by rw [hs];exact hA2,Zi ⟨rfl,rfl,rfl,(by rw [hs];rfl),Zj (Zg (n:=i+1) (by omega)),trivial⟩,rfl⟩
   · have hd : d = false := ‹(o, d).snd = false›
     have h0:c<0:=by simpa using hb
     rw [if_pos ⟨hd,by omega⟩,if_pos h0] at hs
     exact LoopI.go (m-1) (by omega) ⟨i+1,_,o3,v3,n3,by omega,by rw [hs];exact hA3,Zi ⟨rfl,rfl,rfl,(by rw [hs];rfl),Zj (Zg (n:=i+1) (by omega)),trivial⟩,rfl⟩
   · have hd : d = false := ‹(o, d).snd = false›
     have h0:¬ c<0:=by simpa using hb
     have h1:c≤0:=by simpa using ‹decide (c≤0)=true›
     rw [if_pos ⟨hd,h1⟩,if_neg h0,List.append_nil] at hs
     exact LoopI.go (m-1) (by omega) ⟨i+1,_,o2,v2,n2,by omega,by rw [hs];exact hA2,Zi ⟨rfl,rfl,rfl,(by rw [hs];rfl),Zj (Zg (n:=i+1) (by omega)),trivial⟩,rfl⟩
   · have hd : d = false := ‹(o, d).snd = false›
     have h1:¬ c≤0:=by simpa using hb
     rw [if_neg fun h=>h1 h.2] at hs
     exact LoopI.go (m-1) (by omega) ⟨i+1,_,o2,v2,n2,by omega,by rw [hs];exact hA2,Zi ⟨rfl,rfl,rfl,(by rw [hs];rfl),Zj (Zg (n:=i+1) (by omega)),trivial⟩,rfl⟩
   all_goals
    exfalso
    have h9:= ‹decide ((i:Int)<((Za l).length:Int))=false›
    rw [Zb] at h9
    simp at h9
    omega
 · have e : i = l.length := by omega
   subst e
   rw [List.take_length] at hA hl1 ⊢
   have hadd : ZcR l (Tm.mk k nm s tb kz) = match l.foldl (Yk T) ([], false) with
     | (o,true)=>o
     | (o,false)=>o++ [Tm.mk k nm s tb kz]:=by rw [hT];rfl
   rw [hadd]
   generalize l.foldl (Yk T) ([],false)=S at hA hl1 ⊢
   obtain ⟨o,d⟩:=S
   have hlo:o.length≤100001:=by simp only [b01,List.length_nil] at hl1;omega
   obtain ⟨o1,v1,n1,hap1,hA1, -⟩:=hA.app YA (.sl .full 4 (Za [Tm.mk k nm s tb kz])) (Zs _) (ZZ (by simp only [Zb,List.length_cons,List.length_nil];omega) (by decide)) (ZC _)
   rw [← Zo] at hA1
   rw [Wo] at hap1
   repeat' first|refine Js ?_|refine JA ?_|refine Jl ?_|refine Jt ?_|refine Jb ?_ ?_|refine Jo ?_|refine Jh ?_|(apply Wp.draw tOk follows;kernel_rfl)|intro hb
   · exfalso;rw [Zb] at hb;simp at hb
   all_goals
    first
     | (have hd : d = true := hb
        subst hd
        exact hA.frz3 _ _)
     | (have hd : d = false := hb
        subst hd
        exact hA1.frz3 _ _)
theorem Zum (b:Bool) (hl:∀ x,x∈l→x.Ok∧x.size≤100000) (hlen:l.length≤100000):∀ H,CallOk E0 Tryz.prog 279 [slV b 4 (Za l)] H (slV true 4 (Za (Zad l))) H:=by
 have hmem:=fun i=>Zat (l.take i) []
 have hsl:=fun i=>Zal (l.take i) []
 refine Jw tOk fe279.ok (Y5 _ _ _ _ _) ?_
 have e0:PV.nils=slV true 4 (Za ([]:List Tm)):=Zq 4 |>.symm
 repeat' first|refine Jo ?_|fail
 refine Wp.while (fun m tm H => ∃ (i : Nat) (base : TM), i + m = l.length ∧
   tm=ovr base [(0,slV b 4 (Za l)),(3,slV true 4 (Za ((l.take i).foldl ZcR []))),(4,.int .i64 (i:Int))]∧H=⟨[],0,[],0⟩)
  (fun m tm H hI=>?_) l.length _ _ ⟨0,_,by omega,Zi ⟨rfl,e0,rfl,trivial⟩,rfl⟩
 obtain ⟨i,base,hi,rfl,rfl⟩:=hI
 have hm2:=hmem i
 have hsl2:=hsl i
 have hl2:(l.take i).length≤l.length:=by rw [List.length_take];omega
 by_cases hlt:i<l.length
 · obtain ⟨x, hx⟩ : ∃ x, l[i]? = some x := ⟨l[i], by simp⟩
   have hm:x∈l:=List.mem_of_getElem? hx
   have hs:=ZbM (f:=ZcR) (b:=[]) hx
   generalize (l.take i).foldl ZcR []=S at hs hm2 hsl2 ⊢
   have hc:=Zu7 (l:=S) (t:=x) true (fun y hy=>hl y ((hm2 y hy).elim (fun h=>absurd h (by simp)) List.mem_of_mem_take)) (hl x hm).1 (hl x hm).2 (by simp at hsl2;omega)
   rw [← hs] at hc
   obtain ⟨k',nm',s',b',kz'⟩:=x
   have hj:=Zn hx
   repeat' first|refine Jc (hc _) ?_|refine Jl ?_|refine Jx ?_|refine Jb ?_ ?_|refine Jo ?_|intro hb
   · exact LoopI.go (m-1) (by omega) ⟨i+1,_,by omega,Zi ⟨rfl,rfl,Zj (Zg (n:=i+1) (by omega)),trivial⟩,rfl⟩
   · exfalso;rw [Zb] at hb;simp at hb;omega
 · have e : i = l.length := by omega
   subst e
   rw [List.take_length]
   repeat' first|refine Jl ?_|refine Jb ?_ ?_|refine Jo ?_|intro hb
   · exfalso;rw [Zb] at hb;simp at hb
   · exact Y5 _ _ _ _ _
theorem Zu6 (ht:t.Ok) (hsz:t.size≤100000) (kk:Int):∀ H,CallOk E0 Tryz.prog 256 [.agg t.cells,.int .i64 kk] H (slV true 4 (Za (Zad (Uc kk t.all)))) H:=by
 have hc:=Zsq ht hsz
 have hao:=ZiC ht
 have hal:=t.all_len
 generalize t.all=l at hc hao hal ⊢
 have hkm:∀ x,x∈Uc kk l→x.Ok∧x.size≤100000:=fun x hx=>by
  have:=hao x (List.mem_filter.1 hx).1
  exact ⟨this.1,by omega⟩
 have hkl:=Q6 kk l
 have hc2:=fun b=>Zum b hkm (by omega)
 obtain ⟨k,nm,s,tb,kz⟩:=t
 refine Jw tOk fe256.ok (Y5 _ _ _ _ _) ?_ (by simp [ZJ,frzG,Tm.cells,VF,frz1])
 repeat' first|refine Jc (hc _) ?_|refine Jo ?_|fail
 refine Wp.while (fun m tm H => ∃ (i : Nat) (base : TM) (out : PV) (lv : List Nat) (nt : Nat), i + m = l.length ∧ ApV true 4 (Za (Uc kk (l.take i))) out lv nt ∧
   tm=ovr base [(1,.int .i64 kk),(5,out),(6,slV false 4 (Za l)),(7,.int .i64 (i:Int))]∧H=⟨[.cells 4 [[.int .i64 k,.str nm,.int .i64 s,slV tb 4 (Za kz)]]],0,lv,nt⟩)
  (fun m tm H hI=>?_) l.length _ _ ⟨0,_,_,_,_,by omega,.nil _ _ rfl,Zi ⟨rfl,rfl,rfl,rfl,trivial⟩,rfl⟩
 clear hc
 obtain ⟨i,base,out,lv,nt,hi,hA,rfl,rfl⟩:=hI
 by_cases hlt:i<l.length
 · obtain ⟨x, hx⟩ : ∃ x, l[i]? = some x := ⟨l[i], by simp⟩
   have hs:=ZjE (k:=kk) hx
   have hl1:=Q6 kk (l.take i)
   have hl2:(l.take i).length≤l.length:=by rw [List.length_take];omega
   obtain ⟨o2,v2,n2,hap2,hA2, -⟩:=hA.app YA (.sl .full 4 (Za [x])) (Zs _) (ZZ (by simp only [Zb,List.length_cons,List.length_nil];omega) (by decide)) (ZC _)
   rw [← Zo] at hA2
   obtain ⟨k',nm',s',b',kz'⟩:=x
   have hj:=Zn hx
   rw [Wo] at hap2
   repeat' first|refine Js ?_|refine JA ?_|refine Jl ?_|refine Jx ?_|refine Jb ?_ ?_|refine Jo ?_|intro hb
   · rw [if_pos (show (Tm.mk k' nm' s' b' kz').knd = kk by simpa [Tm.knd] using hb)] at hs
     exact LoopI.go (m-1) (by omega) ⟨i+1,_,o2,v2,n2,by omega,by rw [hs];exact hA2,Zi ⟨rfl,rfl,rfl,Zj (Zg (n:=i+1) (by omega)),trivial⟩,rfl⟩
   · rw [if_neg (show ¬ (Tm.mk k' nm' s' b' kz').knd = kk by simpa [Tm.knd] using hb), List.append_nil] at hs
     exact LoopI.go (m-1) (by omega) ⟨i+1,_,out,lv,nt,by omega,by rw [hs];exact hA,Zi ⟨rfl,rfl,rfl,Zj (Zg (n:=i+1) (by omega)),trivial⟩,rfl⟩
   all_goals (exfalso;rw [Zb] at hb;simp at hb;omega)
 · have e : i = l.length := by omega
   subst e
   rw [List.take_length] at hA
   have hc3:∀ H,CallOk E0 Tryz.prog 279 [out] H (slV true 4 (Za (Zad (Uc kk l)))) H:=fun H=>Yc (hc2 true hNil) (by simp only [ZJ,hA.frzG]) (Y5 _ _ _ _ _) H
   repeat' first|refine Jc (hc3 _) ?_|refine Jl ?_|refine Jb ?_ ?_|refine Jo ?_|intro hb
   · exfalso;rw [Zb] at hb;simp at hb
   · exact Y5 _ _ _ _ _
theorem Zvw (ht:t.Ok) (hsz:t.size≤100000):∀ H,CallOk E0 Tryz.prog 218 [.agg t.cells] H (slV true 4 (Za (Zad (Uc 1 t.all)))) H:=by
 have hc:=Zu6 ht hsz 1
 generalize Zad (Uc 1 t.all)=l at hc ⊢
 obtain ⟨k,nm,s,tb,kz⟩:=t
 refine Jw tOk fe218.ok (Y5 _ _ _ _ _) ?_
 repeat' first|refine Jc (hc _) ?_|refine Jo ?_|fail
 exact Y5 _ _ _ _ _
theorem ZsT (ht:t.Ok) (hsz:t.size≤100000):∀ H,CallOk E0 Tryz.prog 174 [.agg t.cells] H (.bool t.ground) H:=by
 have hc:=Zvw ht hsz
 have hg:t.ground=decide ((Zad (Uc 1 t.all)).length=0):=by
  unfold Tm.ground
  have:=Zka (l:=Uc 1 t.all)
  cases h:Uc 1 t.all with
  | nil=>rw [h] at this;simp [this.2 rfl]
  | cons a r =>
    rw [h] at this
    have h2:Zad (a::r)≠ []:=fun e=>by simp at this;exact this e
    simp [h2]
 rw [hg]
 generalize Zad (Uc 1 t.all)=l at hc ⊢
 clear hg
 obtain ⟨k,nm,s,tb,kz⟩:=t
 refine Jw tOk fe174.ok rfl ?_
 repeat' first|refine Jc (hc _) ?_|refine Jl ?_|refine Jt ?_|refine Jb ?_ ?_|refine Jo ?_|intro hb
 all_goals (refine ifq ?_;rw [Zb] at hb;simp at hb;simp [hb])
theorem c175 (ht:t.Ok) (hsz:t.size≤100000):∀ H,CallOk E0 Tryz.prog 175 [.agg t.cells] H (.bool (decide (t.valid=0∧t.th=0)&&t.fre)) H:=by
 have h1:=c173 ht (by omega)
 have hc:=Zsq ht hsz
 have he:decide (t.valid=0∧t.th=0)=decide ((if t.valid≠0 then t.valid else t.th)=0):=by
  congr 1;apply propext
  split<;>omega
 rw [he,Tm.fre_all]
 clear he
 have hal:=t.all_len
 generalize (if t.valid≠0 then t.valid else t.th)=e at h1
 generalize t.all=l at hc hal ⊢
 obtain ⟨k,nm,s,tb,kz⟩:=t
 refine Jw tOk fe175.ok rfl ?_
 repeat' first|refine Jc (h1 _) ?_|refine Jc (hc _) ?_|refine Jt ?_|refine Jb ?_ ?_|refine Jo ?_|intro hb
 · have h9 : e ≠ 0 := by simpa using hb
   simp [h9]
 have he0:e=0:=by simpa using hb
 rw [show (decide (e=0)&&l.all Tm.fre1)=l.all Tm.fre1 by simp [he0]]
 clear h1 hc
 refine Wp.while (fun m tm H=>∃ (i:Nat),∃ base,i+m=l.length∧l.all Tm.fre1=(l.drop i).all Tm.fre1∧tm=ovr base [(3,slV false 4 (Za l)),(4,.int .i64 (i:Int))]∧H=⟨[.cells 4 [[.int .i64 k,.str nm,.int .i64 s,slV tb 4 (Za kz)]]],0,[],0⟩)
  (fun m tm H hI=>?_) l.length _ _ ⟨0,_,by omega,by simp,Zi ⟨rfl,rfl,trivial⟩,rfl⟩
 obtain ⟨i,base,hi,hall,rfl,rfl⟩:=hI
 rw [hall]
 by_cases hlt:i<l.length
 · obtain ⟨x, hx⟩ : ∃ x, l[i]? = some x := ⟨l[i], by simp⟩
   rw [QY hx]
   obtain ⟨k',nm',s',b',kz'⟩:=x
   have hj:=Zn hx
   have hc1:=ZuR nm'
   have hc2:=Zr3 nm'
   simp only [Tm.fre1,ZnB]
   generalize ZnO nm'=A at hc1
   generalize (Qw nm').kind=B at hc2
   repeat' first|refine Jk ?_|refine Jc (hc1 _) ?_|refine Jc (hc2 _) ?_|refine Jl ?_|refine Jx ?_|refine Jt ?_|refine Jb ?_ ?_|refine Jo ?_|intro hb
   · have h9 := ‹(k' == 3) = true›
     simp at h9
     rw [hb]
     simp [h9]
   · have h9 := ‹(k' == 3) = true›
     simp at h9 hb
     simp [h9,hb]
   · have h9 := ‹(k' == 3) = true›
     have h8:= ‹A=false›
     simp at h9 hb
     have h7:(if k'=3 then !A&&decide (B≠3) else true)=true:=by simp [h9,h8,hb]
     rw [h7,Bool.true_and]
     exact LoopI.go (m-1) (by omega) ⟨i+1,_,by omega,rfl,Zi ⟨rfl,Zj (Zg (n:=i+1) (by omega)),trivial⟩,rfl⟩
   · simp at hb
     have h7:(if k'=3 then !A&&decide (B≠3) else true)=true:=by simp [hb]
     rw [h7,Bool.true_and]
     exact LoopI.go (m-1) (by omega) ⟨i+1,_,by omega,rfl,Zi ⟨rfl,Zj (Zg (n:=i+1) (by omega)),trivial⟩,rfl⟩
   all_goals
    exfalso
    have h9:= ‹decide ((i:Int)<((Za l).length:Int))=false›
    rw [Zb] at h9
    simp at h9
    omega
 · have e : i = l.length := by omega
   subst e
   repeat' first|refine Jl ?_|refine Jt ?_|refine Jb ?_ ?_|refine Jo ?_|intro hb
   · exfalso;rw [Zb] at hb;simp at hb
   · rw [List.drop_length];rfl
theorem ZsA (ht:t.Ok) (hsz:t.size≤100000):∀ H,CallOk E0 Tryz.prog 134 [.agg t.cells] H (.int .i64 t.key) H:=by
 have h1:=c173 ht (by omega)
 have h2:=ZsT ht hsz
 have h3:=c175 ht hsz
 unfold Tm.key
 generalize t.valid=e1 at h1 h3 ⊢
 generalize t.th=e2 at h1 h3 ⊢
 generalize t.ground=g at h2 ⊢
 generalize t.fre=f at h3 ⊢
 obtain ⟨k,nm,s,tb,kz⟩:=t
 refine Jw tOk fe134.ok rfl ?_
 repeat' first|(apply qCl;rfl;rfl;rfl;rfl;first|exact h1 _|exact h2 _|exact h3 _)|refine Jb ?_ ?_|refine Jo ?_|intro hb
 all_goals (refine Zj ?_;clear h1 h2 h3)
 · have h9 : (if e1 ≠ 0 then e1 else e2) ≠ 0 := by simpa using hb
   by_cases c1:e1≠0
   · rw [if_pos c1,if_pos c1]
   · rw [if_neg c1] at h9
     rw [if_neg c1,if_neg c1,if_pos h9]
 all_goals
  have h9:(if e1≠0 then e1 else e2)=0:=by simpa using ‹((if e1≠0 then e1 else e2) != 0)=false›
  have c1:¬ e1≠0:=fun c=>by rw [if_pos c] at h9;exact c h9
  rw [if_neg c1] at h9
  rw [if_neg c1,if_neg (by omega)]
 · rw [if_pos (by simpa using hb)]
 all_goals rw [if_neg (by simpa using ‹(!g)=false›)]
 · rw [if_pos]
   cases f
   · rfl
   · exfalso;simp at hb;omega
 · rw [if_neg]
   intro hf
   subst hf
   simp at hb
theorem ZQ (t:Tm):Za [t]= [t.cells]:=by obtain ⟨k,nm,s,b,kz⟩:=t;rfl
theorem ZaD (h:ApV b es L out lv nt) (k:Int) (nm:List UInt8) (s:Int):[PV.int .i64 k,.str nm,.int .i64 s,out].all Z7=true:=by cases h<;>rfl
theorem Uo (h:ApV true es L out lv nt) (hL:L≠ []):∃ k,out= .sl (.tok k) es L:=by
 cases h with
 |nil=>exact absurd rfl hL
 |full _ _ _ h=>cases h
 |tok L k=>exact ⟨k,rfl⟩
theorem Z6 (m:Nat) (H:Heap) (k:Int) (nm:List UInt8) (s:Int) (b:Bool) (l:List (List PV)):frz3 m H (.agg [.int .i64 k,.str nm,.int .i64 s,slV b 4 l])=some (.agg [.int .i64 k,.str nm,.int .i64 s,slV b 4 l]):=by
 rw [Ws]
 simp only [Qf,U0]
 rfl
theorem ZiP (h:ApV b 4 L out lv nt) (m:Nat) (H:Heap) (k:Int) (nm:List UInt8) (s:Int):frz3 m H (.agg [.int .i64 k,.str nm,.int .i64 s,out])=some (.agg [.int .i64 k,.str nm,.int .i64 s,slV b 4 L]):=by
 rw [Ws]
 simp only [Qf,h.frzC]
 rfl
theorem c88 (ht:t.Ok):t.size≤100000→∀ H,CallOk E0 Tryz.prog 88 [.agg t.cells] H (.agg t.cl.cells) H:=by
 induction ht with
 | @mk k nm s b kz hk hs hn hl hok ih=>
 intro hsz
 simp only [Tm.size] at hsz
 have hkl:kz.length≤Zx kz:=by
  rw [← VR]
  have:∀ l:List Tm,l.length≤(UB l).length:=by
   intro l
   induction l with
   | nil=>simp
   | cons a r ih =>
     have:=a.all_len
     have:=Y3 a
     simp only [UB,List.length_append,List.length_cons]
     omega
  exact this kz
 simp only [Tm.cl,Tm.cells]
 refine Jw tOk fe88.ok (Z6 _ _ _ _ _ _ _) ?_
 repeat' first|refine Jl ?_|refine Jo ?_|fail
 refine Wp.while (fun m tm H => ∃ (i : Nat) (base : TM) (out : PV) (lv : List Nat) (nt : Nat), i + m = kz.length ∧ ApV true 4 (Za (clL (kz.take i))) out lv nt ∧
   tm=ovr base [(1,.ptr 0 4 0 0),(2,.ptr 1 4 0 0),(9,slV b 4 (Za kz)),(10,.int .i64 (kz.length:Int)),(11,.int .i64 (i:Int))]∧H=⟨[.cells 4 [[.int .i64 k,.str nm,.int .i64 s,out]],.cells 4 [[.int .i64 0,.str [],.int .i64 0,.nils]]],0,lv,nt⟩)
  (fun m tm H hI=>Wp.drop ?_) kz.length _ _ ⟨0,_,_,_,_,by omega,.nil _ _ rfl,Zi ⟨rfl,rfl,rfl,Zj (by rw [Zb]),rfl,trivial⟩,rfl⟩
 obtain ⟨i,base,out,lv,nt,hi,hA,rfl,rfl⟩:=hI
 by_cases hlt:i<kz.length
 · obtain ⟨t', ht'⟩ : ∃ t', kz[i]? = some t' := ⟨kz[i], by simp⟩
   have hm:t'∈kz:=List.mem_of_getElem? ht'
   have hle:=XB hm
   have hs:=ZcL ht'
   have hc:=ih t' hm (by omega)
   have hlen1:(clL (kz.take i)).length≤kz.length:=by
    rw [We,List.length_take];omega
   obtain ⟨out',lv',nt',hap,hA', -⟩:=hA.app YA (.sl .full 4 (Za [t'.cl])) (Zs _) (ZZ (by simp only [Zb,List.length_cons,List.length_nil];omega) (by decide)) (ZC _)
   rw [← Zo, ← hs] at hA'
   obtain ⟨kc,nc,sc,bc,lc,ec⟩:∃ kc nc sc bc lc,t'.cl= .mk kc nc sc bc lc:=by
    obtain ⟨k',nm',s',b',kz'⟩:=t'
    exact ⟨_,_,_,_,_,rfl⟩
   rw [ec] at hc hap
   rw [Wo] at hap
   obtain ⟨kt,rfl⟩:=Uo hA' (by rw [hs,Zo,ZQ];simp)
   obtain ⟨k',nm',s',b',kz'⟩:=t'
   have hj:=Zn ht'
   repeat' first|refine Jx ?_|refine Jz ?_ ?_|refine Jo ?_|refine Jd (hc _) ?_|refine JB ?_|(apply dAp;rfl;rfl;rfl;rfl;rfl;(first|assumption|solve_by_elim);rfl)|refine Jh ?_|(apply Wp.drawS tOk follows;kernel_rfl;rfl)|intro hb
   · exact DropQ.go [(1, .ptr 0 4 0 0), (2, .ptr 1 4 0 0), (9, slV b 4 (Za kz)), (10, .int .i64 (kz.length : Int)), (11, .int .i64 ((i + 1 : Nat) : Int))] ⟨rfl, rfl, rfl, rfl, Zj (Zg (n := i + 1) (by omega)), trivial⟩
       (by simp [Zl,under]) rfl (by simp [Yw,ZI,under]) (LoopI.go (m-1) (by omega) ⟨i+1,_,_,lv',nt',by omega,hA',rfl,rfl⟩)
   · exfalso;simp at hb;omega
 · have e : i = kz.length := by omega
   subst e
   rw [List.take_length] at hA
   have hco:=ZaD hA k nm s
   repeat' first|refine Jz ?_ ?_|refine Jo ?_|intro hb
   · exfalso;simp at hb
   · exact ZiP hA _ _ _ _ _
