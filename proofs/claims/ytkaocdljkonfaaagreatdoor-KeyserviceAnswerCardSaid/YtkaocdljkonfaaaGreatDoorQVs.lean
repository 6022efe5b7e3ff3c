/-
  The variables of a term, and free terms: the reference's text. The variables of a term: the program's text.
-/
import Derived.Test.YtkaocdljkonfaaaGreatDoorQCmp
import Derived.Test.YtkaocdljkonfaaaGreatDoorQFi
set_option maxHeartbeats 64000000
set_option maxRecDepth 100000
namespace Go.Vm.Seat
variable {t:Tm} {l:List Tm} {b:Bool} {es nt:Nat} {L:List (List PV)} {out:PV} {lv:List Nat}
open Go.Proofs
theorem ZU {n m by_:Nat} (h:n+m≤10000000) (hb:by_≤1000000):WG n m by_=true:=by
 simp only [WG,Bool.and_eq_true,Nat.ble_eq]
 have:=Nat.mul_le_mul (show n+m+256≤10000256 by omega) hb
 omega
theorem Yw:ApT E0 22 22 4 56:=⟨_,_,_,_,_,rfl,rfl,rfl,rfl,rfl,rfl,rfl,by decide,rfl⟩
theorem Zv (l:List Tm):noB (Za l)=true:=by
 simp only [YO,noB,List.all_map,List.all_eq_true]
 rintro ⟨k,nm,s,b,kids⟩ _
 rfl
theorem X8 (k:Int) (nm:List UInt8) (s:Int) (b:Bool) (kids:List Tm):Za [Tm.mk k nm s b kids]= [[.int .i64 k,.str nm,.int .i64 s,slV b 4 (Za kids)]]:=rfl
theorem ZqR (ht:t.Ok):t.size≤100000→∀ H,CallOk E0 Tryz.prog 206 [.agg t.cells] H (slV false 4 (Za t.all)) H:=by
 induction ht with
 | @mk k nm s b kids hk hs hn hl hok ih=>
 intro hsz
 simp only [Tm.size] at hsz
 simp only [Tm.all]
 refine Jw tOk fe206.ok (YV _ _ _ _ _) ?_
 repeat' first|refine Js ?_|refine Jo ?_|fail
 refine Wp.while (fun m tm H => ∃ (i : Nat) (base : TM) (out : PV) (lv : List Nat) (nt : Nat), i + m = kids.length ∧ ApV false 4 (Za (Tm.mk k nm s b kids :: UY (kids.take i))) out lv nt ∧
   tm=ovr base [(1,.ptr 0 4 0 0),(3,out),(4,.int .i64 (i:Int))]∧H=⟨[.cells 4 [[.int .i64 k,.str nm,.int .i64 s,slV b 4 (Za kids)]]],0,lv,nt⟩)
  (fun m tm H hI=>?_) kids.length _ _ ⟨0,_,_,_,_,by omega,.full (Za [Tm.mk k nm s b kids]) _ _ rfl (Zv _),Zh ⟨rfl,rfl,rfl,trivial⟩,rfl⟩
 obtain ⟨i,base,out,lv,nt,hi,hA,rfl,rfl⟩:=hI
 by_cases hlt:i<kids.length
 · obtain ⟨t', ht'⟩ : ∃ t', kids[i]? = some t' := ⟨kids[i], by simp⟩
   have hm:t'∈kids:=List.mem_of_getElem? ht'
   have hle:=Xm hm
   have hs:=ZcC ht'
   have hc:=ih t' hm (by omega)
   have hlen1:(UY (kids.take i)).length≤Zz kids:=by
    rw [VC];exact Xj kids i
   have hlen2:=t'.all_len
   obtain ⟨out',lv',nt',hap,hA', -⟩:=hA.app Yw (.slV false 4 (Za t'.all)) (Zm _) (ZU (by simp only [Zb,List.length_cons];omega) (by decide)) (Zv _)
   rw [← Zk,List.cons_append, ← hs] at hA'
   obtain ⟨k',nm',s',b',kids'⟩:=t'
   have hj:=Zl ht'
   unfold maxLen at hl
   repeat' first|refine Jc (hc _) ?_|refine JA ?_|refine Jl ?_|refine Jx ?_|refine Jb ?_ ?_|refine Jo ?_|intro hb
   · exact LoopI.go (m-1) (by omega) ⟨i+1,_,out',lv',nt',by omega,hA',Zh ⟨rfl,rfl,Zi (Zf (n:=i+1) (by omega)),trivial⟩,rfl⟩
   · exfalso;rw [Zb] at hb;simp at hb;omega
 · have e : i = kids.length := by omega
   subst e
   rw [List.take_length] at hA
   repeat' first|refine Jl ?_|refine Jb ?_ ?_|refine Jo ?_|intro hb
   · exfalso;rw [Zb] at hb;simp at hb
   · exact hA.frz3 _ _
theorem ZtB (b:Bool) (hl:∀ x,x∈l→x.Ok∧x.size≤100000) (ht:t.Ok) (hsz:t.size≤100000) (hlen:l.length≤100000):∀ H,CallOk E0 Tryz.prog 285 [slV b 4 (Za l),.agg t.cells] H (slV true 4 (Za (Zcf l t))) H:=by
 have hcmp:∀ x,x∈l→∀ H,CallOk E0 Tryz.prog 61 [.agg t.cells,.agg x.cells] H (.int .i64 (t.cmp x)) H:=fun x hx H=>Zkq (d61 ht (hl x hx).1 (by omega) (by have:=(hl x hx).2;omega) H)
 obtain ⟨T,hT⟩:∃ T,T=t:=⟨_,rfl⟩
 obtain ⟨k,nm,s,tb,kids⟩:=t
 have hlen0:=fun i=>VZ T (l.take i) ([],false)
 refine Jw tOk fe285.ok (YV _ _ _ _ _) ?_ (by simp only [ZZ,YU];simp [frzG,Tm.cells,Va])
 repeat' first|refine Jt ?_|refine Jo ?_|fail
 refine Wp.while (fun m tm H => ∃ (i : Nat) (base : TM) (out : PV) (lv : List Nat) (nt : Nat), i + m = l.length ∧ ApV true 4 (Za ((l.take i).foldl (Yg T) ([], false)).1) out lv nt ∧
   tm=ovr base [(0,slV b 4 (Za l)),(3,.ptr 0 4 0 0),(5,out),(6,.bool ((l.take i).foldl (Yg T) ([],false)).2),(7,.int .i64 (i:Int))]∧H=⟨[.cells 4 [[.int .i64 k,.str nm,.int .i64 s,slV tb 4 (Za kids)]]],0,lv,nt⟩)
  (fun m tm H hI=>?_) l.length _ _ ⟨0,_,_,_,_,by omega,.nil _ _ rfl,Zh ⟨rfl,rfl,rfl,rfl,rfl,trivial⟩,rfl⟩
 obtain ⟨i,base,out,lv,nt,hi,hA,rfl,rfl⟩:=hI
 have hl1:=hlen0 i
 have hl2:(l.take i).length≤l.length:=by rw [List.length_take];omega
 by_cases hlt:i<l.length
 · obtain ⟨x, hx⟩ : ∃ x, l[i]? = some x := ⟨l[i], by simp⟩
   have hm:x∈l:=List.mem_of_getElem? hx
   have hs:=Zbd (f:=Yg T) (b:=([],false)) hx
   generalize (l.take i).foldl (Yg T) ([],false)=S at hA hs hl1 ⊢
   obtain ⟨o,d⟩:=S
   have hc:=hcmp x hm
   rw [← hT] at hc
   have hlo:o.length≤100001:=by simp only [b01,List.length_nil] at hl1;omega
   simp only [Yg] at hs
   generalize T.cmp x=c at hc hs
   rw [hT] at hc
   obtain ⟨o1,v1,n1,hap1,hA1, -⟩:=hA.app Yw (.sl .full 4 (Za [Tm.mk k nm s tb kids])) (Zm _) (ZU (by simp only [Zb,List.length_cons,List.length_nil];omega) (by decide)) (Zv _)
   obtain ⟨o2,v2,n2,hap2,hA2, -⟩:=hA.app Yw (.sl .full 4 (Za [x])) (Zm _) (ZU (by simp only [Zb,List.length_cons,List.length_nil];omega) (by decide)) (Zv _)
   obtain ⟨o3,v3,n3,hap3,hA3, -⟩:=hA1.app Yw (.sl .full 4 (Za [x])) (Zm _) (ZU (by simp only [Zb,List.length_cons,List.length_nil,List.length_append];omega) (by decide)) (Zv _)
   rw [← Zk] at hA1 hA2
   rw [← Zk, ← Zk, ← hT] at hA3
   obtain ⟨k',nm',s',b',kids'⟩:=x
   have hj:=Zl hx
   rw [X8] at hap1 hap2 hap3
   repeat' first|refine Jk ?_|refine Js ?_|refine JA ?_|refine Jl ?_|refine Jx ?_|refine Jt ?_|refine Jb ?_ ?_|refine Jo ?_|refine Jd (hc _) ?_|refine JI ?_|refine Jh ?_|(apply Wp.draw tOk follows;kernel_rfl)|intro hb
   · have hd : d = true := hb
     rw [if_neg (by rw [hd];simp)] at hs
     exact LoopI.go (m-1) (by omega) ⟨i+1,_,o2,v2,n2,by omega,by rw [hs];exact hA2,Zh ⟨rfl,rfl,rfl,(by rw [hs];rfl),Zi (Zf (n:=i+1) (by omega)),trivial⟩,rfl⟩
   · have hd : d = false := ‹(o, d).snd = false›
     have h0:c<0:=by simpa using hb
     rw [if_pos ⟨hd,by omega⟩,if_pos h0] at hs
     exact LoopI.go (m-1) (by omega) ⟨i+1,_,o3,v3,n3,by omega,by rw [hs];exact hA3,Zh ⟨rfl,rfl,rfl,(by rw [hs];rfl),Zi (Zf (n:=i+1) (by omega)),trivial⟩,rfl⟩
   · have hd : d = false := ‹(o, d).snd = false›
     have h0:¬ c<0:=by simpa using hb
     have h1:c≤0:=by simpa using ‹decide (c≤0)=true›
     rw [if_pos ⟨hd,h1⟩,if_neg h0,List.append_nil] at hs
     exact LoopI.go (m-1) (by omega) ⟨i+1,_,o2,v2,n2,by omega,by rw [hs];exact hA2,Zh ⟨rfl,rfl,rfl,(by rw [hs];rfl),Zi (Zf (n:=i+1) (by omega)),trivial⟩,rfl⟩
   · have hd : d = false := ‹(o, d).snd = false›
     have h1:¬ c≤0:=by simpa using hb
     rw [if_neg fun h=>h1 h.2] at hs
     exact LoopI.go (m-1) (by omega) ⟨i+1,_,o2,v2,n2,by omega,by rw [hs];exact hA2,Zh ⟨rfl,rfl,rfl,(by rw [hs];rfl),Zi (Zf (n:=i+1) (by omega)),trivial⟩,rfl⟩
   all_goals
    exfalso
    have h9:= ‹decide ((i:Int)<((Za l).length:Int))=false›
    rw [Zb] at h9
    simp at h9
    omega
 · have e : i = l.length := by omega
   subst e
   rw [List.take_length] at hA hl1 ⊢
   have hadd : Zcf l (Tm.mk k nm s tb kids) = match l.foldl (Yg T) ([], false) with
     | (o,true)=>o
     | (o,false)=>o++ [Tm.mk k nm s tb kids]:=by rw [hT];rfl
   rw [hadd]
   generalize l.foldl (Yg T) ([],false)=S at hA hl1 ⊢
   obtain ⟨o,d⟩:=S
   have hlo:o.length≤100001:=by simp only [b01,List.length_nil] at hl1;omega
   obtain ⟨o1,v1,n1,hap1,hA1, -⟩:=hA.app Yw (.sl .full 4 (Za [Tm.mk k nm s tb kids])) (Zm _) (ZU (by simp only [Zb,List.length_cons,List.length_nil];omega) (by decide)) (Zv _)
   rw [← Zk] at hA1
   rw [X8] at hap1
   repeat' first|refine Js ?_|refine JA ?_|refine Jl ?_|refine Jt ?_|refine Jb ?_ ?_|refine Jo ?_|refine Jh ?_|(apply Wp.draw tOk follows;kernel_rfl)|intro hb
   · exfalso;rw [Zb] at hb;simp at hb
   all_goals
    first
     | (have hd : d = true := hb
        subst hd
        exact hA.frz3 _ _)
     | (have hd : d = false := hb
        subst hd
        exact hA1.frz3 _ _)
theorem ZrE (b:Bool) (hl:∀ x,x∈l→x.Ok∧x.size≤100000) (hlen:l.length≤100000):∀ H,CallOk E0 Tryz.prog 265 [slV b 4 (Za l)] H (slV true 4 (Za (QS l))) H:=by
 have hmem:=fun i=>Zal (l.take i) []
 have hsl:=fun i=>QP (l.take i) []
 refine Jw tOk fe265.ok (YV _ _ _ _ _) ?_
 have e0:PV.nils=slV true 4 (Za ([]:List Tm)):=Zn 4 |>.symm
 repeat' first|refine Jo ?_|fail
 refine Wp.while (fun m tm H => ∃ (i : Nat) (base : TM), i + m = l.length ∧
   tm=ovr base [(0,slV b 4 (Za l)),(3,slV true 4 (Za ((l.take i).foldl Zcf []))),(4,.int .i64 (i:Int))]∧H=⟨[],0,[],0⟩)
  (fun m tm H hI=>?_) l.length _ _ ⟨0,_,by omega,Zh ⟨rfl,e0,rfl,trivial⟩,rfl⟩
 obtain ⟨i,base,hi,rfl,rfl⟩:=hI
 have hm2:=hmem i
 have hsl2:=hsl i
 have hl2:(l.take i).length≤l.length:=by rw [List.length_take];omega
 by_cases hlt:i<l.length
 · obtain ⟨x, hx⟩ : ∃ x, l[i]? = some x := ⟨l[i], by simp⟩
   have hm:x∈l:=List.mem_of_getElem? hx
   have hs:=Zbd (f:=Zcf) (b:=[]) hx
   generalize (l.take i).foldl Zcf []=S at hs hm2 hsl2 ⊢
   have hc:=ZtB (l:=S) (t:=x) true (fun y hy=>hl y ((hm2 y hy).elim (fun h=>absurd h (by simp)) List.mem_of_mem_take)) (hl x hm).1 (hl x hm).2 (by simp at hsl2;omega)
   rw [← hs] at hc
   obtain ⟨k',nm',s',b',kids'⟩:=x
   have hj:=Zl hx
   repeat' first|refine Jc (hc _) ?_|refine Jl ?_|refine Jx ?_|refine Jb ?_ ?_|refine Jo ?_|intro hb
   · exact LoopI.go (m-1) (by omega) ⟨i+1,_,by omega,Zh ⟨rfl,rfl,Zi (Zf (n:=i+1) (by omega)),trivial⟩,rfl⟩
   · exfalso;rw [Zb] at hb;simp at hb;omega
 · have e : i = l.length := by omega
   subst e
   rw [List.take_length]
   repeat' first|refine Jl ?_|refine Jb ?_ ?_|refine Jo ?_|intro hb
   · exfalso;rw [Zb] at hb;simp at hb
   · exact YV _ _ _ _ _
theorem Zsd (ht:t.Ok) (hsz:t.size≤100000) (kk:Int):∀ H,CallOk E0 Tryz.prog 240 [.agg t.cells,.int .i64 kk] H (slV true 4 (Za (QS (Uj kk t.all)))) H:=by
 have hc:=ZqR ht hsz
 have hao:=Zio ht
 have hal:=t.all_len
 generalize t.all=l at hc hao hal ⊢
 have hkm:∀ x,x∈Uj kk l→x.Ok∧x.size≤100000:=fun x hx=>by
  have:=hao x (List.mem_filter.1 hx).1
  exact ⟨this.1,by omega⟩
 have hkl:=QG kk l
 have hc2:=fun b=>ZrE b hkm (by omega)
 obtain ⟨k,nm,s,tb,kids⟩:=t
 refine Jw tOk fe240.ok (YV _ _ _ _ _) ?_ (by simp [ZZ,frzG,Tm.cells,Va,frz1])
 repeat' first|refine Jc (hc _) ?_|refine Jo ?_|fail
 refine Wp.while (fun m tm H => ∃ (i : Nat) (base : TM) (out : PV) (lv : List Nat) (nt : Nat), i + m = l.length ∧ ApV true 4 (Za (Uj kk (l.take i))) out lv nt ∧
   tm=ovr base [(1,.int .i64 kk),(5,out),(6,slV false 4 (Za l)),(7,.int .i64 (i:Int))]∧H=⟨[.cells 4 [[.int .i64 k,.str nm,.int .i64 s,slV tb 4 (Za kids)]]],0,lv,nt⟩)
  (fun m tm H hI=>?_) l.length _ _ ⟨0,_,_,_,_,by omega,.nil _ _ rfl,Zh ⟨rfl,rfl,rfl,rfl,trivial⟩,rfl⟩
 clear hc
 obtain ⟨i,base,out,lv,nt,hi,hA,rfl,rfl⟩:=hI
 by_cases hlt:i<l.length
 · obtain ⟨x, hx⟩ : ∃ x, l[i]? = some x := ⟨l[i], by simp⟩
   have hs:=ZgJ (k:=kk) hx
   have hl1:=QG kk (l.take i)
   have hl2:(l.take i).length≤l.length:=by rw [List.length_take];omega
   obtain ⟨o2,v2,n2,hap2,hA2, -⟩:=hA.app Yw (.sl .full 4 (Za [x])) (Zm _) (ZU (by simp only [Zb,List.length_cons,List.length_nil];omega) (by decide)) (Zv _)
   rw [← Zk] at hA2
   obtain ⟨k',nm',s',b',kids'⟩:=x
   have hj:=Zl hx
   rw [X8] at hap2
   repeat' first|refine Js ?_|refine JA ?_|refine Jl ?_|refine Jx ?_|refine Jb ?_ ?_|refine Jo ?_|intro hb
   · rw [if_pos (show (Tm.mk k' nm' s' b' kids').knd = kk by simpa [Tm.knd] using hb)] at hs
     exact LoopI.go (m-1) (by omega) ⟨i+1,_,o2,v2,n2,by omega,by rw [hs];exact hA2,Zh ⟨rfl,rfl,rfl,Zi (Zf (n:=i+1) (by omega)),trivial⟩,rfl⟩
   · rw [if_neg (show ¬ (Tm.mk k' nm' s' b' kids').knd = kk by simpa [Tm.knd] using hb), List.append_nil] at hs
     exact LoopI.go (m-1) (by omega) ⟨i+1,_,out,lv,nt,by omega,by rw [hs];exact hA,Zh ⟨rfl,rfl,rfl,Zi (Zf (n:=i+1) (by omega)),trivial⟩,rfl⟩
   all_goals (exfalso;rw [Zb] at hb;simp at hb;omega)
 · have e : i = l.length := by omega
   subst e
   rw [List.take_length] at hA
   have hc3:∀ H,CallOk E0 Tryz.prog 265 [out] H (slV true 4 (Za (QS (Uj kk l)))) H:=fun H=>Z8 (hc2 true hNil) (by simp only [ZZ,hA.frzG]) (YV _ _ _ _ _) H
   repeat' first|refine Jc (hc3 _) ?_|refine Jl ?_|refine Jb ?_ ?_|refine Jo ?_|intro hb
   · exfalso;rw [Zb] at hb;simp at hb
   · exact YV _ _ _ _ _
theorem ZtX (ht:t.Ok) (hsz:t.size≤100000):∀ H,CallOk E0 Tryz.prog 205 [.agg t.cells] H (slV true 4 (Za (QS (Uj 1 t.all)))) H:=by
 have hc:=Zsd ht hsz 1
 generalize QS (Uj 1 t.all)=l at hc ⊢
 obtain ⟨k,nm,s,tb,kids⟩:=t
 refine Jw tOk fe205.ok (YV _ _ _ _ _) ?_
 repeat' first|refine Jc (hc _) ?_|refine Jo ?_|fail
 exact YV _ _ _ _ _
theorem ZtD (ht:t.Ok) (hsz:t.size≤100000):∀ H,CallOk E0 Tryz.prog 166 [.agg t.cells] H (.bool t.ground) H:=by
 have hc:=ZtX ht hsz
 have hg:t.ground=decide ((QS (Uj 1 t.all)).length=0):=by
  unfold Tm.ground
  have:=ZjY (l:=Uj 1 t.all)
  cases h:Uj 1 t.all with
  | nil=>rw [h] at this;simp [this.2 rfl]
  | cons a r =>
    rw [h] at this
    have h2:QS (a::r)≠ []:=fun e=>by simp at this;exact this e
    simp [h2]
 rw [hg]
 generalize QS (Uj 1 t.all)=l at hc ⊢
 clear hg
 obtain ⟨k,nm,s,tb,kids⟩:=t
 refine Jw tOk fe166.ok rfl ?_
 repeat' first|refine Jc (hc _) ?_|refine Jl ?_|refine Jt ?_|refine Jb ?_ ?_|refine Jo ?_|intro hb
 all_goals (refine ifq ?_;rw [Zb] at hb;simp at hb;simp [hb])
theorem c167 (ht:t.Ok) (hsz:t.size≤100000):∀ H,CallOk E0 Tryz.prog 167 [.agg t.cells] H (.bool (decide (t.valid=0∧t.th=0)&&t.fre)) H:=by
 have h1:=ZqN ht (by omega)
 have hc:=ZqR ht hsz
 have he:decide (t.valid=0∧t.th=0)=decide ((if t.valid≠0 then t.valid else t.th)=0):=by
  congr 1;apply propext
  split<;>omega
 rw [he,Tm.fre_all]
 clear he
 have hal:=t.all_len
 generalize (if t.valid≠0 then t.valid else t.th)=e at h1
 generalize t.all=l at hc hal ⊢
 obtain ⟨k,nm,s,tb,kids⟩:=t
 refine Jw tOk fe167.ok rfl ?_
 repeat' first|refine Jc (h1 _) ?_|refine Jc (hc _) ?_|refine Jt ?_|refine Jb ?_ ?_|refine Jo ?_|intro hb
 · have h9 : e ≠ 0 := by simpa using hb
   simp [h9]
 have he0:e=0:=by simpa using hb
 rw [show (decide (e=0)&&l.all Tm.fre1)=l.all Tm.fre1 by simp [he0]]
 clear h1 hc
 refine Wp.while (fun m tm H=>∃ (i:Nat),∃ base,i+m=l.length∧l.all Tm.fre1=(l.drop i).all Tm.fre1∧tm=ovr base [(3,slV false 4 (Za l)),(4,.int .i64 (i:Int))]∧H=⟨[.cells 4 [[.int .i64 k,.str nm,.int .i64 s,slV tb 4 (Za kids)]]],0,[],0⟩)
  (fun m tm H hI=>?_) l.length _ _ ⟨0,_,by omega,by simp,Zh ⟨rfl,rfl,trivial⟩,rfl⟩
 obtain ⟨i,base,hi,hall,rfl,rfl⟩:=hI
 rw [hall]
 by_cases hlt:i<l.length
 · obtain ⟨x, hx⟩ : ∃ x, l[i]? = some x := ⟨l[i], by simp⟩
   rw [QH hx]
   obtain ⟨k',nm',s',b',kids'⟩:=x
   have hj:=Zl hx
   have hc1:=ZtJ nm'
   have hc2:=Zqk nm'
   simp only [Tm.fre1,ZlU]
   generalize ZmI nm'=A at hc1
   generalize (Qt nm').kind=B at hc2
   repeat' first|refine Jk ?_|refine Jc (hc1 _) ?_|refine Jc (hc2 _) ?_|refine Jl ?_|refine Jx ?_|refine Jt ?_|refine Jb ?_ ?_|refine Jo ?_|intro hb
   · have h9 := ‹(k' == 3) = true›
     simp at h9
     rw [hb]
     simp [h9]
   · have h9 := ‹(k' == 3) = true›
     simp at h9 hb
     simp [h9,hb]
   · have h9 := ‹(k' == 3) = true›
     have h8:= ‹A=false›
     simp at h9 hb
     have h7:(if k'=3 then !A&&decide (B≠3) else true)=true:=by simp [h9,h8,hb]
     rw [h7,Bool.true_and]
     exact LoopI.go (m-1) (by omega) ⟨i+1,_,by omega,rfl,Zh ⟨rfl,Zi (Zf (n:=i+1) (by omega)),trivial⟩,rfl⟩
   · simp at hb
     have h7:(if k'=3 then !A&&decide (B≠3) else true)=true:=by simp [hb]
     rw [h7,Bool.true_and]
     exact LoopI.go (m-1) (by omega) ⟨i+1,_,by omega,rfl,Zh ⟨rfl,Zi (Zf (n:=i+1) (by omega)),trivial⟩,rfl⟩
   all_goals
    exfalso
    have h9:= ‹decide ((i:Int)<((Za l).length:Int))=false›
    rw [Zb] at h9
    simp at h9
    omega
 · have e : i = l.length := by omega
   subst e
   repeat' first|refine Jl ?_|refine Jt ?_|refine Jb ?_ ?_|refine Jo ?_|intro hb
   · exfalso;rw [Zb] at hb;simp at hb
   · rw [List.drop_length];rfl
theorem Zqj (ht:t.Ok) (hsz:t.size≤100000):∀ H,CallOk E0 Tryz.prog 119 [.agg t.cells] H (.int .i64 t.key) H:=by
 have h1:=ZqN ht (by omega)
 have h2:=ZtD ht hsz
 have h3:=c167 ht hsz
 unfold Tm.key
 generalize t.valid=e1 at h1 h3 ⊢
 generalize t.th=e2 at h1 h3 ⊢
 generalize t.ground=g at h2 ⊢
 generalize t.fre=f at h3 ⊢
 obtain ⟨k,nm,s,tb,kids⟩:=t
 refine Jw tOk fe119.ok rfl ?_
 repeat' first|(apply qCl;rfl;rfl;rfl;rfl;first|exact h1 _|exact h2 _|exact h3 _)|refine Jb ?_ ?_|refine Jo ?_|intro hb
 all_goals (refine Zi ?_;clear h1 h2 h3)
 · have h9 : (if e1 ≠ 0 then e1 else e2) ≠ 0 := by simpa using hb
   by_cases c1:e1≠0
   · rw [if_pos c1,if_pos c1]
   · rw [if_neg c1] at h9
     rw [if_neg c1,if_neg c1,if_pos h9]
 all_goals
  have h9:(if e1≠0 then e1 else e2)=0:=by simpa using ‹((if e1≠0 then e1 else e2) != 0)=false›
  have c1:¬ e1≠0:=fun c=>by rw [if_pos c] at h9;exact c h9
  rw [if_neg c1] at h9
  rw [if_neg c1,if_neg (by omega)]
 · rw [if_pos (by simpa using hb)]
 all_goals rw [if_neg (by simpa using ‹(!g)=false›)]
 · rw [if_pos]
   cases f
   · rfl
   · exfalso;simp at hb;omega
 · rw [if_neg]
   intro hf
   subst hf
   simp at hb
open Go.Proofs
theorem ZC (t:Tm):Za [t]= [t.cells]:=by obtain ⟨k,nm,s,b,kids⟩:=t;rfl
theorem Q6 (h:ApV b es L out lv nt) (k:Int) (nm:List UInt8) (s:Int):[PV.int .i64 k,.str nm,.int .i64 s,out].all Z4=true:=by cases h<;>rfl
theorem V2 (h:ApV true es L out lv nt) (hL:L≠ []):∃ k,out= .sl (.tok k) es L:=by
 cases h with
 |nil=>exact absurd rfl hL
 |full _ _ _ h=>cases h
 |tok L k=>exact ⟨k,rfl⟩
theorem Z3 (m:Nat) (H:Heap) (k:Int) (nm:List UInt8) (s:Int) (b:Bool) (l:List (List PV)):frz3 m H (.agg [.int .i64 k,.str nm,.int .i64 s,slV b 4 l])=some (.agg [.int .i64 k,.str nm,.int .i64 s,slV b 4 l]):=by
 rw [Wf]
 simp only [Ul,UH]
 rfl
theorem Zgv (h:ApV b 4 L out lv nt) (m:Nat) (H:Heap) (k:Int) (nm:List UInt8) (s:Int):frz3 m H (.agg [.int .i64 k,.str nm,.int .i64 s,out])=some (.agg [.int .i64 k,.str nm,.int .i64 s,slV b 4 L]):=by
 rw [Wf]
 simp only [Ul,h.frzC]
 rfl
theorem ZqQ (ht:t.Ok):t.size≤100000→∀ H,CallOk E0 Tryz.prog 123 [.agg t.cells] H (.agg t.cl.cells) H:=by
 induction ht with
 | @mk k nm s b kids hk hs hn hl hok ih=>
 intro hsz
 simp only [Tm.size] at hsz
 have hkl:kids.length≤Zz kids:=by
  rw [← VC]
  have:∀ l:List Tm,l.length≤(UY l).length:=by
   intro l
   induction l with
   | nil=>simp
   | cons a r ih =>
     have:=a.all_len
     have:=YY a
     simp only [UY,List.length_append,List.length_cons]
     omega
  exact this kids
 simp only [Tm.cl,Tm.cells]
 refine Jw tOk fe123.ok (Z3 _ _ _ _ _ _ _) ?_
 repeat' first|refine Jl ?_|refine Jo ?_|fail
 refine Wp.while (fun m tm H => ∃ (i : Nat) (base : TM) (out : PV) (lv : List Nat) (nt : Nat), i + m = kids.length ∧ ApV true 4 (Za (clL (kids.take i))) out lv nt ∧
   tm=ovr base [(1,.ptr 0 4 0 0),(2,.ptr 1 4 0 0),(9,slV b 4 (Za kids)),(10,.int .i64 (kids.length:Int)),(11,.int .i64 (i:Int))]∧H=⟨[.cells 4 [[.int .i64 k,.str nm,.int .i64 s,out]],.cells 4 [[.int .i64 0,.str [],.int .i64 0,.nils]]],0,lv,nt⟩)
  (fun m tm H hI=>Wp.drop ?_) kids.length _ _ ⟨0,_,_,_,_,by omega,.nil _ _ rfl,Zh ⟨rfl,rfl,rfl,Zi (by rw [Zb]),rfl,trivial⟩,rfl⟩
 obtain ⟨i,base,out,lv,nt,hi,hA,rfl,rfl⟩:=hI
 by_cases hlt:i<kids.length
 · obtain ⟨t', ht'⟩ : ∃ t', kids[i]? = some t' := ⟨kids[i], by simp⟩
   have hm:t'∈kids:=List.mem_of_getElem? ht'
   have hle:=Xm hm
   have hs:=ZbQ ht'
   have hc:=ih t' hm (by omega)
   have hlen1:(clL (kids.take i)).length≤kids.length:=by
    rw [W9,List.length_take];omega
   obtain ⟨out',lv',nt',hap,hA', -⟩:=hA.app Yw (.sl .full 4 (Za [t'.cl])) (Zm _) (ZU (by simp only [Zb,List.length_cons,List.length_nil];omega) (by decide)) (Zv _)
   rw [← Zk, ← hs] at hA'
   obtain ⟨kc,nc,sc,bc,lc,ec⟩:∃ kc nc sc bc lc,t'.cl= .mk kc nc sc bc lc:=by
    obtain ⟨k',nm',s',b',kids'⟩:=t'
    exact ⟨_,_,_,_,_,rfl⟩
   rw [ec] at hc hap
   rw [X8] at hap
   obtain ⟨kt,rfl⟩:=V2 hA' (by rw [hs,Zk,ZC];simp)
   obtain ⟨k',nm',s',b',kids'⟩:=t'
   have hj:=Zl ht'
   repeat' first|refine Jx ?_|refine Jz ?_ ?_|refine Jo ?_|refine Jd (hc _) ?_|refine JB ?_|(apply dAp;rfl;rfl;rfl;rfl;rfl;(first|assumption|solve_by_elim);rfl)|refine Jh ?_|(apply Wp.drawS tOk follows;kernel_rfl;rfl)|intro hb
   · exact DropQ.go [(1, .ptr 0 4 0 0), (2, .ptr 1 4 0 0), (9, slV b 4 (Za kids)), (10, .int .i64 (kids.length : Int)), (11, .int .i64 ((i + 1 : Nat) : Int))] ⟨rfl, rfl, rfl, rfl, Zi (Zf (n := i + 1) (by omega)), trivial⟩
       (by simp [Zp,under]) rfl (by simp [YF,ZP,under]) (LoopI.go (m-1) (by omega) ⟨i+1,_,_,lv',nt',by omega,hA',rfl,rfl⟩)
   · exfalso;simp at hb;omega
 · have e : i = kids.length := by omega
   subst e
   rw [List.take_length] at hA
   have hco:=Q6 hA k nm s
   repeat' first|refine Jz ?_ ?_|refine Jo ?_|intro hb
   · exfalso;simp at hb
   · exact Zgv hA _ _ _ _ _
end Go.Vm.Seat
