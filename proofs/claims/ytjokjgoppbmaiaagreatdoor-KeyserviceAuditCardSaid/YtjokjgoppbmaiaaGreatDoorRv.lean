/-
  The variables of a term, and free terms: the reference's text.
-/
import Derived.Test.YtjokjgoppbmaiaaGreatDoorTh2
import Derived.Test.YtjokjgoppbmaiaaGreatDoorCmp
import Derived.Test.YtjokjgoppbmaiaaGreatDoorFh
set_option maxHeartbeats 64000000
set_option maxRecDepth 100000
namespace Go.Vm.Seat
open Go.Proofs
theorem fits_of {n m by_:Nat} (h:n+m≤10000000) (hb:by_≤1000000):apFits n m by_=true:=by
 simp only [apFits,Bool.and_eq_true,Nat.ble_eq]
 have:=Nat.mul_le_mul (show n+m+96≤10000096 by omega) hb
 omega
theorem apT_tm:ApT E0 22 22 4 56:=⟨_,_,_,_,_,rfl,rfl,rfl,rfl,rfl,rfl,rfl,by decide,rfl⟩
theorem noB_cellsL (l:List Tm):noB (cellsL l)=true:=by
 simp only [cellsL_eq,noB,List.all_map,List.all_eq_true]
 rintro ⟨k,nm,s,b,kids⟩ _
 rfl
theorem cells_one (k:Int) (nm:List UInt8) (s:Int) (b:Bool) (kids:List Tm):cellsL [Tm.mk k nm s b kids]= [[.int .i64 k,.str nm,.int .i64 s,slV b 4 (cellsL kids)]]:=rfl
theorem c176 {t:Tm} (ht:t.Ok):t.size≤100000→∀ H,CallOk E0 Tryz.prog 176 [.agg t.cells] H (slV false 4 (cellsL t.all)) H:=by
 induction ht with
 | @mk k nm s b kids hk hs hn hl hok ih=>
 intro hsz
 simp only [Tm.size] at hsz
 simp only [Tm.all]
 refine κw tOk fe176.ok (frz3_slV _ _ _ _ _) ?_
 repeat' first | refine κn ?_ | refine κs ?_ | refine κg ?_ | refine κa ?_ | fail
 refine Wp.while (fun m tm H => ∃ (i : Nat) (base : TM) (out : PV) (lv : List Nat) (nt : Nat), i + m = kids.length ∧ ApV false 4 (cellsL (Tm.mk k nm s b kids :: allL (kids.take i))) out lv nt ∧
   tm=ovr base [(1,.ptr 0 4 0 0),(3,out),(4,.int .i64 (i:Int))]∧H=⟨[.cells 4 [[.int .i64 k,.str nm,.int .i64 s,slV b 4 (cellsL kids)]]],0,lv,nt⟩)
  (fun m tm H hI=> ?_) kids.length _ _ ⟨0,_,_,_,_,by omega,.full (cellsL [Tm.mk k nm s b kids]) _ _ rfl (noB_cellsL _),ovr_mk ⟨rfl,rfl,rfl,trivial⟩,rfl⟩
 obtain ⟨i,base,out,lv,nt,hi,hA,rfl,rfl⟩:=hI
 by_cases hlt:i < kids.length
 · obtain ⟨t', ht'⟩ : ∃ t', kids[i]? = some t' := ⟨kids[i], by simp⟩
   have hm:t'∈kids:=List.mem_of_getElem? ht'
   have hle:=size_le hm
   have hs:=allL_snoc ht'
   have hc:=ih t' hm (by omega)
   have hlen1:(allL (kids.take i)).length≤sizeL kids:=by
    rw [allL_len];exact sizeL_take_le kids i
   have hlen2:=t'.all_len
   obtain ⟨out',lv',nt',hap,hA', -⟩:=hA.app apT_tm (.slV false 4 (cellsL t'.all)) (cellsL_cellOk _) (fits_of (by simp only [cellsL_length,List.length_cons];omega) (by decide)) (noB_cellsL _)
   rw [← cellsL_append,List.cons_append, ← hs] at hA'
   obtain ⟨k',nm',s',b',kids'⟩:=t'
   have hj:=cellsL_get ht'
   unfold maxLen at hl
   repeat' first | refine κn ?_ | refine κc (hc _) ?_ | refine κA ?_ | refine κl ?_ | refine κx ?_ | refine κb ?_ ?_ | refine κg ?_ | refine κa ?_ | refine κf ?_ | intro hb
   · exact LoopI.go (m - 1) (by omega) ⟨i+1,_,out',lv',nt',by omega,hA',ovr_mk ⟨rfl,rfl,int_eq (wrap_nat (n:=i+1) (by omega)),trivial⟩,rfl⟩
   · exfalso;rw [cellsL_length] at hb;simp at hb;omega
 · have e : i = kids.length := by omega
   subst e
   rw [List.take_length] at hA
   repeat' first | refine κn ?_ | refine κl ?_ | refine κb ?_ ?_ | refine κg ?_ | refine κa ?_ | refine κf ?_ | intro hb
   · exfalso;rw [cellsL_length] at hb;simp at hb
   · exact hA.frz3 _ _
theorem c293 {l:List Tm} {t:Tm} (b:Bool) (hl:∀ x,x∈l→x.Ok∧x.size≤100000) (ht:t.Ok) (hsz:t.size≤100000) (hlen:l.length≤100000):∀ H,CallOk E0 Tryz.prog 293 [slV b 4 (cellsL l),.agg t.cells] H (slV true 4 (cellsL (addL l t))) H:=by
 have hcmp:∀ x,x∈l→∀ H,CallOk E0 Tryz.prog 40 [.agg t.cells,.agg x.cells] H (.int .i64 (t.cmp x)) H:=fun x hx H=>toE0 (d40 ht (hl x hx).1 (by omega) (by have:=(hl x hx).2;omega) H)
 obtain ⟨T,hT⟩:∃ T,T=t:=⟨_,rfl⟩
 obtain ⟨k,nm,s,tb,kids⟩:=t
 have hlen0:=fun i=>addFold_len T (l.take i) ([],false)
 refine κw tOk fe293.ok (frz3_slV _ _ _ _ _) ?_ (by simp only [frzGL,frzG_slV];simp [frzG,Tm.cells,frz_tm])
 repeat' first | refine κn ?_ | refine κt ?_ | refine κg ?_ | refine κa ?_ | fail
 refine Wp.while (fun m tm H => ∃ (i : Nat) (base : TM) (out : PV) (lv : List Nat) (nt : Nat), i + m = l.length ∧ ApV true 4 (cellsL ((l.take i).foldl (addStep T) ([], false)).1) out lv nt ∧
   tm=ovr base [(0,slV b 4 (cellsL l)),(3,.ptr 0 4 0 0),(5,out),(6,.bool ((l.take i).foldl (addStep T) ([],false)).2),(7,.int .i64 (i:Int))]∧H=⟨[.cells 4 [[.int .i64 k,.str nm,.int .i64 s,slV tb 4 (cellsL kids)]]],0,lv,nt⟩)
  (fun m tm H hI=> ?_) l.length _ _ ⟨0,_,_,_,_,by omega,.nil _ _ rfl,ovr_mk ⟨rfl,rfl,rfl,rfl,rfl,trivial⟩,rfl⟩
 obtain ⟨i,base,out,lv,nt,hi,hA,rfl,rfl⟩:=hI
 have hl1:=hlen0 i
 have hl2:(l.take i).length≤l.length:=by rw [List.length_take];omega
 by_cases hlt:i < l.length
 · obtain ⟨x, hx⟩ : ∃ x, l[i]? = some x := ⟨l[i], by simp⟩
   have hm:x∈l:=List.mem_of_getElem? hx
   have hs:=foldl_snoc (f:=addStep T) (b:=([],false)) hx
   generalize (l.take i).foldl (addStep T) ([],false)=S at hA hs hl1 ⊢
   obtain ⟨o,d⟩:=S
   have hc:=hcmp x hm
   rw [← hT] at hc
   have hlo:o.length≤100001:=by simp only [b01,List.length_nil] at hl1;omega
   simp only [addStep] at hs
   generalize T.cmp x=c at hc hs
   rw [hT] at hc
   obtain ⟨o1,v1,n1,hap1,hA1, -⟩:=hA.app apT_tm (.sl .full 4 (cellsL [Tm.mk k nm s tb kids])) (cellsL_cellOk _) (fits_of (by simp only [cellsL_length,List.length_cons,List.length_nil];omega) (by decide)) (noB_cellsL _)
   obtain ⟨o2,v2,n2,hap2,hA2, -⟩:=hA.app apT_tm (.sl .full 4 (cellsL [x])) (cellsL_cellOk _) (fits_of (by simp only [cellsL_length,List.length_cons,List.length_nil];omega) (by decide)) (noB_cellsL _)
   obtain ⟨o3,v3,n3,hap3,hA3, -⟩:=hA1.app apT_tm (.sl .full 4 (cellsL [x])) (cellsL_cellOk _) (fits_of (by simp only [cellsL_length,List.length_cons,List.length_nil,List.length_append];omega) (by decide)) (noB_cellsL _)
   rw [← cellsL_append] at hA1 hA2
   rw [← cellsL_append, ← cellsL_append, ← hT] at hA3
   obtain ⟨k',nm',s',b',kids'⟩:=x
   have hj:=cellsL_get hx
   rw [cells_one] at hap1 hap2 hap3
   repeat' first | refine κn ?_ | refine κk ?_ | refine κs ?_ | refine κA ?_ | refine κl ?_ | refine κx ?_ | refine κt ?_ | refine κb ?_ ?_ | refine κg ?_ | refine κd (hc _) ?_ | refine κI ?_ | refine κh ?_ | refine κa ?_ | (apply Wp.draw tOk follows;kernel_rfl) | refine κf ?_ | intro hb
   · have hd : d = true := hb
     rw [if_neg (by rw [hd];simp)] at hs
     exact LoopI.go (m - 1) (by omega) ⟨i+1,_,o2,v2,n2,by omega,by rw [hs];exact hA2,ovr_mk ⟨rfl,rfl,rfl,(by rw [hs];rfl),int_eq (wrap_nat (n:=i+1) (by omega)),trivial⟩,rfl⟩
   · have hd : d = false := ‹(o, d).snd = false›
     have h0:c < 0:=by simpa using hb
     rw [if_pos ⟨hd,by omega⟩,if_pos h0] at hs
     exact LoopI.go (m - 1) (by omega) ⟨i+1,_,o3,v3,n3,by omega,by rw [hs];exact hA3,ovr_mk ⟨rfl,rfl,rfl,(by rw [hs];rfl),int_eq (wrap_nat (n:=i+1) (by omega)),trivial⟩,rfl⟩
   · have hd : d = false := ‹(o, d).snd = false›
     have h0:¬ c < 0:=by simpa using hb
     have h1:c≤0:=by simpa using ‹decide (c≤0)=true›
     rw [if_pos ⟨hd,h1⟩,if_neg h0,List.append_nil] at hs
     exact LoopI.go (m - 1) (by omega) ⟨i+1,_,o2,v2,n2,by omega,by rw [hs];exact hA2,ovr_mk ⟨rfl,rfl,rfl,(by rw [hs];rfl),int_eq (wrap_nat (n:=i+1) (by omega)),trivial⟩,rfl⟩
   · have hd : d = false := ‹(o, d).snd = false›
     have h1:¬ c≤0:=by simpa using hb
     rw [if_neg fun h=>h1 h.2] at hs
     exact LoopI.go (m - 1) (by omega) ⟨i+1,_,o2,v2,n2,by omega,by rw [hs];exact hA2,ovr_mk ⟨rfl,rfl,rfl,(by rw [hs];rfl),int_eq (wrap_nat (n:=i+1) (by omega)),trivial⟩,rfl⟩
   all_goals
    exfalso
    have h9:= ‹decide ((i:Int) < ((cellsL l).length:Int))=false›
    rw [cellsL_length] at h9
    simp at h9
    omega
 · have e : i = l.length := by omega
   subst e
   rw [List.take_length] at hA hl1 ⊢
   have hadd : addL l (Tm.mk k nm s tb kids) = match l.foldl (addStep T) ([], false) with
     | (o,true)=>o
     | (o,false)=>o ++ [Tm.mk k nm s tb kids]:=by rw [hT];rfl
   rw [hadd]
   generalize l.foldl (addStep T) ([],false)=S at hA hl1 ⊢
   obtain ⟨o,d⟩:=S
   have hlo:o.length≤100001:=by simp only [b01,List.length_nil] at hl1;omega
   obtain ⟨o1,v1,n1,hap1,hA1, -⟩:=hA.app apT_tm (.sl .full 4 (cellsL [Tm.mk k nm s tb kids])) (cellsL_cellOk _) (fits_of (by simp only [cellsL_length,List.length_cons,List.length_nil];omega) (by decide)) (noB_cellsL _)
   rw [← cellsL_append] at hA1
   rw [cells_one] at hap1
   repeat' first | refine κn ?_ | refine κs ?_ | refine κA ?_ | refine κl ?_ | refine κt ?_ | refine κb ?_ ?_ | refine κg ?_ | refine κh ?_ | refine κa ?_ | (apply Wp.draw tOk follows;kernel_rfl) | refine κf ?_ | intro hb
   · exfalso;rw [cellsL_length] at hb;simp at hb
   all_goals
    first
     | (have hd : d = true := hb
        subst hd
        exact hA.frz3 _ _)
     | (have hd : d = false := hb
        subst hd
        exact hA1.frz3 _ _)
theorem c266 {l:List Tm} (b:Bool) (hl:∀ x,x∈l→x.Ok∧x.size≤100000) (hlen:l.length≤100000):∀ H,CallOk E0 Tryz.prog 266 [slV b 4 (cellsL l)] H (slV true 4 (cellsL (setL l))) H:=by
 have hmem:=fun i=>setFold_mem (l.take i) []
 have hsl:=fun i=>setFold_len (l.take i) []
 refine κw tOk fe266.ok (frz3_slV _ _ _ _ _) ?_
 have e0:PV.nils=slV true 4 (cellsL ([]:List Tm)):=slV_nil_true 4 |>.symm
 repeat' first | refine κn ?_ | refine κg ?_ | refine κa ?_ | fail
 refine Wp.while (fun m tm H => ∃ (i : Nat) (base : TM), i + m = l.length ∧
   tm=ovr base [(0,slV b 4 (cellsL l)),(3,slV true 4 (cellsL ((l.take i).foldl addL []))),(4,.int .i64 (i:Int))]∧H=⟨[],0,[],0⟩)
  (fun m tm H hI=> ?_) l.length _ _ ⟨0,_,by omega,ovr_mk ⟨rfl,e0,rfl,trivial⟩,rfl⟩
 obtain ⟨i,base,hi,rfl,rfl⟩:=hI
 have hm2:=hmem i
 have hsl2:=hsl i
 have hl2:(l.take i).length≤l.length:=by rw [List.length_take];omega
 by_cases hlt:i < l.length
 · obtain ⟨x, hx⟩ : ∃ x, l[i]? = some x := ⟨l[i], by simp⟩
   have hm:x∈l:=List.mem_of_getElem? hx
   have hs:=foldl_snoc (f:=addL) (b:=[]) hx
   generalize (l.take i).foldl addL []=S at hs hm2 hsl2 ⊢
   have hc:=c293 (l:=S) (t:=x) true (fun y hy=>hl y ((hm2 y hy).elim (fun h=>absurd h (by simp)) List.mem_of_mem_take)) (hl x hm).1 (hl x hm).2 (by simp at hsl2;omega)
   rw [← hs] at hc
   obtain ⟨k',nm',s',b',kids'⟩:=x
   have hj:=cellsL_get hx
   repeat' first | refine κn ?_ | refine κc (hc _) ?_ | refine κl ?_ | refine κx ?_ | refine κb ?_ ?_ | refine κg ?_ | refine κa ?_ | refine κf ?_ | intro hb
   · exact LoopI.go (m - 1) (by omega) ⟨i+1,_,by omega,ovr_mk ⟨rfl,rfl,int_eq (wrap_nat (n:=i+1) (by omega)),trivial⟩,rfl⟩
   · exfalso;rw [cellsL_length] at hb;simp at hb;omega
 · have e : i = l.length := by omega
   subst e
   rw [List.take_length]
   repeat' first | refine κn ?_ | refine κl ?_ | refine κb ?_ ?_ | refine κg ?_ | refine κa ?_ | refine κf ?_ | intro hb
   · exfalso;rw [cellsL_length] at hb;simp at hb
   · exact frz3_slV _ _ _ _ _
theorem c234 {t:Tm} (ht:t.Ok) (hsz:t.size≤100000) (kk:Int):∀ H,CallOk E0 Tryz.prog 234 [.agg t.cells,.int .i64 kk] H (slV true 4 (cellsL (setL (kndL kk t.all)))) H:=by
 have hc:=c176 ht hsz
 have hao:=all_ok ht
 have hal:=t.all_len
 generalize t.all=l at hc hao hal ⊢
 have hkm:∀ x,x∈kndL kk l→x.Ok∧x.size≤100000:=fun x hx=>by
  have:=hao x (List.mem_filter.1 hx).1
  exact ⟨this.1,by omega⟩
 have hkl:=kndL_len kk l
 have hc2:=fun b=>c266 b hkm (by omega)
 obtain ⟨k,nm,s,tb,kids⟩:=t
 refine κw tOk fe234.ok (frz3_slV _ _ _ _ _) ?_ (by simp [frzGL,frzG,Tm.cells,frz_tm,frz1])
 repeat' first | refine κn ?_ | refine κc (hc _) ?_ | refine κg ?_ | refine κa ?_ | fail
 refine Wp.while (fun m tm H => ∃ (i : Nat) (base : TM) (out : PV) (lv : List Nat) (nt : Nat), i + m = l.length ∧ ApV true 4 (cellsL (kndL kk (l.take i))) out lv nt ∧
   tm=ovr base [(1,.int .i64 kk),(5,out),(6,slV false 4 (cellsL l)),(7,.int .i64 (i:Int))]∧H=⟨[.cells 4 [[.int .i64 k,.str nm,.int .i64 s,slV tb 4 (cellsL kids)]]],0,lv,nt⟩)
  (fun m tm H hI=> ?_) l.length _ _ ⟨0,_,_,_,_,by omega,.nil _ _ rfl,ovr_mk ⟨rfl,rfl,rfl,rfl,trivial⟩,rfl⟩
 clear hc
 obtain ⟨i,base,out,lv,nt,hi,hA,rfl,rfl⟩:=hI
 by_cases hlt:i < l.length
 · obtain ⟨x, hx⟩ : ∃ x, l[i]? = some x := ⟨l[i], by simp⟩
   have hs:=kndL_snoc (k:=kk) hx
   have hl1:=kndL_len kk (l.take i)
   have hl2:(l.take i).length≤l.length:=by rw [List.length_take];omega
   obtain ⟨o2,v2,n2,hap2,hA2, -⟩:=hA.app apT_tm (.sl .full 4 (cellsL [x])) (cellsL_cellOk _) (fits_of (by simp only [cellsL_length,List.length_cons,List.length_nil];omega) (by decide)) (noB_cellsL _)
   rw [← cellsL_append] at hA2
   obtain ⟨k',nm',s',b',kids'⟩:=x
   have hj:=cellsL_get hx
   rw [cells_one] at hap2
   repeat' first | refine κn ?_ | refine κs ?_ | refine κA ?_ | refine κl ?_ | refine κx ?_ | refine κb ?_ ?_ | refine κg ?_ | refine κa ?_ | intro hb
   · rw [if_pos (show (Tm.mk k' nm' s' b' kids').knd = kk by simpa [Tm.knd] using hb)] at hs
     exact LoopI.go (m - 1) (by omega) ⟨i+1,_,o2,v2,n2,by omega,by rw [hs];exact hA2,ovr_mk ⟨rfl,rfl,rfl,int_eq (wrap_nat (n:=i+1) (by omega)),trivial⟩,rfl⟩
   · rw [if_neg (show ¬ (Tm.mk k' nm' s' b' kids').knd = kk by simpa [Tm.knd] using hb), List.append_nil] at hs
     exact LoopI.go (m - 1) (by omega) ⟨i+1,_,out,lv,nt,by omega,by rw [hs];exact hA,ovr_mk ⟨rfl,rfl,rfl,int_eq (wrap_nat (n:=i+1) (by omega)),trivial⟩,rfl⟩
   all_goals (exfalso;rw [cellsL_length] at hb;simp at hb;omega)
 · have e : i = l.length := by omega
   subst e
   rw [List.take_length] at hA
   have hc3:∀ H,CallOk E0 Tryz.prog 266 [out] H (slV true 4 (cellsL (setL (kndL kk l)))) H:=fun H=>callOk_lift (hc2 true hNil) (by simp only [frzGL,hA.frzG]) (frz3_slV _ _ _ _ _) H
   repeat' first | refine κn ?_ | refine κc (hc3 _) ?_ | refine κl ?_ | refine κb ?_ ?_ | refine κg ?_ | refine κa ?_ | refine κf ?_ | intro hb
   · exfalso;rw [cellsL_length] at hb;simp at hb
   · exact frz3_slV _ _ _ _ _
theorem c179 {t:Tm} (ht:t.Ok) (hsz:t.size≤100000):∀ H,CallOk E0 Tryz.prog 179 [.agg t.cells] H (slV true 4 (cellsL (setL (kndL 1 t.all)))) H:=by
 have hc:=c234 ht hsz 1
 generalize setL (kndL 1 t.all)=l at hc ⊢
 obtain ⟨k,nm,s,tb,kids⟩:=t
 refine κw tOk fe179.ok (frz3_slV _ _ _ _ _) ?_
 repeat' first | refine κn ?_ | refine κc (hc _) ?_ | refine κg ?_ | refine κa ?_ | refine κf ?_ | fail
 exact frz3_slV _ _ _ _ _
theorem c93 {t:Tm} (ht:t.Ok) (hsz:t.size≤100000):∀ H,CallOk E0 Tryz.prog 93 [.agg t.cells] H (.bool t.ground) H:=by
 have hc:=c179 ht hsz
 have hg:t.ground=decide ((setL (kndL 1 t.all)).length=0):=by
  unfold Tm.ground
  have:=setL_nil (l:=kndL 1 t.all)
  cases h:kndL 1 t.all with
  | nil=>rw [h] at this;simp [this.2 rfl]
  | cons a r =>
    rw [h] at this
    have h2:setL (a :: r)≠ []:=fun e=>by simp at this;exact this e
    simp [h2]
 rw [hg]
 generalize setL (kndL 1 t.all)=l at hc ⊢
 clear hg
 obtain ⟨k,nm,s,tb,kids⟩:=t
 refine κw tOk fe93.ok rfl ?_
 repeat' first | refine κn ?_ | refine κc (hc _) ?_ | refine κl ?_ | refine κt ?_ | refine κb ?_ ?_ | refine κg ?_ | refine κa ?_ | refine κf ?_ | intro hb
 all_goals (refine ifq ?_;rw [cellsL_length] at hb;simp at hb;simp [hb])
theorem c92 {t:Tm} (ht:t.Ok) (hsz:t.size≤100000):∀ H,CallOk E0 Tryz.prog 92 [.agg t.cells] H (.bool (decide (t.valid=0∧t.th=0) && t.fre)) H:=by
 have h1:=c175 ht (by omega)
 have hc:=c176 ht hsz
 have he:decide (t.valid=0∧t.th=0)=decide ((if t.valid≠0 then t.valid else t.th)=0):=by
  congr 1;apply propext
  split <;> omega
 rw [he,Tm.fre_all]
 clear he
 have hal:=t.all_len
 generalize (if t.valid≠0 then t.valid else t.th)=e at h1
 generalize t.all=l at hc hal ⊢
 obtain ⟨k,nm,s,tb,kids⟩:=t
 refine κw tOk fe92.ok rfl ?_
 repeat' first | refine κn ?_ | refine κc (h1 _) ?_ | refine κc (hc _) ?_ | refine κt ?_ | refine κb ?_ ?_ | refine κg ?_ | refine κa ?_ | refine κf ?_ | intro hb
 · have h9 : e ≠ 0 := by simpa using hb
   simp [h9]
 have he0:e=0:=by simpa using hb
 rw [show (decide (e=0) && l.all Tm.fre1)=l.all Tm.fre1 by simp [he0]]
 clear h1 hc
 refine Wp.while (fun m tm H=>∃ (i:Nat),∃ base,i+m=l.length∧l.all Tm.fre1=(l.drop i).all Tm.fre1∧tm=ovr base [(3,slV false 4 (cellsL l)),(4,.int .i64 (i:Int))]∧H=⟨[.cells 4 [[.int .i64 k,.str nm,.int .i64 s,slV tb 4 (cellsL kids)]]],0,[],0⟩)
  (fun m tm H hI=> ?_) l.length _ _ ⟨0,_,by omega,by simp,ovr_mk ⟨rfl,rfl,trivial⟩,rfl⟩
 obtain ⟨i,base,hi,hall,rfl,rfl⟩:=hI
 rw [hall]
 by_cases hlt:i < l.length
 · obtain ⟨x, hx⟩ : ∃ x, l[i]? = some x := ⟨l[i], by simp⟩
   rw [all_drop hx]
   obtain ⟨k',nm',s',b',kids'⟩:=x
   have hj:=cellsL_get hx
   have hc1:=c177 nm'
   have hc2:=c178 nm'
   simp only [Tm.fre1,fNmB]
   generalize algB nm'=A at hc1
   generalize (symF nm').kind=B at hc2
   repeat' first | refine κn ?_ | refine κk ?_ | refine κc (hc1 _) ?_ | refine κc (hc2 _) ?_ | refine κl ?_ | refine κx ?_ | refine κt ?_ | refine κb ?_ ?_ | refine κg ?_ | refine κa ?_ | refine κf ?_ | intro hb
   · have h9 := ‹(k' == 3) = true›
     simp at h9
     rw [hb]
     simp [h9]
   · have h9 := ‹(k' == 3) = true›
     simp at h9 hb
     simp [h9,hb]
   · have h9 := ‹(k' == 3) = true›
     have h8:= ‹A=false›
     simp at h9 hb
     have h7:(if k'=3 then !A && decide (B≠3) else true)=true:=by simp [h9,h8,hb]
     rw [h7,Bool.true_and]
     exact LoopI.go (m - 1) (by omega) ⟨i+1,_,by omega,rfl,ovr_mk ⟨rfl,int_eq (wrap_nat (n:=i+1) (by omega)),trivial⟩,rfl⟩
   · simp at hb
     have h7:(if k'=3 then !A && decide (B≠3) else true)=true:=by simp [hb]
     rw [h7,Bool.true_and]
     exact LoopI.go (m - 1) (by omega) ⟨i+1,_,by omega,rfl,ovr_mk ⟨rfl,int_eq (wrap_nat (n:=i+1) (by omega)),trivial⟩,rfl⟩
   all_goals
    exfalso
    have h9:= ‹decide ((i:Int) < ((cellsL l).length:Int))=false›
    rw [cellsL_length] at h9
    simp at h9
    omega
 · have e : i = l.length := by omega
   subst e
   repeat' first | refine κn ?_ | refine κl ?_ | refine κt ?_ | refine κb ?_ ?_ | refine κg ?_ | refine κa ?_ | refine κf ?_ | intro hb
   · exfalso;rw [cellsL_length] at hb;simp at hb
   · rw [List.drop_length];rfl
theorem c162 {t:Tm} (ht:t.Ok) (hsz:t.size≤100000):∀ H,CallOk E0 Tryz.prog 162 [.agg t.cells] H (.int .i64 t.key) H:=by
 have h1:=c175 ht (by omega)
 have h2:=c93 ht hsz
 have h3:=c92 ht hsz
 unfold Tm.key
 generalize t.valid=e1 at h1 h3 ⊢
 generalize t.th=e2 at h1 h3 ⊢
 generalize t.ground=g at h2 ⊢
 generalize t.fre=f at h3 ⊢
 obtain ⟨k,nm,s,tb,kids⟩:=t
 refine κw tOk fe162.ok rfl ?_
 repeat' first | refine κn ?_ | (apply qCl;rfl;rfl;rfl;rfl;first | exact h1 _ | exact h2 _ | exact h3 _) | refine κb ?_ ?_ | refine κg ?_ | refine κa ?_ | refine κf ?_ | intro hb
 all_goals (refine int_eq ?_;clear h1 h2 h3)
 · have h9 : (if e1 ≠ 0 then e1 else e2) ≠ 0 := by simpa using hb
   by_cases c1:e1≠0
   · rw [if_pos c1,if_pos c1]
   · rw [if_neg c1] at h9
     rw [if_neg c1,if_neg c1,if_pos h9]
 all_goals
  have h9:(if e1≠0 then e1 else e2)=0:=by simpa using ‹((if e1≠0 then e1 else e2) != 0)=false›
  have c1:¬ e1≠0:=fun c=>by rw [if_pos c] at h9;exact c h9
  rw [if_neg c1] at h9
  rw [if_neg c1,if_neg (by omega)]
 · rw [if_pos (by simpa using hb)]
 all_goals rw [if_neg (by simpa using ‹(!g)=false›)]
 · rw [if_pos]
   cases f
   · rfl
   · exfalso;simp at hb;omega
 · rw [if_neg]
   intro hf
   subst hf
   simp at hb
end Go.Vm.Seat
