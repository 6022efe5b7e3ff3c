/-
  Credentials: what the reference reads out of a term.
-/
import Derived.Test.YtpgfeijkfmgnjaaGreatDoorDa
set_option maxHeartbeats 0
set_option maxRecDepth 100000
namespace Go.Vm.Seat
variable {t:Tm}
open Go.Proofs
def Za9 (t:Tm):PV:=match Yp t with
 |some (x,y)=> .tup [.agg x.cells,.agg y.cells,.bool true]
 |none=> .tup [.agg Tm.zero.cells,.agg Tm.zero.cells,.bool false]
theorem VO (m:Nat) (H:Heap) (x y:Tm) (b:Bool):frz3 m H (.tup [.agg x.cells,.agg y.cells,.bool b])=some (.tup [.agg x.cells,.agg y.cells,.bool b]):=by
 have h:∀ t:Tm,frz2 m H (.agg t.cells)=some (.agg t.cells):=fun t=>Zz m H t
 show (match YR m H [.agg x.cells,.agg y.cells,.bool b] with|some vs'=>some (PV.tup vs')|none=>none)=_
 simp only [YR,h]
 rfl
theorem Zkf {k:Int} {nm:Bs} {s:Int} {b:Bool} {l:List Tm}:(Yp (.mk k nm s b l)).isSome=(isF k nm [112,97,105,114]&&decide (l.length=2)):=by
 rw [← ZcE]
 simp [Tm.isB,isF,Bool.and_assoc]
theorem Zr8 (t:Tm):∀ H,CallOk E0 Tryz.prog 177 [.agg t.cells] H (Za9 t) H:=by
 have hfr:frz3 0 hNil (Za9 t)=some (Za9 t):=by
  unfold Za9
  cases Yp t with
  | none=>exact VO _ _ _ _ _
  | some p=>exact VO _ _ _ _ _
 have hz:=Zk
 cases hp:Yp t with
 | some p =>
   obtain ⟨x,y⟩:=p
   have hn:Za9 t= .tup [.agg x.cells,.agg y.cells,.bool true]:=by unfold Za9;rw [hp]
   rw [hn] at hfr ⊢
   obtain ⟨s,b,rfl⟩:=XJ hp
   have c1:∀ H,CallOk E0 Tryz.prog 135 [.agg [.int .i64 3,.str [112,97,105,114],.int .i64 s,slV b 4 (Za [x,y])],.str [112,97,105,114]] H (.bool true) H:=Zn8 3 [112,97,105,114] s b [x,y] [112,97,105,114]
   have hj0:(Za [x,y])[0]? = some x.cells:=rfl
   have hj1:(Za [x,y])[1]? = some y.cells:=rfl
   have hl:(Za [x,y]).length=2:=rfl
   simp only [Tm.cells]
   generalize Za [x,y]=L at c1 hj0 hj1 hl ⊢
   have hft:=fun m H=>VO m H x y true
   clear hn hp
   obtain ⟨k1,nm1,s1,b1,kz1⟩:=x
   obtain ⟨k2,nm2,s2,b2,kz2⟩:=y
   simp only [Tm.cells] at hj0 hj1 hft hfr ⊢
   refine Zm (own:=(fun d=>[29999,50064,50073].any (Nat.beq d))) tOk fe177.ok (by simp only [ZJ,frzG,XY,ZD];rfl) hfr ?_
   refine Wp.seq ?_
   repeat' first|refine Jc (c1 _) ?_|refine Jl ?_|refine Jt ?_|refine Jb ?_ ?_|refine Jo ?_|refine JI ?_|(apply dT (ty:=4);rfl;rfl;rfl;rfl)|refine Jh ?_|(apply Wp.drawS tOk follows;kernel_rfl;rfl)|intro hb
   all_goals first
    | exact hft _ _
    | (exfalso;rw [hl] at hb;simp at hb;done)
 | none =>
   have hn:Za9 t= .tup [.agg Tm.zero.cells,.agg Tm.zero.cells,.bool false]:=by unfold Za9;rw [hp]
   rw [hn] at hfr ⊢
   obtain ⟨k,nm,s,b,kz⟩:=t
   have c1:=Zn8 k nm s b kz [112,97,105,114]
   have hpf:=Zkf (k:=k) (nm:=nm) (s:=s) (b:=b) (l:=kz)
   rw [hp] at hpf
   have hpf:false=(isF k nm [112,97,105,114]&&decide (kz.length=2)):=hpf
   generalize isF k nm [112,97,105,114]=B at c1 hpf
   clear hn hp
   rw [hz] at hfr ⊢
   simp only [Tm.cells]
   refine Zm (own:=(fun d=>[29999,50064,50073].any (Nat.beq d))) tOk fe177.ok (by simp only [ZJ,frzG,XY,ZD];rfl) hfr ?_
   refine Wp.seq ?_
   cases B with
   | false =>
     repeat' first|refine Jk ?_|refine Jc (c1 _) ?_|refine Jt ?_|refine Jo ?_|fail
     all_goals rfl
   | true =>
     have hl:¬ kz.length=2:=by simpa using hpf
     repeat' first|refine Jc (c1 _) ?_|refine Jl ?_|refine Jt ?_|refine Jb ?_ ?_|refine Jo ?_|refine Jh ?_|(apply Wp.drawS tOk follows;kernel_rfl;rfl)|intro hb
     all_goals first
      | rfl
      | (exfalso;have h9:= ‹(((Za kz).length:Int) != 2)=false›;rw [Zb] at h9;simp at h9;omega)
def Zau (t:Tm):PV:=if t.parts.2.cmp endT=0 then .tup [slV true 4 (Za t.parts.1),.bool true] else .tup [.nils,.bool false]
theorem Zsd (ht:t.Ok) (hsz:t.size≤90000):∀ H,CallOk E0 Tryz.prog 224 [.agg t.cells] H (Zau t) H:=by
 have hat:=Zq7
 rw [ZE] at hat
 have hfr:frz3 0 hNil (Zau t)=some (Zau t):=by
  unfold Zau
  split
  · exact QW _ _ _ _ _ _
  · rfl
 have hcells:∃ k nm s b kz,t= .mk k nm s b kz:=by obtain ⟨k,nm,s,b,kz⟩:=t;exact ⟨_,_,_,_,_,rfl⟩
 obtain ⟨P,hP⟩:∃ P,P=t.parts:=⟨_,rfl⟩
 have hV:Zau t=if P.2.cmp endT=0 then .tup [slV true 4 (Za P.1),.bool true] else .tup [.nils,.bool false]:=by rw [hP];rfl
 rw [hV] at hfr ⊢
 clear hV
 refine Zm (own:=fun d=>Nat.beq d 5023) tOk fe224.ok (by obtain ⟨k,nm,s,b,kz⟩:=t;simp [ZJ,frzG,Tm.cells,VF]) hfr ?_
 refine Wp.seq ?_
 obtain ⟨k0,nm0,s0,b0,kz0,ht0⟩:=hcells
 rw [show t.cells= [.int .i64 k0,.str nm0,.int .i64 s0,slV b0 4 (Za kz0)] by rw [ht0];rfl]
 repeat' first|refine Jt ?_|refine Jo ?_|fail
 refine Wp.while (fun m tm H => ∃ (acc : List Tm) (u : Tm) (base : TM) (out : PV) (lv : List Nat) (nt : Nat), u.size ≤ m ∧ acc.length + u.size ≤ t.size ∧ u.within t ∧ P = (acc ++ u.parts.1, u.parts.2) ∧ ApV true 4 (Za acc) out lv nt ∧
   tm=ovr base [(1,.ptr 0 4 0 0),(4,out)]∧H=⟨[.cells 4 [u.cells]],0,lv,nt⟩)
  (fun m tm H hI=>Wp.drop ?_) t.size _ _ ⟨[],t,_,_,_,_,Nat.le_refl _,by simp,Up t,by rw [hP];rfl,.nil _ _ rfl,Zi ⟨rfl,rfl,trivial⟩,by rw [ht0];rfl⟩
 obtain ⟨acc,u,base,out,lv,nt,hm,hal,hw,hpq,hA,rfl,rfl⟩:=hI
 clear hfr hP
 have hsame:=c13 (ht.part hw) ZfM (by have:=hw.1;omega) (by decide)
 rw [show endT.cells= [.int .i64 2,.str [101,110,100],.int .i64 5,.nils] from ZE _ _] at hsame
 have hnx:=Zr8 u
 unfold Za9 at hnx
 by_cases he:u.cmp endT=0
 · rw [decide_eq_true he] at hsame
   rw [WU (Zko he)] at hpq
   simp only [List.append_nil] at hpq
   subst hpq
   rw [if_pos he]
   obtain ⟨k,nm,s,b,kz⟩:=u
   simp only [Tm.cells] at hsame ⊢
   repeat' first|refine Jt ?_|refine Jo ?_|refine Jd (hat _) ?_|refine Jd (hsame _) ?_|(apply dF (ty:=4);rfl;rfl;rfl;rfl)|refine Jh ?_|(apply Wp.drawS tOk follows;kernel_rfl;rfl)|fail
   all_goals exact Zcp hA _ _ _
 · rw [decide_eq_false he] at hsame
   cases hp:Yp u with
   | none =>
     rw [hp] at hnx
     rw [WU hp] at hpq
     simp only [List.append_nil] at hpq
     subst hpq
     rw [if_neg he]
     have hnx2:∀ H,CallOk E0 Tryz.prog 177 [.agg u.cells] H (.tup [.agg Tm.zero.cells,.agg Tm.zero.cells,.bool false]) H:=hnx
     clear hnx
     rw [Zk] at hnx2
     obtain ⟨k,nm,s,b,kz⟩:=u
     simp only [Tm.cells] at hsame hnx2 ⊢
     repeat' first|refine Jc (hnx2 _) ?_|refine Jt ?_|refine Jo ?_|refine Jd (hat _) ?_|refine Jd (hsame _) ?_|(apply dT (ty:=4);rfl;rfl;rfl;rfl)|refine Jh ?_|(apply Wp.drawS tOk follows;kernel_rfl;rfl)|fail
     all_goals rfl
   | some q =>
     obtain ⟨x,y⟩:=q
     rw [hp] at hnx
     have hnx2:∀ H,CallOk E0 Tryz.prog 177 [.agg u.cells] H (.tup [.agg x.cells,.agg y.cells,.bool true]) H:=hnx
     clear hnx
     obtain ⟨w1,w2,w3⟩:=Y0 hp
     rw [VJ hp] at hpq
     have hx:=Y3 x
     obtain ⟨out',lv',nt',hap,hA', -⟩:=hA.app YA (.sl .full 4 (Za [x])) (Zs _) (ZZ (by simp only [Zb,List.length_cons,List.length_nil];omega) (by decide)) (ZC _)
     rw [← Zo] at hA'
     rw [ZQ] at hap
     have wy:=Yl w2 hw
     have hus:u.size≤m:=hm
     have hq2:P=((acc++ [x])++y.parts.1,y.parts.2):=by rw [hpq];simp
     obtain ⟨kt,rfl⟩:=Uo hA' (by simp [Zo,ZQ])
     clear hpq hp w1 w2 he
     obtain ⟨k,nm,s,b,kz⟩:=u
     obtain ⟨k1,nm1,s1,b1,kz1⟩:=x
     obtain ⟨k2,nm2,s2,b2,kz2⟩:=y
     simp only [Tm.cells] at hsame hnx2 hap ⊢
     repeat' first|refine Jc (hnx2 _) ?_|refine Jt ?_|refine Jo ?_|refine Jd (hat _) ?_|refine Jd (hsame _) ?_|refine JB ?_|(apply dAq;rfl;rfl;rfl;rfl;rfl;rfl;(first|assumption|solve_by_elim))|(apply dT (ty:=4);rfl;rfl;rfl;rfl)|refine Jh ?_|(apply Wp.drawS tOk follows;kernel_rfl;rfl)|fail
     exact DropQ.go [(1,.ptr 0 4 0 0),(4,.sl (.tok kt) 4 (Za (acc++ [Tm.mk k1 nm1 s1 b1 kz1])))] ⟨rfl,rfl,trivial⟩
      (by simp [under]) rfl (by simp [Yw,ZI,under,Zl]) (LoopI.go (Tm.mk k2 nm2 s2 b2 kz2).size (by omega) ⟨acc++ [Tm.mk k1 nm1 s1 b1 kz1],Tm.mk k2 nm2 s2 b2 kz2,_,_,lv',nt',Nat.le_refl _,by simp;omega,wy,hq2,hA',rfl,rfl⟩)
theorem addS {a b:Bs} (h:a.length+b.length≤1000000):ZP E0 .add 9 (.str a) (.str b)=some (.str (a++b)):=by
 show Zfq .add a b=_
 simp only [Zfq]
 rw [if_pos (by omega)]
theorem Zsc (ht:t.Ok) (hs:Small t):∀ H,CallOk E0 Tryz.prog 178 [.agg t.cells] H (.tup [.str (ZR t).1,.bool (ZR t).2]) H:=by
 have hc:=Zsd ht (by have:=hs.1;omega)
 have hjl:=WS hs
 have hpl:=Wj t
 have hts:=hs.1
 simp only [ZO] at hjl
 have hrn:∀ x,x∈t.parts.1→x.nm.length≤24:=fun x hx=>hs.2 x ((Xt hx).2 x (Vc x))
 simp only [ZR]
 unfold Zau at hc
 by_cases he:t.parts.2.cmp endT=0
 · rw [if_pos he] at hc ⊢
   generalize t.parts.1=l at hc hjl hpl hrn ⊢
   clear he
   obtain ⟨k,nm,s,b,kz⟩:=t
   simp only [Tm.cells] at hc
   refine Jw tOk fe178.ok rfl ?_
   repeat' first|refine Jc (hc _) ?_|refine Jt ?_|refine Jo ?_|fail
   refine Wp.while (fun m tm H => ∃ (i : Nat) (base : TM), i + m = l.length ∧
     tm=ovr base [(4,slV true 4 (Za l)),(5,.bool true),(6,.str (YW [46] ((l.take i).map Tm.nm))),(7,.int .i64 (i:Int))]∧H=⟨[.cells 4 [[.int .i64 k,.str nm,.int .i64 s,slV b 4 (Za kz)]]],0,[],0⟩)
    (fun m tm H hI=>?_) l.length _ _ ⟨0,_,by omega,Zi ⟨rfl,rfl,rfl,rfl,trivial⟩,rfl⟩
   obtain ⟨i,base,hi,rfl,rfl⟩:=hI
   by_cases hlt:i<l.length
   · obtain ⟨x, hx⟩ : ∃ x, l[i]? = some x := ⟨l[i], by simp⟩
     have hxn:=hrn x (List.mem_of_getElem? hx)
     have hm:=ZgS (l:=l.map Tm.nm) (i:=i)
     rw [← List.map_take] at hm
     have hsn:(l.take (i+1)).map Tm.nm=(l.take i).map Tm.nm++ [x.nm]:=by simp [List.take_add_one,hx]
     have hj1:i=0→YW [46] ((l.take (i+1)).map Tm.nm)=YW [46] ((l.take i).map Tm.nm)++x.nm:=fun e=>by rw [hsn,e];simp [YW]
     have hj2:i≠0→YW [46] ((l.take (i+1)).map Tm.nm)=(YW [46] ((l.take i).map Tm.nm)++ [46])++x.nm:=fun e=>by
      rw [hsn,ZbU]
      intro e2
      have:((l.take i).map Tm.nm).length=0:=by rw [e2];rfl
      rw [List.length_map,List.length_take] at this
      omega
     generalize YW [46] ((l.take i).map Tm.nm)=S at hm hj1 hj2 ⊢
     obtain ⟨k',nm',s',b',kz'⟩:=x
     simp only [Tm.nm] at hj1 hj2 hxn
     have a1:=addS (a:=S) (b:=nm') (by omega)
     have a2:=addS (a:=S) (b:=[46]) (by simp;omega)
     have a3:=addS (a:=S++ [46]) (b:=nm') (by simp;omega)
     have hj:=Zn hx
     have hbi:ZP E0 .lss 3 (.int .i64 (i:Int)) (.int .i64 ((Za l).length:Int))=some (.bool true):=by
      show some (PV.bool (decide ((i:Int)<((Za l).length:Int))))=_
      rw [Zb]
      simp [hlt]
     have hbp:ZP E0 .add 3 (.int .i64 (i:Int)) (.int .i64 1)=some (.int .i64 ((i+1:Nat):Int)):=by
      show some (PV.int .i64 (IntKind.i64.wrap ((i:Int)+1)))=_
      rw [show IntKind.i64.wrap ((i:Int)+1)=((i+1:Nat):Int) from Zg (n:=i+1) (by omega)]
     by_cases h0:i=0
     · have hbg : ZP E0 .gtr 3 (.int .i64 (i : Int)) (.int .i64 0) = some (.bool false) := by
         show some (PV.bool (decide ((0:Int)<(i:Int))))=_
         simp [h0]
       repeat' first|refine Ji ?_|refine Jl ?_|refine Jx ?_|refine Jo ?_|fail
       exact LoopI.go (m-1) (by omega) ⟨i+1,_,by omega,Zi ⟨rfl,rfl,by rw [hj1 h0];rfl,rfl,trivial⟩,rfl⟩
     · have hbg : ZP E0 .gtr 3 (.int .i64 (i : Int)) (.int .i64 0) = some (.bool true) := by
         show some (PV.bool (decide ((0:Int)<(i:Int))))=_
         rw [decide_eq_true (by omega)]
       repeat' first|refine Ji ?_|refine Jl ?_|refine Jx ?_|refine Jo ?_|fail
       exact LoopI.go (m-1) (by omega) ⟨i+1,_,by omega,Zi ⟨rfl,rfl,by rw [hj2 h0];rfl,rfl,trivial⟩,rfl⟩
   · have e : i = l.length := by omega
     subst e
     rw [List.take_length]
     have hbi:ZP E0 .lss 3 (.int .i64 (l.length:Int)) (.int .i64 ((Za l).length:Int))=some (.bool false):=by
      show some (PV.bool (decide ((l.length:Int)<((Za l).length:Int))))=_
      rw [Zb]
      simp
     repeat' first|refine Ji ?_|refine Jl ?_|refine Jt ?_|refine Jo ?_|fail
     all_goals rfl
 · rw [if_neg he] at hc ⊢
   clear he hjl hpl hrn hs hts
   obtain ⟨k,nm,s,b,kz⟩:=t
   simp only [Tm.cells] at hc
   refine Jw tOk fe178.ok rfl ?_
   repeat' first|refine Jc (hc _) ?_|refine Jt ?_|refine Jo ?_|fail
   refine Wp.loop ?_
   repeat' first|refine Jt ?_|refine Jo ?_|fail
   refine LoopQ.exit ?_
   repeat' first|refine Jt ?_|refine Jo ?_|fail
   all_goals rfl
theorem Zss (ht:t.Ok) (hs:Small t):∀ H,CallOk E0 Tryz.prog 179 [.agg t.cells] H (.tup [slV true 1 (Y2 (ZS t).1),.bool (ZS t).2]) H:=by
 have hc:=Zsd ht (by have:=hs.1;omega)
 have hpl:=Wj t
 have hts:=hs.1
 simp only [ZS]
 have hok:∀ x,x∈t.parts.1→x.Ok∧Small x:=fun x hx=>⟨ht.part (Xt hx),hs.part (Xt hx)⟩
 unfold Zau at hc
 by_cases he:t.parts.2.cmp endT=0
 · rw [if_pos he] at hc ⊢
   generalize t.parts.1=l at hc hpl hok ⊢
   clear he
   obtain ⟨k,nm,s,b,kz⟩:=t
   simp only [Tm.cells] at hc
   refine Jw tOk fe179.ok (QW _ _ _ _ _ _) ?_
   repeat' first|refine Jc (hc _) ?_|refine Jt ?_|refine Jo ?_|fail
   refine Wp.while (fun m tm H => ∃ (i : Nat) (base : TM) (out : PV) (lv : List Nat) (nt : Nat), i + m = l.length ∧ ApV true 1 (Y2 ((l.take i).map fun x => (ZR x).1)) out lv nt ∧
     tm=ovr base [(4,slV true 4 (Za l)),(5,.bool ((l.take i).all fun x=>(ZR x).2)),(6,out),(7,.int .i64 (i:Int))]∧H=⟨[.cells 4 [[.int .i64 k,.str nm,.int .i64 s,slV b 4 (Za kz)]]],0,lv,nt⟩)
    (fun m tm H hI=>?_) l.length _ _ ⟨0,_,_,_,_,by omega,.nil _ _ rfl,Zi ⟨rfl,by simp;rfl,rfl,rfl,trivial⟩,rfl⟩
   obtain ⟨i,base,out,lv,nt,hi,hA,rfl,rfl⟩:=hI
   by_cases hlt:i<l.length
   · obtain ⟨x, hx⟩ : ∃ x, l[i]? = some x := ⟨l[i], by simp⟩
     obtain ⟨kt,lv',nt',hap,hA'⟩:=apS hA (ZR x).1 (by simp;omega)
     have hs:((l.take i).map fun x=>(ZR x).1)++ [(ZR x).1]=(l.take (i+1)).map fun x=>(ZR x).1:=by simp [List.take_add_one,hx]
     have hs2:((l.take (i+1)).all fun x=>(ZR x).2)=(((l.take i).all fun x=>(ZR x).2)&&(ZR x).2):=by simp [List.take_add_one,hx]
     rw [hs] at hA' hap
     have hok1:=hok x (List.mem_of_getElem? hx)
     have hcn:=Zsc hok1.1 hok1.2
     generalize hG:((l.take i).all fun x=>(ZR x).2)=A at hs2 ⊢
     generalize (ZR x).1=N at hcn hap
     generalize (ZR x).2=B at hcn hs2
     obtain ⟨k',nm',s',b',kz'⟩:=x
     have hj:=Zn hx
     simp only [Tm.cells] at hcn
     clear hG
     cases A<;>cases B
     all_goals
      repeat' first|refine Jk ?_|refine Jc (hcn _) ?_|refine Js ?_|refine JA ?_|refine Jl ?_|refine Jx ?_|refine Jt ?_|refine Jb ?_ ?_|refine Jo ?_|intro hb
      all_goals first
       | (exfalso;rw [Zb] at hb;simp at hb;omega)
       | skip
      exact LoopI.go (m-1) (by omega) ⟨i+1,_,_,lv',nt',by omega,hA',Zi ⟨rfl,by rw [hs2];rfl,rfl,Zj (Zg (n:=i+1) (by omega)),trivial⟩,rfl⟩
   · have e : i = l.length := by omega
     subst e
     rw [List.take_length] at hA ⊢
     repeat' first|refine Jl ?_|refine Jo ?_|(apply Wp.cond;rfl)|intro hb
     all_goals first
      | (exfalso;rw [Zb] at hb;simp at hb;done)
      | exact Zcp hA _ _ _
 · rw [if_neg he] at hc ⊢
   clear he hpl hok hs hts
   obtain ⟨k,nm,s,b,kz⟩:=t
   simp only [Tm.cells] at hc
   rw [show slV true 1 (Y2 [])= .nils from Zq 1]
   refine Jw tOk fe179.ok rfl ?_
   repeat' first|refine Jc (hc _) ?_|refine Jt ?_|refine Jo ?_|fail
   refine Wp.loop ?_
   repeat' first|refine Jt ?_|refine Jo ?_|fail
   refine LoopQ.exit ?_
   repeat' first|refine Jt ?_|refine Jo ?_|fail
   all_goals rfl
theorem Zrj (hl:t.nm.length≤100000):∀ H,CallOk E0 Tryz.prog 180 [.agg t.cells] H (.int .i64 (Ug t.nm)) H:=by
 obtain ⟨k,nm,s,b,kz⟩:=t
 simp only [Tm.nm] at hl ⊢
 rw [Zmn]
 refine Jw tOk fe180.ok rfl ?_
 simp only [Tm.cells]
 repeat' first|refine Jo ?_|fail
 refine Wp.while (fun m tm H => ∃ (i : Nat) (base : TM), 1 ≤ i ∧ i + m = 6 ∧ (i = 1 ∨ i ≤ nm.length) ∧
   tm=ovr base [(1,.ptr 0 4 0 0),(3,.int .i64 (((nm.take i).drop 1).foldl V5 0)),(4,.int .i64 (i:Int))]∧H=⟨[.cells 4 [[.int .i64 k,.str nm,.int .i64 s,slV b 4 (Za kz)]]],0,[],0⟩)
  (fun m tm H hI=>?_) 5 _ _ ⟨1,_,by omega,by omega,.inl rfl,Zi ⟨rfl,by cases nm<;>rfl,rfl,trivial⟩,rfl⟩
 obtain ⟨i,base,hi1,hi,hin,rfl,rfl⟩:=hI
 have hpb:=ZhY nm i (by omega)
 by_cases hlt:i<nm.length∧i<6
 · obtain ⟨c, hx⟩ : ∃ c, nm[i]? = some c := ⟨nm[i]'hlt.1, by simp⟩
   have hps:=Zk6 hx hi1
   have hix:=Zlf hx
   have hc:=c.toNat_lt
   generalize ((nm.take i).drop 1).foldl V5 0=n at hpb hps ⊢
   repeat' first|refine Jk ?_|refine JX ?_|refine Jt ?_|refine Jb ?_ ?_|refine Jo ?_|intro hb
   all_goals first
    | (exfalso;simp at hb;omega)
    | skip
   refine LoopI.go (m-1) (by omega) ⟨i+1,_,by omega,by omega,.inr (by omega),Zi ⟨rfl,?_,Zj (Zg (n:=i+1) (by omega)),trivial⟩,rfl⟩
   rw [hps]
   refine Zj ?_
   simp only [V5]
   rw [IntWalk.i64_in (10*n) (by omega),IntWalk.i64_in (c.toNat:Int) (by omega),IntWalk.i64_in (10*n+(c.toNat:Int)) (by omega),IntWalk.i64_in _ (by omega)]
 · have hend : ((nm.take 6).drop 1).foldl V5 0 = ((nm.take i).drop 1).foldl V5 0 := by
     by_cases h6:i=6
     · rw [h6]
     · have hle : nm.length ≤ i := by omega
       rw [List.take_of_length_le (by omega),List.take_of_length_le (by omega)]
   rw [hend]
   by_cases hn:i<nm.length
   ·
     repeat' first|refine Jk ?_|refine Jt ?_|refine Jb ?_ ?_|refine Jo ?_|intro hb
     all_goals first
      | rfl
      | (exfalso;simp at hb;omega)
      | (exfalso;have h9:= ‹decide ((i:Int)<Int.ofNat nm.length)=false›;simp at h9;omega)
   ·
     repeat' first|refine Jk ?_|refine Jt ?_|refine Jb ?_ ?_|refine Jo ?_|intro hb
     all_goals first
      | rfl
      | (exfalso;simp at hb;omega)
      | (exfalso;have h9:= ‹decide ((i:Int)<Int.ofNat nm.length)=true›;simp at h9;omega)
