/-
  Credentials: read by the program's text.
-/
import Derived.Test.YtpgfeijkfmgnjaaGreatDoorCx
set_option maxHeartbeats 0
set_option maxRecDepth 100000
namespace Go.Vm.Seat
variable {t u:Tm} {out:PV} {lv:List Nat} {nt:Nat} {l:List Bs}
open Go.Proofs
theorem c60 (ht:t.Ok) (hu:u.Ok) (h1:t.size≤1000000) (h2:u.size≤1000000):∀ H,CallOk E0 Tryz.prog 60 [.agg t.cells,.agg u.cells] H (.bool (decide (t.cmp u=0))) H:=by
 have hc:∀ H,CallOk E0 Tryz.prog 75 [.agg t.cells,.agg u.cells] H (.int .i64 (t.cmp u)) H:=fun H=>Zlw (d75 ht hu (by omega) (by omega) H)
 generalize t.cmp u=c at hc
 obtain ⟨k,nm,s,b,kz⟩:=t
 obtain ⟨k',nm',s',b',kz'⟩:=u
 refine Jw tOk fe60.ok rfl ?_
 repeat' first|refine Jc (hc _) ?_|refine Jt ?_|refine Jb ?_ ?_|refine Jo ?_|intro hb
 all_goals (refine ifq ?_;simp at hb;simp [hb])
theorem c13 (ht:t.Ok) (hu:u.Ok) (h1:t.size≤1000000) (h2:u.size≤1000000):∀ H,CallOk E0 Tryz.prog 13 [.agg t.cells,.agg u.cells] H (.bool (decide (t.cmp u=0))) H:=by
 have hc:∀ H,CallOk E0 Tryz.prog 36 [.agg t.cells,.agg u.cells] H (.int .i64 (t.cmp u)) H:=fun H=>Zlw (d36 ht hu (by omega) (by omega) H)
 generalize t.cmp u=c at hc
 obtain ⟨k,nm,s,b,kz⟩:=t
 obtain ⟨k',nm',s',b',kz'⟩:=u
 refine Jw tOk fe13.ok rfl ?_
 repeat' first|refine Jc (hc _) ?_|refine Jt ?_|refine Jb ?_ ?_|refine Jo ?_|intro hb
 all_goals (refine ifq ?_;simp at hb;simp [hb])
theorem ZfT (m:Nat) (H:Heap) (b:Bool) (es:Nat) (el:List (List PV)):frz2 m H (slV b es el)=some (slV b es el):=by
 unfold slV
 cases el with
 |nil=>cases b<;>rfl
 |cons c r=>rfl
theorem Zcp {b:Bool} {es:Nat} {L:List (List PV)} (h:ApV b es L out lv nt) (m:Nat) (H:Heap) (x:Bool):frz3 m H (.tup [out,.bool x])=some (.tup [slV b es L,.bool x]):=by
 have h1:=h.frz2 m H
 show (match YR m H [out,.bool x] with|some vs'=>some (PV.tup vs')|none=>none)=_
 simp only [YR,h1]
 rfl
theorem QW (m:Nat) (H:Heap) (b:Bool) (es:Nat) (L:List (List PV)) (x:Bool):frz3 m H (.tup [slV b es L,.bool x])=some (.tup [slV b es L,.bool x]):=by
 show (match YR m H [slV b es L,.bool x] with|some vs'=>some (PV.tup vs')|none=>none)=_
 simp only [YR,ZfT]
 rfl
theorem c98 (ht:t.Ok) (hsz:t.size≤90000):∀ H,CallOk E0 Tryz.prog 98 [.agg t.cells] H (.tup [slV true 4 (Za t.parts.1),.bool (decide (t.parts.2.cmp endT=0))]) H:=by
 have hsame:=c60 (ht.part (Zbn t)) ZfM (by have:=(Zbn t).1;omega) (by decide)
 have hat:=Znu [101,110,100] 5
 rw [show endT.cells= [.int .i64 2,.str [101,110,100],.int .i64 5,.nils] from ZE _ _] at hsame
 rw [ZE] at hat
 have hcells:∃ k nm s b kz,t= .mk k nm s b kz:=by obtain ⟨k,nm,s,b,kz⟩:=t;exact ⟨_,_,_,_,_,rfl⟩
 obtain ⟨P,hP⟩:∃ P,P=t.parts:=⟨_,rfl⟩
 rw [← hP] at hsame ⊢
 obtain ⟨l,e⟩:=P
 simp only at hsame ⊢
 generalize decide (e.cmp endT=0)=R at hsame ⊢
 refine Zm (own:=fun d=>Nat.beq d 5013) tOk fe98.ok (by obtain ⟨k,nm,s,b,kz⟩:=t;simp [ZJ,frzG,Tm.cells,VF]) (QW _ _ _ _ _ _) ?_
 refine Wp.seq ?_
 obtain ⟨k0,nm0,s0,b0,kz0,ht0⟩:=hcells
 rw [show t.cells= [.int .i64 k0,.str nm0,.int .i64 s0,slV b0 4 (Za kz0)] by rw [ht0];rfl]
 repeat' first|refine Jt ?_|refine Jo ?_|fail
 refine Wp.while (fun m tm H => ∃ (acc : List Tm) (u : Tm) (base : TM) (out : PV) (lv : List Nat) (nt : Nat), u.size ≤ m ∧ acc.length + u.size ≤ t.size ∧ u.within t ∧ (l, e) = (acc ++ u.parts.1, u.parts.2) ∧ ApV true 4 (Za acc) out lv nt ∧
   tm=ovr base [(1,.ptr 0 4 0 0),(4,out)]∧H=⟨[.cells 4 [u.cells]],0,lv,nt⟩)
  (fun m tm H hI=>?_) t.size _ _ ⟨[],t,_,_,_,_,Nat.le_refl _,by simp,Up t,by rw [hP];rfl,.nil _ _ rfl,Zi ⟨rfl,rfl,trivial⟩,by rw [ht0];rfl⟩
 obtain ⟨acc,u,base,out,lv,nt,hm,hal,hw,hpq,hA,rfl,rfl⟩:=hI
 have his:=c55 u [112,97,105,114] 2
 rw [ZcE] at his
 cases hp:Yp u with
 | none =>
   rw [hp] at his
   rw [WU hp] at hpq
   simp only [List.append_nil,Prod.mk.injEq] at hpq
   obtain ⟨rfl,rfl⟩:=hpq
   have his2:∀ H,CallOk E0 Tryz.prog 55 [.agg e.cells,.str [112,97,105,114],.int .i64 2] H (.bool false) H:=his
   clear his
   obtain ⟨k,nm,s,b,kz⟩:=e
   simp only [Tm.cells] at his2 hsame ⊢
   cases R
   all_goals
    repeat' first|refine Jc (his2 _) ?_|refine Jo ?_|refine Jd (hat _) ?_|refine Jd (hsame _) ?_|(apply dT (ty:=4);rfl;rfl;rfl;rfl)|(apply dF (ty:=4);rfl;rfl;rfl;rfl)|refine Jh ?_|(apply Wp.drawS tOk follows;kernel_rfl;rfl)|fail
    all_goals exact Zcp hA _ _ _
 | some q =>
   obtain ⟨x,y⟩:=q
   rw [hp] at his
   obtain ⟨w1,w2,w3⟩:=Y0 hp
   rw [VJ hp] at hpq
   obtain ⟨s,b,rfl⟩:=XJ hp
   have his2:∀ H,CallOk E0 Tryz.prog 55 [.agg (Tm.mk 3 [112,97,105,114] s b [x,y]).cells,.str [112,97,105,114],.int .i64 2] H (.bool true) H:=his
   clear his
   have hx:=Y3 x
   obtain ⟨out',lv',nt',hap,hA', -⟩:=hA.app YA (.sl .full 4 (Za [x])) (Zs _) (ZZ (by simp only [Zb,List.length_cons,List.length_nil];omega) (by decide)) (ZC _)
   rw [← Zo] at hA'
   rw [ZQ] at hap
   have hj0:(Za [x,y])[0]? = some x.cells:=rfl
   have hj1:(Za [x,y])[1]? = some y.cells:=rfl
   simp only [Tm.cells] at his2 ⊢
   generalize Za [x,y]=L at his2 hj0 hj1 ⊢
   obtain ⟨k1,nm1,s1,b1,kz1⟩:=x
   obtain ⟨k2,nm2,s2,b2,kz2⟩:=y
   simp only [Tm.cells] at hj0 hj1 hap
   repeat' first|refine Jc (his2 _) ?_|refine Jo ?_|refine JB ?_|(apply dAq;rfl;rfl;rfl;rfl;rfl;rfl;(first|assumption|solve_by_elim))|refine JI ?_|refine Jh ?_|(apply Wp.drawS tOk follows;kernel_rfl;rfl)|fail
   refine LoopI.go (Tm.mk k2 nm2 s2 b2 kz2).size (by omega) ⟨acc++ [Tm.mk k1 nm1 s1 b1 kz1],Tm.mk k2 nm2 s2 b2 kz2,_,out',lv',nt',Nat.le_refl _,by simp;omega,Yl w2 hw,by rw [hpq];simp,hA',Zi ⟨rfl,rfl,trivial⟩,rfl⟩
theorem Zmd:ApT E0 61 61 1 16:=⟨_,_,_,_,_,rfl,rfl,rfl,rfl,rfl,rfl,rfl,by decide,rfl⟩
theorem Zk2 (l:List Bs):noB (Y2 l)=true:=by
 simp only [Y2,noB,List.all_map,List.all_eq_true]
 intro x _
 rfl
theorem Zl5 (l:List Bs):(Y2 l).all (fun c=>c.all Z7)=true:=by
 simp only [Y2,List.all_map,List.all_eq_true]
 intro x _
 rfl
theorem Zd7 (a b:List Bs):Y2 (a++b)=Y2 a++Y2 b:=by simp [Y2]
theorem apS (h : ApV true 1 (Y2 l) out lv nt) (s : Bs) (hl : l.length ≤ 100000) :
  ∃ k lv' nt',(∀ bx ro,Yf E0 61 61 out (.sl .full 1 [[.str s]]) ⟨bx,ro,lv,nt⟩=some (.sl (.tok k) 1 (Y2 (l++ [s])),⟨bx,ro,lv',nt'⟩))∧ApV true 1 (Y2 (l++ [s])) (.sl (.tok k) 1 (Y2 (l++ [s]))) lv' nt':=by
 obtain ⟨out',lv',nt',hap,hA', -⟩:=h.app Zmd (.sl .full 1 (Y2 [s])) (Zl5 _) (ZZ (by simp only [XP,List.length_cons,List.length_nil];omega) (by decide)) (Zk2 _)
 rw [← Zd7] at hA'
 obtain ⟨k,rfl⟩:=Uo hA' (by simp [Y2])
 exact ⟨k,lv',nt',hap,hA'⟩
theorem ZrM (hA:ApV true 1 (Y2 l) out lv nt) (h1:l.length≤1000000) (h2:(YW [46] l).length≤1000000) (bx:List Box):CallOk E0 Tryz.prog 99 [out,.str [46]] ⟨bx,0,lv,nt⟩ (.str (YW [46] l)) ⟨bx,0,lv,nt⟩:=by
 refine (z99 [out,.str [46]] _ _ _ ?_).1
 have g1:(Nat.ble l.length 1000000&&Nat.ble (YW [46] l).length 1000000)=true:=by
  rw [Nat.ble_eq_true_of_le h1,Nat.ble_eq_true_of_le h2];rfl
 generalize hL:Y2 l=L at hA
 cases hA with
 | nil =>
   have:l= []:=by cases l with
    | nil=>rfl
    | cons a r=>simp [Y2] at hL
   subst this
   rfl
 |full _ _ _ h=>cases h
 | tok =>
   subst hL
   simp only [Zin,Zi1,g1]
theorem Zi6 (m:Nat) (H:Heap) (s:Bs) (x:Bool):frz3 m H (.tup [.str s,.bool x])=some (.tup [.str s,.bool x]):=rfl
theorem c56 (ht:t.Ok) (hs:Small t):∀ H,CallOk E0 Tryz.prog 56 [.agg t.cells] H (.tup [.str (ZO t).1,.bool (ZO t).2]) H:=by
 have hc:=c98 ht (by have:=hs.1;omega)
 have hjl:=WS hs
 have hpl:=Wj t
 have hts:=hs.1
 simp only [ZO] at hjl ⊢
 have hok:∀ x,x∈t.parts.1→x.Ok:=fun x hx=>ht.part (Xt hx)
 generalize t.parts.1=l at hc hjl hpl hok ⊢
 generalize decide (t.parts.2.cmp endT=0)=R at hc ⊢
 obtain ⟨k,nm,s,b,kz⟩:=t
 simp only [Tm.cells] at hc
 refine Jw tOk fe56.ok (Zi6 _ _ _ _) ?_
 repeat' first|refine Jc (hc _) ?_|refine Jl ?_|refine Jt ?_|refine Jo ?_|fail
 refine Wp.while (fun m tm H => ∃ (i : Nat) (base : TM) (out : PV) (lv : List Nat) (nt : Nat), i + m = l.length ∧ ApV true 1 (Y2 ((l.take i).map Tm.nm)) out lv nt ∧
   tm=ovr base [(5,.bool R),(6,out),(14,slV true 4 (Za l)),(15,.int .i64 (l.length:Int)),(16,.int .i64 (i:Int))]∧H=⟨[.cells 4 [[.int .i64 k,.str nm,.int .i64 s,slV b 4 (Za kz)]]],0,lv,nt⟩)
  (fun m tm H hI=>Wp.drop ?_) l.length _ _ ⟨0,_,_,_,_,by omega,.nil _ _ rfl,Zi ⟨rfl,rfl,rfl,Zj (by rw [Zb]),rfl,trivial⟩,rfl⟩
 obtain ⟨i,base,out,lv,nt,hi,hA,rfl,rfl⟩:=hI
 by_cases hlt:i<l.length
 · obtain ⟨x, hx⟩ : ∃ x, l[i]? = some x := ⟨l[i], by simp⟩
   obtain ⟨kt,lv',nt',hap,hA'⟩:=apS hA x.nm (by simp;omega)
   have hs:(l.take i).map Tm.nm++ [x.nm]=(l.take (i+1)).map Tm.nm:=by simp [List.take_add_one,hx]
   rw [hs] at hA' hap
   obtain ⟨k',nm',s',b',kz'⟩:=x
   have hj:=Zn hx
   simp only [Tm.nm] at hap
   repeat' first|refine Js ?_|refine JA ?_|refine Jx ?_|refine Jo ?_|(apply Wp.cond;rfl)|intro hb
   all_goals first
    | (exfalso;simp at hb;omega)
    | skip
   exact DropQ.go [(5, .bool R), (6, .sl (.tok kt) 1 (Y2 ((l.take (i + 1)).map Tm.nm))), (14, slV true 4 (Za l)), (15, .int .i64 (l.length : Int)), (16, .int .i64 ((i + 1 : Nat) : Int))] ⟨rfl, rfl, rfl, rfl, Zj (Zg (n := i + 1) (by omega)), trivial⟩
     (by simp [Zl,under]) rfl (by simp [Yw,ZI,under,Zl]) (LoopI.go (m-1) (by omega) ⟨i+1,_,_,lv',nt',by omega,hA',rfl,rfl⟩)
 · have e : i = l.length := by omega
   subst e
   rw [List.take_length] at hA
   have hz:=ZrM hA (by simp;omega) (by omega)
   repeat' first|refine Jc (hz _) ?_|refine Jo ?_|(apply Wp.cond;rfl)|intro hb
   all_goals first
    | (exfalso;simp at hb;done)
    | rfl
theorem c57 (ht:t.Ok) (hs:Small t):∀ H,CallOk E0 Tryz.prog 57 [.agg t.cells] H (.tup [slV true 1 (Y2 (ZN t).1),.bool (ZN t).2]) H:=by
 have hc:=c98 ht (by have:=hs.1;omega)
 have hpl:=Wj t
 have hts:=hs.1
 simp only [ZN]
 have hok:∀ x,x∈t.parts.1→x.Ok∧Small x:=fun x hx=>⟨ht.part (Xt hx),hs.part (Xt hx)⟩
 generalize t.parts.1=l at hc hpl hok ⊢
 generalize decide (t.parts.2.cmp endT=0)=R at hc ⊢
 obtain ⟨k,nm,s,b,kz⟩:=t
 simp only [Tm.cells] at hc
 refine Jw tOk fe57.ok (QW _ _ _ _ _ _) ?_
 repeat' first|refine Jc (hc _) ?_|refine Jl ?_|refine Jt ?_|refine Jo ?_|fail
 refine Wp.while (fun m tm H => ∃ (i : Nat) (base : TM) (out : PV) (lv : List Nat) (nt : Nat), i + m = l.length ∧ ApV true 1 (Y2 ((l.take i).map fun x => (ZO x).1)) out lv nt ∧
   tm=ovr base [(5,.bool (R&&(l.take i).all fun x=>(ZO x).2)),(6,out),(16,slV true 4 (Za l)),(17,.int .i64 (l.length:Int)),(18,.int .i64 (i:Int))]∧H=⟨[.cells 4 [[.int .i64 k,.str nm,.int .i64 s,slV b 4 (Za kz)]]],0,lv,nt⟩)
  (fun m tm H hI=>Wp.drop ?_) l.length _ _ ⟨0,_,_,_,_,by omega,.nil _ _ rfl,Zi ⟨by simp;rfl,rfl,rfl,Zj (by rw [Zb]),rfl,trivial⟩,rfl⟩
 obtain ⟨i,base,out,lv,nt,hi,hA,rfl,rfl⟩:=hI
 by_cases hlt:i<l.length
 · obtain ⟨x, hx⟩ : ∃ x, l[i]? = some x := ⟨l[i], by simp⟩
   obtain ⟨kt,lv',nt',hap,hA'⟩:=apS hA (ZO x).1 (by simp;omega)
   have hs:((l.take i).map fun x=>(ZO x).1)++ [(ZO x).1]=(l.take (i+1)).map fun x=>(ZO x).1:=by simp [List.take_add_one,hx]
   have hs2:(R&&(l.take (i+1)).all fun x=>(ZO x).2)=((R&&(l.take i).all fun x=>(ZO x).2)&&(ZO x).2):=by simp [List.take_add_one,hx,Bool.and_assoc]
   rw [hs] at hA' hap
   have hok1:=hok x (List.mem_of_getElem? hx)
   have hcn:=c56 hok1.1 hok1.2
   generalize hG:(R&&(l.take i).all fun x=>(ZO x).2)=A at hs2 ⊢
   generalize (ZO x).1=N at hcn hap
   generalize (ZO x).2=B at hcn hs2
   obtain ⟨k',nm',s',b',kz'⟩:=x
   have hj:=Zn hx
   simp only [Tm.cells] at hcn
   clear hG
   cases A<;>cases B
   all_goals
    repeat' first|refine Jk ?_|refine Jc (hcn _) ?_|refine Js ?_|refine JA ?_|refine Jx ?_|refine Jt ?_|refine Jz ?_ ?_|refine Jo ?_|intro hb
    all_goals first
     | (exfalso;simp at hb;omega)
     | skip
    exact DropQ.go [(5, .bool (R && (l.take (i + 1)).all fun x => (ZO x).2)), (6, .sl (.tok kt) 1 (Y2 ((l.take (i + 1)).map fun x => (ZO x).1))), (16, slV true 4 (Za l)), (17, .int .i64 (l.length : Int)), (18, .int .i64 ((i + 1 : Nat) : Int))] ⟨by rw [hs2]; rfl, rfl, rfl, rfl, Zj (Zg (n := i + 1) (by omega)), trivial⟩
      (by simp [Zl,under]) rfl (by simp [Yw,ZI,under,Zl]) (LoopI.go (m-1) (by omega) ⟨i+1,_,_,lv',nt',by omega,hA',rfl,rfl⟩)
 · have e : i = l.length := by omega
   subst e
   rw [List.take_length] at hA ⊢
   repeat' first|refine Jo ?_|(apply Wp.cond;rfl)|intro hb
   all_goals first
    | (exfalso;simp at hb;done)
    | exact Zcp hA _ _ _
theorem X4:Cred.zero.cells= [.str [],.int .i64 0,.str [],.int .i64 0,.nils,.bool false,.nils,.nils,.int .i64 0,.int .i64 0,.int .i64 0]:=by
 show .str []::(Tm.zero.cells++ [.bool false,slV true 1 (Y2 []),slV true 1 (Y2 []),.int .i64 0,.int .i64 0,.int .i64 0])=_
 rw [Zk,show slV true 1 (Y2 [])= .nils from Zq 1]
 rfl
theorem Zc3 (m:Nat) (H:Heap) (x:Cred):frz2 m H (.agg x.cells)=some (.agg x.cells):=by
 obtain ⟨sub,⟨k,nm,s,b,kz⟩,iss,pn,per,en,exc,ser,fr,till⟩:=x
 have h0:=Ws m H (Cred.mk sub (.mk k nm s b kz) iss pn per en exc ser fr till).cells
 have h1:frz3 m H (.agg (Cred.mk sub (.mk k nm s b kz) iss pn per en exc ser fr till).cells)=frz2 m H (.agg (Cred.mk sub (.mk k nm s b kz) iss pn per en exc ser fr till).cells):=rfl
 rw [← h1,h0]
 simp only [Cred.cells,Tm.cells,List.cons_append,List.nil_append,Qf,U0]
 rfl
theorem WV (m:Nat) (H:Heap) (x:Cred) (e:Int):frz3 m H (.tup [.agg x.cells,.int .i64 e])=some (.tup [.agg x.cells,.int .i64 e]):=by
 show (match YR m H [.agg x.cells,.int .i64 e] with|some vs'=>some (PV.tup vs')|none=>none)=_
 simp only [YR,Zc3]
 rfl
theorem ZeX {tl:Tail} {l:List Tm} {i:Nat} {a:Tm} (h:l[i]? = some a):Zp E0 24 (.sl tl 4 (Za l)) (.int .i64 (i:Int))=some (.fptr a.cells 0):=by
 have en:nat? (.int .i64 (i:Int))=some i:=rfl
 have e:E0.T 24=some ⟨.slice 26,1,24,.nils⟩:=by kernel_rfl
 have et:E0.T 26=some ⟨.struct [(0,3),(1,9),(2,3),(3,24)],4,56,.agg [.int .i64 0,.str [],.int .i64 0,.nils]⟩:=by kernel_rfl
 obtain ⟨k,nm,s,b,kz⟩:=a
 have hn:nth (Za l) i=some (Tm.mk k nm s b kz).cells:=by rw [ZA];exact Zn h
 simp only [Zp,e,en,et,if_true,hn]
theorem Zkp (ht:t.Ok) (hsz:t.size≤40000) (h:t.valid≠0∨t.isB [115,105,103,110] 2=false):∀ H,CallOk E0 Tryz.prog 24 [.agg t.cells] H (.tup [.agg (Zf t).1.cells,.int .i64 (Zf t).2]) H:=by
 have c1:=c41 ht (by omega)
 have c2:=c55 t [115,105,103,110] 2
 unfold Zf
 rw [ZeZ _ _ _ h]
 have hfr:=WV 0 hNil Cred.zero 2
 generalize t.valid=e at c1 h
 generalize t.isB [115,105,103,110] 2=B at c2 h
 obtain ⟨k,nm,s,b,kz⟩:=t
 simp only [Tm.cells] at c1 c2
 refine Jw tOk fe24.ok hfr ?_
 by_cases h1:e=0
 · subst h1
   have hB:B=false:=by simpa using h
   subst hB
   repeat' first|refine Jc (c1 _) ?_|refine Jc (c2 _) ?_|refine Jt ?_|refine Jo ?_|fail
   all_goals (rw [X4];rfl)
 · clear h
   repeat' first|refine Jk ?_|refine Jc (c1 _) ?_|refine Jc (c2 _) ?_|refine Jt ?_|refine Jb ?_ ?_|refine Jo ?_|intro hb
   all_goals first
    | (rw [X4];rfl)
    | (exfalso;have h9:= ‹(e != 0)=false›;simp at h9;exact h1 h9)
