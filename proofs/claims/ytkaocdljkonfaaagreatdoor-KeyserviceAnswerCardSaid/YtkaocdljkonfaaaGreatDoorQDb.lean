/-
  Credentials: names that the program reads out of a term. Credentials: read by the program's text. Credentials: read by the program's text, where the t
-/
import Derived.Test.YtkaocdljkonfaaaGreatDoorQCy
set_option maxHeartbeats 64000000
set_option maxRecDepth 100000
namespace Go.Vm.Seat
variable {l:List Bs} {out:PV} {lv:List Nat} {nt:Nat} {t:Tm}
open Go.Proofs
theorem ZkM:ApT E0 87 87 1 16:=⟨_,_,_,_,_,rfl,rfl,rfl,rfl,rfl,rfl,rfl,by decide,rfl⟩
theorem Zju (l:List Bs):noB (Y1 l)=true:=by
 simp only [Y1,noB,List.all_map,List.all_eq_true]
 intro x _
 rfl
theorem Zlh (l:List Bs):(Y1 l).all (fun c=>c.all Z4)=true:=by
 simp only [Y1,List.all_map,List.all_eq_true]
 intro x _
 rfl
theorem ZdG (a b:List Bs):Y1 (a++b)=Y1 a++Y1 b:=by simp [Y1]
theorem apS (h : ApV true 1 (Y1 l) out lv nt) (s : Bs) (hl : l.length ≤ 100000) :
  ∃ k lv' nt',(∀ bx ro,Yb E0 87 87 out (.sl .full 1 [[.str s]]) ⟨bx,ro,lv,nt⟩=some (.sl (.tok k) 1 (Y1 (l++ [s])),⟨bx,ro,lv',nt'⟩))∧ApV true 1 (Y1 (l++ [s])) (.sl (.tok k) 1 (Y1 (l++ [s]))) lv' nt':=by
 obtain ⟨out',lv',nt',hap,hA', -⟩:=h.app ZkM (.sl .full 1 (Y1 [s])) (Zlh _) (ZU (by simp only [XD,List.length_cons,List.length_nil];omega) (by decide)) (Zju _)
 rw [← ZdG] at hA'
 obtain ⟨k,rfl⟩:=V2 hA' (by simp [Y1])
 exact ⟨k,lv',nt',hap,hA'⟩
theorem Zo5 (hA:ApV true 1 (Y1 l) out lv nt) (h1:l.length≤1000000) (h2:(YR [46] l).length≤1000000) (bx:List Box):CallOk E0 Tryz.prog 154 [out,.str [46]] ⟨bx,0,lv,nt⟩ (.str (YR [46] l)) ⟨bx,0,lv,nt⟩:=by
 refine (ZqP [out,.str [46]] _ _ _ ?_).1
 have g1:(Nat.ble l.length 1000000&&Nat.ble (YR [46] l).length 1000000)=true:=by
  rw [Nat.ble_eq_true_of_le h1,Nat.ble_eq_true_of_le h2];rfl
 generalize hL:Y1 l=L at hA
 cases hA with
 | nil =>
   have:l= []:=by cases l with
    | nil=>rfl
    | cons a r=>simp [Y1] at hL
   subst this
   rfl
 |full _ _ _ h=>cases h
 | tok =>
   subst hL
   simp only [Zha,Zil,g1]
theorem Zhr (m:Nat) (H:Heap) (s:Bs) (x:Bool):frz3 m H (.tup [.str s,.bool x])=some (.tup [.str s,.bool x]):=rfl
theorem ZqW (ht:t.Ok) (hs:Small t):∀ H,CallOk E0 Tryz.prog 106 [.agg t.cells] H (.tup [.str (ZL t).1,.bool (ZL t).2]) H:=by
 have hc:=ZqM ht (by have:=hs.1;omega)
 have hjl:=WM hs
 have hpl:=X6 t
 have hts:=hs.1
 simp only [ZL] at hjl ⊢
 have hok:∀ x,x∈t.parts.1→x.Ok:=fun x hx=>ht.part (Xl hx)
 generalize t.parts.1=l at hc hjl hpl hok ⊢
 generalize decide (t.parts.2.cmp endT=0)=R at hc ⊢
 obtain ⟨k,nm,s,b,kids⟩:=t
 simp only [Tm.cells] at hc
 refine Jw tOk fe106.ok (Zhr _ _ _ _) ?_
 repeat' first|refine Jc (hc _) ?_|refine Jl ?_|refine Jt ?_|refine Jo ?_|fail
 refine Wp.while (fun m tm H => ∃ (i : Nat) (base : TM) (out : PV) (lv : List Nat) (nt : Nat), i + m = l.length ∧ ApV true 1 (Y1 ((l.take i).map Tm.nm)) out lv nt ∧
   tm=ovr base [(5,.bool R),(6,out),(14,slV true 4 (Za l)),(15,.int .i64 (l.length:Int)),(16,.int .i64 (i:Int))]∧H=⟨[.cells 4 [[.int .i64 k,.str nm,.int .i64 s,slV b 4 (Za kids)]]],0,lv,nt⟩)
  (fun m tm H hI=>Wp.drop ?_) l.length _ _ ⟨0,_,_,_,_,by omega,.nil _ _ rfl,Zh ⟨rfl,rfl,rfl,Zi (by rw [Zb]),rfl,trivial⟩,rfl⟩
 obtain ⟨i,base,out,lv,nt,hi,hA,rfl,rfl⟩:=hI
 by_cases hlt:i<l.length
 · obtain ⟨x, hx⟩ : ∃ x, l[i]? = some x := ⟨l[i], by simp⟩
   obtain ⟨kt,lv',nt',hap,hA'⟩:=apS hA x.nm (by simp;omega)
   have hs:(l.take i).map Tm.nm++ [x.nm]=(l.take (i+1)).map Tm.nm:=by simp [List.take_add_one,hx]
   rw [hs] at hA' hap
   obtain ⟨k',nm',s',b',kids'⟩:=x
   have hj:=Zl hx
   simp only [Tm.nm] at hap
   repeat' first|refine Js ?_|refine JA ?_|refine Jx ?_|refine Jo ?_|(apply Wp.cond;rfl)|intro hb
   all_goals first
    | (exfalso;simp at hb;omega)
    | skip
   exact DropQ.go [(5, .bool R), (6, .sl (.tok kt) 1 (Y1 ((l.take (i + 1)).map Tm.nm))), (14, slV true 4 (Za l)), (15, .int .i64 (l.length : Int)), (16, .int .i64 ((i + 1 : Nat) : Int))] ⟨rfl, rfl, rfl, rfl, Zi (Zf (n := i + 1) (by omega)), trivial⟩
     (by simp [Zp,under]) rfl (by simp [YF,ZP,under,Zp]) (LoopI.go (m-1) (by omega) ⟨i+1,_,_,lv',nt',by omega,hA',rfl,rfl⟩)
 · have e : i = l.length := by omega
   subst e
   rw [List.take_length] at hA
   have hz:=Zo5 hA (by simp;omega) (by omega)
   repeat' first|refine Jc (hz _) ?_|refine Jo ?_|(apply Wp.cond;rfl)|intro hb
   all_goals first
    | (exfalso;simp at hb;done)
    | rfl
theorem Zq1 (ht:t.Ok) (hs:Small t):∀ H,CallOk E0 Tryz.prog 107 [.agg t.cells] H (.tup [slV true 1 (Y1 (ZJ t).1),.bool (ZJ t).2]) H:=by
 have hc:=ZqM ht (by have:=hs.1;omega)
 have hpl:=X6 t
 have hts:=hs.1
 simp only [ZJ]
 have hok:∀ x,x∈t.parts.1→x.Ok∧Small x:=fun x hx=>⟨ht.part (Xl hx),hs.part (Xl hx)⟩
 generalize t.parts.1=l at hc hpl hok ⊢
 generalize decide (t.parts.2.cmp endT=0)=R at hc ⊢
 obtain ⟨k,nm,s,b,kids⟩:=t
 simp only [Tm.cells] at hc
 refine Jw tOk fe107.ok (Qv _ _ _ _ _ _) ?_
 repeat' first|refine Jc (hc _) ?_|refine Jl ?_|refine Jt ?_|refine Jo ?_|fail
 refine Wp.while (fun m tm H => ∃ (i : Nat) (base : TM) (out : PV) (lv : List Nat) (nt : Nat), i + m = l.length ∧ ApV true 1 (Y1 ((l.take i).map fun x => (ZL x).1)) out lv nt ∧
   tm=ovr base [(5,.bool (R&&(l.take i).all fun x=>(ZL x).2)),(6,out),(16,slV true 4 (Za l)),(17,.int .i64 (l.length:Int)),(18,.int .i64 (i:Int))]∧H=⟨[.cells 4 [[.int .i64 k,.str nm,.int .i64 s,slV b 4 (Za kids)]]],0,lv,nt⟩)
  (fun m tm H hI=>Wp.drop ?_) l.length _ _ ⟨0,_,_,_,_,by omega,.nil _ _ rfl,Zh ⟨by simp;rfl,rfl,rfl,Zi (by rw [Zb]),rfl,trivial⟩,rfl⟩
 obtain ⟨i,base,out,lv,nt,hi,hA,rfl,rfl⟩:=hI
 by_cases hlt:i<l.length
 · obtain ⟨x, hx⟩ : ∃ x, l[i]? = some x := ⟨l[i], by simp⟩
   obtain ⟨kt,lv',nt',hap,hA'⟩:=apS hA (ZL x).1 (by simp;omega)
   have hs:((l.take i).map fun x=>(ZL x).1)++ [(ZL x).1]=(l.take (i+1)).map fun x=>(ZL x).1:=by simp [List.take_add_one,hx]
   have hs2:(R&&(l.take (i+1)).all fun x=>(ZL x).2)=((R&&(l.take i).all fun x=>(ZL x).2)&&(ZL x).2):=by simp [List.take_add_one,hx,Bool.and_assoc]
   rw [hs] at hA' hap
   have hok1:=hok x (List.mem_of_getElem? hx)
   have hcn:=ZqW hok1.1 hok1.2
   generalize hG:(R&&(l.take i).all fun x=>(ZL x).2)=A at hs2 ⊢
   generalize (ZL x).1=N at hcn hap
   generalize (ZL x).2=B at hcn hs2
   obtain ⟨k',nm',s',b',kids'⟩:=x
   have hj:=Zl hx
   simp only [Tm.cells] at hcn
   clear hG
   cases A<;>cases B
   all_goals
    repeat' first|refine Jk ?_|refine Jc (hcn _) ?_|refine Js ?_|refine JA ?_|refine Jx ?_|refine Jt ?_|refine Jz ?_ ?_|refine Jo ?_|intro hb
    all_goals first
     | (exfalso;simp at hb;omega)
     | skip
    exact DropQ.go [(5, .bool (R && (l.take (i + 1)).all fun x => (ZL x).2)), (6, .sl (.tok kt) 1 (Y1 ((l.take (i + 1)).map fun x => (ZL x).1))), (16, slV true 4 (Za l)), (17, .int .i64 (l.length : Int)), (18, .int .i64 ((i + 1 : Nat) : Int))] ⟨by rw [hs2]; rfl, rfl, rfl, rfl, Zi (Zf (n := i + 1) (by omega)), trivial⟩
      (by simp [Zp,under]) rfl (by simp [YF,ZP,under,Zp]) (LoopI.go (m-1) (by omega) ⟨i+1,_,_,lv',nt',by omega,hA',rfl,rfl⟩)
 · have e : i = l.length := by omega
   subst e
   rw [List.take_length] at hA ⊢
   repeat' first|refine Jo ?_|(apply Wp.cond;rfl)|intro hb
   all_goals first
    | (exfalso;simp at hb;done)
    | exact Zbw hA _ _ _
open Go.Proofs
theorem XS:Cred.zero.cells= [.str [],.int .i64 0,.str [],.int .i64 0,.nils,.bool false,.nils,.nils,.int .i64 0,.int .i64 0,.int .i64 0]:=by
 show .str []::(Tm.zero.cells++ [.bool false,slV true 1 (Y1 []),slV true 1 (Y1 []),.int .i64 0,.int .i64 0,.int .i64 0])=_
 rw [Zq,show slV true 1 (Y1 [])= .nils from Zn 1]
 rfl
theorem Zc3 (m:Nat) (H:Heap) (x:Cred):frz2 m H (.agg x.cells)=some (.agg x.cells):=by
 obtain ⟨sub,⟨k,nm,s,b,kids⟩,iss,pn,per,en,exc,ser,fr,till⟩:=x
 have h0:=Wf m H (Cred.mk sub (.mk k nm s b kids) iss pn per en exc ser fr till).cells
 have h1:frz3 m H (.agg (Cred.mk sub (.mk k nm s b kids) iss pn per en exc ser fr till).cells)=frz2 m H (.agg (Cred.mk sub (.mk k nm s b kids) iss pn per en exc ser fr till).cells):=rfl
 rw [← h1,h0]
 simp only [Cred.cells,Tm.cells,List.cons_append,List.nil_append,Ul,UH]
 rfl
theorem WI (m:Nat) (H:Heap) (x:Cred) (e:Int):frz3 m H (.tup [.agg x.cells,.int .i64 e])=some (.tup [.agg x.cells,.int .i64 e]):=by
 show (match YL m H [.agg x.cells,.int .i64 e] with|some vs'=>some (PV.tup vs')|none=>none)=_
 simp only [YL,Zc3]
 rfl
theorem Zd7 {tl:Tail} {l:List Tm} {i:Nat} {a:Tm} (h:l[i]? = some a):Zo E0 22 (.sl tl 4 (Za l)) (.int .i64 (i:Int))=some (.fptr a.cells 0):=by
 have en:nat? (.int .i64 (i:Int))=some i:=rfl
 have e:E0.T 22=some ⟨.slice 24,1,24,.nils⟩:=by kernel_rfl
 have et:E0.T 24=some ⟨.struct [(0,3),(1,9),(2,3),(3,22)],4,56,.agg [.int .i64 0,.str [],.int .i64 0,.nils]⟩:=by kernel_rfl
 obtain ⟨k,nm,s,b,kids⟩:=a
 have hn:nth (Za l) i=some (Tm.mk k nm s b kids).cells:=by rw [Zy];exact Zl h
 simp only [Zo,e,en,et,if_true,hn]
theorem Zi3 (ht:t.Ok) (hsz:t.size≤40000) (h:t.valid≠0∨t.isB [115,105,103,110] 2=false):∀ H,CallOk E0 Tryz.prog 57 [.agg t.cells] H (.tup [.agg (Zj t).1.cells,.int .i64 (Zj t).2]) H:=by
 have c1:=c74 ht (by omega)
 have c2:=Zmo t [115,105,103,110] 2
 unfold Zj
 rw [Zd6 _ _ _ h]
 have hfr:=WI 0 hNil Cred.zero 2
 generalize t.valid=e at c1 h
 generalize t.isB [115,105,103,110] 2=B at c2 h
 obtain ⟨k,nm,s,b,kids⟩:=t
 simp only [Tm.cells] at c1 c2
 refine Jw tOk fe57.ok hfr ?_
 by_cases h1:e=0
 · subst h1
   have hB:B=false:=by simpa using h
   subst hB
   repeat' first|refine Jc (c1 _) ?_|refine Jc (c2 _) ?_|refine Jt ?_|refine Jo ?_|fail
   all_goals (rw [XS];rfl)
 · clear h
   repeat' first|refine Jk ?_|refine Jc (c1 _) ?_|refine Jc (c2 _) ?_|refine Jt ?_|refine Jb ?_ ?_|refine Jo ?_|intro hb
   all_goals first
    | (rw [XS];rfl)
    | (exfalso;have h9:= ‹(e != 0)=false›;simp at h9;exact h1 h9)
open Go.Proofs
theorem ZqC {l:List Tm} (h:ApV true 4 (Za l) out lv nt):∀ H,Zej E0 22 out H=some (.int .i64 (l.length:Int)):=by
 have e:E0.T 22=some ⟨.slice 24,1,24,.nils⟩:=by kernel_rfl
 intro H
 rw [← Zb]
 generalize Za l=L at h
 cases h with
 |nil=>simp only [Zej,e];rfl
 |full=>simp only [Zej,e];rfl
 |tok=>simp only [Zej,e];rfl
theorem Zku (a b:List Bs):XY E0 89 [(0,slV true 1 (Y1 a)),(1,slV true 1 (Y1 b))]=some (.agg [slV true 1 (Y1 a),slV true 1 (Y1 b)]):=by
 cases a<;>cases b<;>simp only [Y1,List.map_nil,List.map_cons,Zn,Zw]<;>rfl
theorem Zhp {s : Int} {b : Bool} {u key : Tm} (ht : (Tm.mk 3 [115, 105, 103, 110] s b [u, key]).Ok) (hv : (Tm.mk 3 [115, 105, 103, 110] s b [u, key]).valid = 0) :
  ∀ H,CallOk E0 Tryz.prog 57 [.agg (Tm.mk 3 [115,105,103,110] s b [u,key]).cells] H (.tup [.agg (Zj (.mk 3 [115,105,103,110] s b [u,key])).1.cells,.int .i64 (Zj (.mk 3 [115,105,103,110] s b [u,key])).2]) H:=by
 have hsm:=Zak hv
 have hu:u.within (.mk 3 [115,105,103,110] s b [u,key]):=Xv (by simp)
 have hkey:key.within (.mk 3 [115,105,103,110] s b [u,key]):=Xv (by simp)
 have c1:=c74 ht (by have:=hsm.1;omega)
 rw [hv] at c1
 have c2:∀ H,CallOk E0 Tryz.prog 105 [.agg (Tm.mk 3 [115,105,103,110] s b [u,key]).cells,.str [115,105,103,110],.int .i64 2] H (.bool true) H:=Zmo (.mk 3 [115,105,103,110] s b [u,key]) [115,105,103,110] 2
 unfold Zj
 rw [Zd4 _ _ _ hv]
 have hfr:=WI 0 hNil (Qu ZL ZJ Vh (.mk 3 [115,105,103,110] s b [u,key]) key (Ye 8 u)).1 (Qu ZL ZJ Vh (.mk 3 [115,105,103,110] s b [u,key]) key (Ye 8 u)).2
 obtain ⟨F,hF⟩:∃ F,F=Ye 8 u:=⟨_,rfl⟩
 rw [← hF] at hfr ⊢
 obtain ⟨T,hT⟩:∃ T,T=Tm.mk 3 [115,105,103,110] s b [u,key]:=⟨_,rfl⟩
 have hTc:T.cells= [.int .i64 3,.str [115,105,103,110],.int .i64 s,slV b 4 (Za [u,key])]:=by rw [hT];rfl
 rw [← hT] at ht hsm hu hkey c1 c2 hfr ⊢
 clear hT hv
 rw [hTc] at c1 c2 ⊢
 have hj0:(Za [u,key])[0]? = some u.cells:=rfl
 have hj1:(Za [u,key])[1]? = some key.cells:=rfl
 generalize Za [u,key]=L at c1 c2 hj0 hj1 hTc ⊢
 have hu0:∃ k nm s b kids,u= .mk k nm s b kids:=by obtain ⟨k,nm,s,b,kids⟩:=u;exact ⟨_,_,_,_,_,rfl⟩
 obtain ⟨ku,nmu,su,bu,kidsu,hu1⟩:=hu0
 have hj0':L[0]? = some [.int .i64 ku,.str nmu,.int .i64 su,slV bu 4 (Za kidsu)]:=by rw [hj0,hu1];rfl
 clear hj0
 refine Zt (own:=fun d=>Nat.beq d 30024||(Nat.beq d 30010||Nat.beq d 5043)) tOk fe57.ok (by simp only [ZZ,frzG,Vc,Z5];rfl) hfr ?_
 refine Wp.seq ?_
 repeat' first|refine Jc (c1 _) ?_|refine Jc (c2 _) ?_|refine Jx ?_|refine Jt ?_|refine Jo ?_|fail
 clear c1 c2 hfr
 refine Wp.while (fun m tm H => ∃ (acc : List Tm) (rest : Tm) (base : TM) (out : PV) (lv : List Nat) (nt : Nat), acc.length + m = 8 ∧ rest.within T ∧ (∀ x, x ∈ acc → x.within T) ∧
   (F=match Ye m rest with|some (l,r)=>some (acc++l,r)|none=>none)∧ApV true 4 (Za acc) out lv nt∧
   tm=ovr base [(1,.ptr 0 4 0 0),(2,.ptr 1 11 0 0),(4,.ptr 2 11 0 0),(5,out),(6,.ptr 3 4 0 0)]∧
   H=⟨[.cells 4 [[.int .i64 3,.str [115,105,103,110],.int .i64 s,slV b 4 L]],.cells 11 [[.str [],.int .i64 0,.str [],.int .i64 0,.nils,.bool false,.nils,.nils,.int .i64 0,.int .i64 0,.int .i64 0]],.cells 11 [[.str [],.int .i64 0,.str [],.int .i64 0,.nils,.bool false,.nils,.nils,.int .i64 0,.int .i64 0,.int .i64 0]],.cells 4 [rest.cells]],0,lv,nt⟩)
  (fun m tm H hI=>?_) 8 _ _ ⟨[],u,_,_,_,_,rfl,hu,fun x hx=>absurd hx (by simp),by rw [hF];cases Ye 8 u<;>simp,.nil _ _ rfl,Zh ⟨rfl,rfl,rfl,rfl,rfl,trivial⟩,by rw [hu1];rfl⟩
 obtain ⟨acc,rest,base,out,lv,nt,hm,hw,hacc,hf,hA,rfl,rfl⟩:=hI
 have hle:=ZqC hA
 clear hu1 hj0'
 cases m with
 | succ m =>
   have his:=Zmo rest [112,97,105,114] 2
   rw [ZbS] at his
   rw [V7] at hf
   cases hp:Ym rest with
   | none =>
     rw [hp] at his hf
     have his2:∀ H,CallOk E0 Tryz.prog 105 [.agg rest.cells,.str [112,97,105,114],.int .i64 2] H (.bool false) H:=his
     clear his
     rw [hf]
     obtain ⟨k1,nm1,s1,b1,kids1⟩:=rest
     simp only [Tm.cells] at his2 ⊢
     repeat' first|refine Jc (his2 _) ?_|(apply qLe;rfl;rfl;rfl;assumption;exact IsV.any _)|refine Jt ?_|refine Jb ?_ ?_|refine Jo ?_|intro hb
     all_goals first
      | (show frz3 _ _ _=some (.tup [.agg Cred.zero.cells,.int .i64 2]);rw [XS];rfl)
      | (exfalso;have h9:= ‹decide ((acc.length:Int)<8)=false›;simp at h9;omega)
   | some q =>
     obtain ⟨x,y⟩:=q
     rw [hp] at his hf
     obtain ⟨w1,w2,w3⟩:=YT hp
     obtain ⟨s2,b2,rfl⟩:=Xz hp
     have his2:∀ H,CallOk E0 Tryz.prog 105 [.agg (Tm.mk 3 [112,97,105,114] s2 b2 [x,y]).cells,.str [112,97,105,114],.int .i64 2] H (.bool true) H:=his
     clear his
     obtain ⟨out',lv',nt',hap,hA', -⟩:=hA.app Yw (.sl .full 4 (Za [x])) (Zm _) (ZU (by simp only [Zb,List.length_cons,List.length_nil];omega) (by decide)) (Zv _)
     rw [← Zk] at hA'
     rw [ZC] at hap
     have hi0:(Za [x,y])[0]? = some x.cells:=rfl
     have hi1:(Za [x,y])[1]? = some y.cells:=rfl
     have hf2:F=match Ye m y with|some (l,r)=>some ((acc++ [x])++l,r)|none=>none:=by
      rw [hf]
      simp only []
      cases Ye m y with
      | none=>rfl
      | some p=>simp
     have wy:=Yi w2 hw
     have wx:∀ z,z∈acc++ [x]→z.within T:=fun z hz=>by
      rcases List.mem_append.1 hz with hz|hz
      · exact hacc z hz
      · rw [List.mem_singleton.1 hz];exact Yi w1 hw
     simp only [Tm.cells] at his2 ⊢
     generalize Za [x,y]=L2 at his2 hi0 hi1 ⊢
     clear hf hp w1 w2 w3 hw
     obtain ⟨k1,nm1,s1,b1,kids1⟩:=x
     obtain ⟨k3,nm3,s3,b3,kids3⟩:=y
     simp only [Tm.cells] at hi0 hi1 hap
     repeat' first|refine Jc (his2 _) ?_|(apply qLe;rfl;rfl;rfl;assumption;exact IsV.any _)|refine Jt ?_|refine Jb ?_ ?_|refine Jo ?_|refine JB ?_|(apply dAq;rfl;rfl;rfl;rfl;rfl;rfl;(first|assumption|solve_by_elim))|refine JI ?_|refine Jh ?_|(apply dWS tOk follows;rfl;kernel_rfl;rfl)|intro hb
     all_goals first
      | (exfalso;simp at hb;omega)
      | skip
     exact LoopI.go m (by omega) ⟨acc++ [Tm.mk k1 nm1 s1 b1 kids1],Tm.mk k3 nm3 s3 b3 kids3,_,out',lv',nt',by simp;omega,wy,wx,hf2,hA',Zh ⟨rfl,rfl,rfl,rfl,rfl,trivial⟩,rfl⟩
 | zero =>
   have hl8:acc.length=8:=by omega
   obtain ⟨kt,rfl⟩:=V2 hA (by intro e;have:=congrArg List.length e;simp [Zb,hl8] at this)
   simp only [Ye,List.append_nil] at hf
   rw [hf]
   rcases acc with _|⟨a0,_|⟨a1,_|⟨a2,_|⟨a3,_|⟨a4,_|⟨a5,_|⟨a6,_|⟨a7,_|⟨a8,l⟩⟩⟩⟩⟩⟩⟩⟩⟩
   all_goals first
    | (exfalso;simp at hl8;done)
    | skip
   have x1:Zo E0 22 (.sl (.tok kt) 4 (Za [a0,a1,a2,a3,a4,a5,a6,a7])) (.int .i64 1)=some (.fptr a1.cells 0):=Zd7 (tl:= .tok kt) (l:=[a0,a1,a2,a3,a4,a5,a6,a7]) (i:=1) (a:=a1) rfl
   have x2:Zo E0 22 (.sl (.tok kt) 4 (Za [a0,a1,a2,a3,a4,a5,a6,a7])) (.int .i64 2)=some (.fptr a2.cells 0):=Zd7 (tl:= .tok kt) (l:=[a0,a1,a2,a3,a4,a5,a6,a7]) (i:=2) (a:=a2) rfl
   have x3:Zo E0 22 (.sl (.tok kt) 4 (Za [a0,a1,a2,a3,a4,a5,a6,a7])) (.int .i64 3)=some (.fptr a3.cells 0):=Zd7 (tl:= .tok kt) (l:=[a0,a1,a2,a3,a4,a5,a6,a7]) (i:=3) (a:=a3) rfl
   have x4:Zo E0 22 (.sl (.tok kt) 4 (Za [a0,a1,a2,a3,a4,a5,a6,a7])) (.int .i64 4)=some (.fptr a4.cells 0):=Zd7 (tl:= .tok kt) (l:=[a0,a1,a2,a3,a4,a5,a6,a7]) (i:=4) (a:=a4) rfl
   have x5:Zo E0 22 (.sl (.tok kt) 4 (Za [a0,a1,a2,a3,a4,a5,a6,a7])) (.int .i64 5)=some (.fptr a5.cells 0):=Zd7 (tl:= .tok kt) (l:=[a0,a1,a2,a3,a4,a5,a6,a7]) (i:=5) (a:=a5) rfl
   have x6:Zo E0 22 (.sl (.tok kt) 4 (Za [a0,a1,a2,a3,a4,a5,a6,a7])) (.int .i64 6)=some (.fptr a6.cells 0):=Zd7 (tl:= .tok kt) (l:=[a0,a1,a2,a3,a4,a5,a6,a7]) (i:=6) (a:=a6) rfl
   have x7:Zo E0 22 (.sl (.tok kt) 4 (Za [a0,a1,a2,a3,a4,a5,a6,a7])) (.int .i64 7)=some (.fptr a7.cells 0):=Zd7 (tl:= .tok kt) (l:=[a0,a1,a2,a3,a4,a5,a6,a7]) (i:=7) (a:=a7) rfl
   have w1:=hacc a1 (by simp)
   have w2:=hacc a2 (by simp)
   have w4:=hacc a4 (by simp)
   have w5:=hacc a5 (by simp)
   have w6:=hacc a6 (by simp)
   have w7:=hacc a7 (by simp)
   have c3:=ZqW (ht.part w1) (hsm.part w1)
   have c4:=Zq1 (ht.part w4) (hsm.part w4)
   have c5:=Zq1 (ht.part w5) (hsm.part w5)
   have c6:=Zo6 (t:=a6) (by have:=(hsm.part w6).2 a6 (WQ a6);omega)
   have c7:=Zo6 (t:=a7) (by have:=(hsm.part w7).2 a7 (WQ a7);omega)
   have c8:=Zo6 (t:=rest) (by have:=(hsm.part hw).2 rest (WQ rest);omega)
   have n1:=WM (hsm.part w1)
   have n4:=Q8 (hsm.part w4)
   have n5:=Q8 (hsm.part w5)
   have s2:=(hsm.part w2).1
   have sk:=(hsm.part hkey).1
   have c9:=ZnL ⟨(ZL a1).1,a2,a3.nm== [121,101,115],true,(ZJ a4).1,true,(ZJ a5).1,Vh a6.nm,Vh a7.nm,Vh rest.nm⟩ (key:=key) (by simp only;omega) (fun s hs=>by have:=n4.2 s hs;omega) (fun s hs=>by have:=n5.2 s hs;omega) (by simp only;omega) (by simp only;omega) (ht.part w2) (by simp only;omega) (ht.part hkey) (by omega)
   have hsi:=Xy (x:=⟨(ZL a1).1,a2,a3.nm== [121,101,115],true,(ZJ a4).1,true,(ZJ a5).1,Vh a6.nm,Vh a7.nm,Vh rest.nm⟩) (key:=key) (ht.part w2) (ht.part hkey)
   have c10:=ZqG hsi.1 ht (by have:=hsi.2;simp only at this;omega) (by have:=hsm.1;omega)
   have hX:=fun m H=>WI m H ⟨(ZL a1).1,a2,a3.nm== [121,101,115],true,(ZJ a4).1,true,(ZJ a5).1,Vh a6.nm,Vh a7.nm,Vh rest.nm⟩ 0
   obtain ⟨z1,z2,z3,z4⟩:=US (rn:=ZL) (rl:=ZJ) (num:=Vh) (t:=T) (key:=key) (l:=[a0,a1,a2,a3,a4,a5,a6,a7]) (r:=rest) rfl
   generalize Qu ZL ZJ Vh T key (some ([a0,a1,a2,a3,a4,a5,a6,a7],rest))=Z at z1 z2 z3 z4 ⊢
   generalize Cred.issue ⟨(ZL a1).1,a2,a3.nm== [121,101,115],true,(ZJ a4).1,true,(ZJ a5).1,Vh a6.nm,Vh a7.nm,Vh rest.nm⟩ key=I at c9 c10 hsi z2 z3 z4
   clear hsi n1 n4 n5 s2 sk w1 w2 w4 w5 w6 w7 hacc hf hl8
   generalize (ZL a1).1=N1 at c3 c9 hX z4
   generalize (ZL a1).2=B1 at c3 z1 z2 z3 z4
   generalize (ZJ a4).1=N4 at c4 c9 hX z4
   generalize (ZJ a4).2=B4 at c4 z1 z2 z3 z4
   generalize (ZJ a5).1=N5 at c5 c9 hX z4
   generalize (ZJ a5).2=B5 at c5 z1 z2 z3 z4
   generalize Vh a6.nm=M6 at c6 c9 hX z4
   generalize Vh a7.nm=M7 at c7 c9 hX z4
   generalize Vh rest.nm=M8 at c8 c9 hX z4
   obtain ⟨I1,e⟩:=I
   simp only at c9 c10 z2 z3 z4
   generalize hR:decide (I1.cmp T=0)=R at c10
   rw [hTc] at c10
   have hle8:∀ H,Zej E0 22 (.sl (.tok kt) 4 (Za [a0,a1,a2,a3,a4,a5,a6,a7])) H=some (.int .i64 8):=hle
   clear hle hA
   generalize Za [a0,a1,a2,a3,a4,a5,a6,a7]=L8 at x1 x2 x3 x4 x5 x6 x7 hle8 ⊢
   have hz1:∀ H,frz3 0 H (.tup [.agg [.str [],.int .i64 0,.str [],.int .i64 0,.nils,.bool false,.nils,.nils,.int .i64 0,.int .i64 0,.int .i64 0],.int .i64 2])=some (.tup [.agg Cred.zero.cells,.int .i64 2]):=fun H=>by rw [XS];rfl
   obtain ⟨k1,nm1,s1,b1,kids1⟩:=a1
   obtain ⟨k2,nm2,s2,b2,kids2⟩:=a2
   obtain ⟨k3,nm3,s3,b3,kids3⟩:=a3
   obtain ⟨k4,nm4,s4,b4,kids4⟩:=a4
   obtain ⟨k5,nm5,s5,b5,kids5⟩:=a5
   obtain ⟨k6,nm6,s6,b6,kids6⟩:=a6
   obtain ⟨k7,nm7,s7,b7,kids7⟩:=a7
   obtain ⟨k8,nm8,s8,b8,kids8⟩:=rest
   obtain ⟨k9,nm9,s9,b9,kids9⟩:=key
   obtain ⟨kI,nmI,sI,bI,kidsI⟩:=I1
   simp only [Tm.nm] at c9 hX z4
   simp only [Cred.cells,Tm.cells,List.cons_append,List.nil_append] at c3 c4 c5 c6 c7 c8 c9 c10 hX x1 x2 x3 x4 x5 x6 x7 hj1 ⊢
   have hco:[slV true 1 (Y1 N4),slV true 1 (Y1 N5)].all Z4=true:=by simp only [List.all_cons,List.all_nil,Ya,Bool.and_self]
   obtain ⟨Y,hY⟩:∃ Y,(nm3== [121,101,115])=Y:=⟨_,rfl⟩
   have hbi:ZQ E0 .eql 9 (.str nm3) (.str [121,101,115])=some (.bool Y):=by
    show some (PV.bool (nm3== [121,101,115]))=_
    rw [hY]
   rw [hY] at c9 hX z4
   clear hY
   have hbd:=Zku N4 N5
   cases B1 with
   | false =>
     rw [z1 rfl]
     clear z1 z2 z3 z4 hX c6 c7 c8 c9 c10
     repeat' first|refine Jk ?_|(apply qCl;rfl;rfl;rfl;rfl;first|exact c3 _|exact c4 _|exact c5 _)|refine JJ ?_|(apply qLe;rfl;rfl;rfl;assumption;exact IsV.any _)|refine Jt ?_|refine Jb ?_ ?_|refine Jo ?_|intro hb
     all_goals exact hz1 _
   | true =>
     cases B4 with
     | false =>
       rw [z1 rfl]
       clear z1 z2 z3 z4 hX c6 c7 c8 c9 c10
       repeat' first|refine Jk ?_|(apply qCl;rfl;rfl;rfl;rfl;first|exact c3 _|exact c4 _|exact c5 _)|refine JJ ?_|(apply qLe;rfl;rfl;rfl;assumption;exact IsV.any _)|refine Jt ?_|refine Jb ?_ ?_|refine Jo ?_|intro hb
       all_goals exact hz1 _
     | true =>
       cases B5 with
       | false =>
         rw [z1 rfl]
         clear z1 z2 z3 z4 hX c6 c7 c8 c9 c10
         repeat' first|(apply qCl;rfl;rfl;rfl;rfl;first|exact c3 _|exact c4 _|exact c5 _)|refine JJ ?_|(apply qLe;rfl;rfl;rfl;assumption;exact IsV.any _)|refine Jt ?_|refine Jo ?_|fail
         all_goals exact hz1 _
       | true =>
         replace z2:=z2 rfl
         replace z3:=z3 rfl
         replace z4:=z4 rfl
         clear z1
         by_cases he:e=0
         · subst he
           cases R with
           | false =>
             rw [z3 (by simpa using hR)]
             repeat' first|(apply qCl;rfl;rfl;rfl;rfl;first|exact c3 _|exact c4 _|exact c5 _|exact c10 _)|refine JJ ?_|(apply qLe;rfl;rfl;rfl;assumption;exact IsV.any _)|refine Jt ?_|refine Jo ?_|(apply dCl;rfl;rfl;rfl;rfl;rfl;first|exact c6 _|exact c7 _|exact c8 _|exact c9 _)|(apply dAl;rfl;rfl;rfl;rfl;exact IsV.ptrM;exact IsH.mkN)|refine JD ?_|(apply dBd;rfl;rfl;rfl;assumption;exact IsV.aggN;rfl)|refine JK ?_|refine JI ?_|refine Jh ?_|(apply dWB tOk follows;rfl;kernel_rfl;rfl;exact IsH.mkN)|fail
             all_goals exact hz1 _
           | true =>
             rw [z4 rfl (by simpa using hR)]
             repeat' first|(apply qCl;rfl;rfl;rfl;rfl;first|exact c3 _|exact c4 _|exact c5 _|exact c10 _)|refine JJ ?_|(apply qLe;rfl;rfl;rfl;assumption;exact IsV.any _)|refine Jt ?_|refine Jo ?_|(apply dCl;rfl;rfl;rfl;rfl;rfl;first|exact c6 _|exact c7 _|exact c8 _|exact c9 _)|(apply dAl;rfl;rfl;rfl;rfl;exact IsV.ptrM;exact IsH.mkN)|refine JD ?_|(apply dBd;rfl;rfl;rfl;assumption;exact IsV.aggN;rfl)|refine JK ?_|refine JI ?_|refine Jh ?_|(apply dWB tOk follows;rfl;kernel_rfl;rfl;exact IsH.mkN)|fail
             all_goals exact hX _ _
         · rw [z2 he]
           repeat' first|refine Jk ?_|(apply qCl;rfl;rfl;rfl;rfl;first|exact c3 _|exact c4 _|exact c5 _|exact c10 _)|refine JJ ?_|(apply qLe;rfl;rfl;rfl;assumption;exact IsV.any _)|refine Jt ?_|refine Jb ?_ ?_|refine Jo ?_|(apply dCl;rfl;rfl;rfl;rfl;rfl;first|exact c6 _|exact c7 _|exact c8 _|exact c9 _)|(apply dAl;rfl;rfl;rfl;rfl;exact IsV.ptrM;exact IsH.mkN)|refine JD ?_|(apply dBd;rfl;rfl;rfl;assumption;exact IsV.aggN;rfl)|refine JK ?_|refine JI ?_|refine Jh ?_|(apply dWB tOk follows;rfl;kernel_rfl;rfl;exact IsH.mkN)|intro hb
           all_goals first
            | exact hz1 _
            | (exfalso;have h9:= ‹(e != 0)=false›;simp at h9;exact he h9)
end Go.Vm.Seat
