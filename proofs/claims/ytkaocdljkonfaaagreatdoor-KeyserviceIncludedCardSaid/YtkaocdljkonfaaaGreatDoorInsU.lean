/-
  The entries of a name taken away: slices.DeleteFunc at entries. The names that have a key in a log: the document's function. The entries of a name tak
-/
import Derived.Test.YtkaocdljkonfaaaGreatDoorHb
set_option maxHeartbeats 64000000
set_option maxRecDepth 100000
namespace Go.Vm.Seat
variable {K:Box} {j k n nt:Nat} {H:Heap} {L:List En} {e:En} {b:Bool} {out:PV} {lv:List Nat}
open Go.Proofs
def Yi (name:Bs):Box:= .cells 1 [[.str name]]
def Yd (name:Bs) (e:En):Bool:= !decide (e.name=name)
theorem Zos (a b:Bs):ZV E7 .eql 9 (.str a) (.str b)=some (.bool (decide (a=b))):=by
 show some (PV.bool (a==b))=_
 by_cases h:a=b<;>simp [h]
theorem Zb5 (n:Nat) (e:En):under n (.agg e.cells)=true:=by
 obtain ⟨nm,⟨k,m,s,b,kids⟩,i⟩:=e
 simp only [En.cells,Tm.cells,List.cons_append,List.nil_append,under,ZH,Zm]
 rfl
theorem ZtB (n:Nat) (Y:List En):YA n (.cells 6 (enC Y))=true:=by
 show (enC Y).all (ZH n)=true
 rw [enC,List.all_map,List.all_eq_true]
 exact fun e _=>Zb5 n e
theorem Zly (hK:∀ n,YA n K=true) (n:Nat) (name:Bs) (Y:List En):[K,Box.cells 1 [[.str name]],Box.cells 6 (enC Y)].all (YA n)=true:=by
 simp only [List.all_cons,List.all_nil,ZtB,hK,Bool.and_true,Bool.true_and]
 rfl
def ZuD (v:PV) (H0:Heap) (r:PV) (H:Heap):Prop:=r=v∧∃ ext,H={H0 with bx:=H0.bx++ext}
theorem Zok {f:FuncId} {args:List PV} {v:PV} {bx:List Box} (h:∃ r H',CallOk E7 Tryz.prog f args ⟨bx,0,[],0⟩ r H'∧ZuD v ⟨bx,0,[],0⟩ r H') (hp:under bx.length v=true) (hb:bx.all (YA bx.length)=true):CallOk E7 Tryz.prog f args ⟨bx,0,[],0⟩ v ⟨bx,0,[],0⟩:=by
 obtain ⟨r,H',h1,rfl,ext,rfl⟩:=h
 have h2:=h1.shed (by simp) (Nat.zero_le _) hp (by simpa using hb)
 have e:(⟨List.take bx.length (bx++ext),0,[],0⟩:Heap)=⟨bx,0,[],0⟩:=by simp
 have h3:CallOk E7 Tryz.prog f args ⟨bx,0,[],0⟩ r ⟨List.take bx.length (bx++ext),0,[],0⟩:=h2
 rw [e] at h3
 exact h3
theorem Zt0 (hK:∀ n,YA n K=true) (name:Bs) (e:En):CallOk E7 Tryz.prog 136 [.agg e.cells,.ptr 1 1 0 0] ⟨[K,Yi name],0,[],0⟩ (.bool (decide (e.name=name))) ⟨[K,Yi name],0,[],0⟩:=by
 have he:=Zos e.name name
 refine Zok ?_ rfl (by simp [hK,Yi];rfl)
 obtain ⟨nm,⟨k,m,s,b,kids⟩,i⟩:=e
 simp only [En.cells,Tm.cells,List.cons_append,List.nil_append] at he ⊢
 generalize decide (nm=name)=D at he ⊢
 unfold Yi
 refine ZW (own:=fun _=>false) WB fe136.ok ?_
 refine Wp.seq ?_
 repeat' first|refine Ji ?_|refine Jt ?_|refine Jo ?_|fail
 all_goals exact RetR.ret rfl ⟨rfl,_,rfl⟩
theorem Zoh (hK:∀ n,YA n K=true) (name:Bs) (e:En) (ext:List Box):CallOk E7 Tryz.prog 136 [.agg e.cells,.ptr 1 1 0 0] ⟨K::Yi name::ext,0,[],0⟩ (.bool (decide (e.name=name))) ⟨K::Yi name::ext,0,[],0⟩:=
 (Zt0 hK name e).ext (ext := ext) rfl (by
   have h:ZH 2 e.cells=true:=Zb5 2 e
   show (ZH 2 e.cells&&(Nat.blt 1 2&&true))=true
   rw [h]
   rfl) (by simp [hK,Yi];rfl) (Nat.zero_le _)
def ixN (name:Bs):List En→Nat→Int
 | [],_=> -1
 |e::r,i=>if decide (e.name=name)=true then (i:Int) else ixN name r (i+1)
theorem ZfY {name:Bs} {l:List En} {i:Nat} {a:En} (h:l[i]? = some a):ixN name (l.drop i) i=if decide (a.name=name)=true then (i:Int) else ixN name (l.drop (i+1)) (i+1):=by
 rw [ZM h];rfl
theorem Zfc (name:Bs):∀ (L:List En) (k:Nat),(ixN name L k= -1∧L.filter (Yd name)=L)∨∃ i,i<L.length∧ixN name L k=((k+i:Nat):Int)∧(L.take (i+1)).filter (Yd name)=L.take i
 | [],k=> .inl ⟨rfl,rfl⟩
 | e :: r, k => by
   by_cases he:e.name=name
   · refine .inr ⟨0, by simp, ?_, ?_⟩
     · simp [ixN,he]
     · simp [Yd,he]
   · rcases Zfc name r (k + 1) with ⟨h1, h2⟩ | ⟨i, h1, h2, h3⟩
     · refine .inl ⟨?_, ?_⟩
       · simp only [ixN,decide_eq_true_eq,if_neg he,h1]
       · rw [List.filter_cons,if_pos (by simp [Yd,he]),h2]
     · refine .inr ⟨i + 1, by simp only [List.length_cons]; omega, ?_, ?_⟩
       · simp only [ixN, decide_eq_true_eq, if_neg he, h2]
         omega
       · rw [List.take_succ_cons,List.filter_cons,if_pos (by simp [Yd,he]),h3,List.take_succ_cons]
theorem Zoa {id:Nat} (hb:nth H.bx id=some (.cells 6 (enC L))) (hj:L[j]? = some e):YP E7 60 (.ptr id 6 j 0) H=some (.agg e.cells):=by
 obtain ⟨nm,⟨k,m,s,b,kids⟩,i⟩:=e
 exact Zag rfl rfl hb ((ZA _ _).trans (Xv hj)) rfl
theorem ZjE {id ix len:Nat} (hj:j<len):Zp E7 25 (.own id 6 ix len) (.int .i64 (j:Int))=some (.ptr id 6 (ix+j) 0):=Zfh rfl rfl rfl rfl hj
theorem Zni (L:List En) (j:Nat) (e:En):(enC L).set j e.cells=enC (L.set j e):=by
 simp only [enC,List.map_set]
theorem ZpA {id:Nat} {u:En} (hb:nth H.bx id=some (.cells 6 (enC L))) (hj:L[j]? = some u) (hro:H.ro≤id):H.wr (.ptr id 6 j 0) e.cells=some {H with bx:=H.bx.set id (.cells 6 (enC (L.set j e)))}:=by
 obtain ⟨nm,⟨k,m,s,b,kids⟩,i⟩:=e
 obtain ⟨nm',⟨k',m',s',b',kids'⟩,i'⟩:=u
 rw [ZgK hb ((ZA _ _).trans (Xv hj)) (by simp [En.cells,Tm.cells]) hro]
 rw [← Zni]
 simp [En.cells,Tm.cells]
theorem ixE (hK:∀ n,YA n K=true) (hlen:L.length≤1000) (name:Bs):CallOk E7 Tryz.prog 94 [.own 2 6 0 L.length,.fn 136 [.ptr 1 1 0 0]] ⟨[K,Yi name,.cells 6 (enC L)],0,[],0⟩ (.int .i64 (ixN name L 0)) ⟨[K,Yi name,.cells 6 (enC L)],0,[],0⟩:=by
 suffices h:∃ r H',CallOk E7 Tryz.prog 94 [.own 2 6 0 L.length,.fn 136 [.ptr 1 1 0 0]] ⟨[K,Yi name,.cells 6 (enC L)],0,[],0⟩ r H'∧(r= .int .i64 (ixN name L 0)∧H'=⟨[K,Yi name,.cells 6 (enC L)],0,[],0⟩) by
  obtain ⟨r,H',h1,rfl,rfl⟩:=h
  exact h1
 refine ZW (own:=fun _=>false) WB fe94.ok ?_
 refine Wp.seq ?_
 repeat' first|refine Jo ?_|fail
 refine Wp.while (fun m tm H=>∃ (i:Nat) (base:TM),i+m=L.length∧ixN name L 0=ixN name (L.drop i) i∧tm=ovr base [(0,.own 2 6 0 L.length),(1,.fn 136 [.ptr 1 1 0 0]),(7,.int .i64 (L.length:Int)),(8,.int .i64 (i:Int))]∧H=⟨[K,Yi name,.cells 6 (enC L)],0,[],0⟩)
  (fun m tm H hI=>?_) L.length _ _ ⟨0,_,by omega,by simp,Zi ⟨rfl,rfl,rfl,rfl,trivial⟩,rfl⟩
 obtain ⟨i,base,hi,hgo,rfl,rfl⟩:=hI
 by_cases hlt:i<L.length
 · obtain ⟨e, he⟩ : ∃ e, L[i]? = some e := ⟨L[i], by simp⟩
   have hlx:ZV E7 .lss 3 (.int .i64 (i:Int)) (.int .i64 (L.length:Int))=some (.bool true):=We (by omega)
   have hia:=ZjE (id:=2) (ix:=0) hlt
   have hld:YP E7 60 (.ptr 2 6 (0+i) 0) ⟨[K,Yi name,.cells 6 (enC L)],0,[],0⟩=some (.agg e.cells):=by rw [Nat.zero_add];exact Zoa rfl he
   have hc:=Zoh hK name e [.cells 6 (enC L)]
   rw [ZfY he] at hgo
   generalize decide (e.name=name)=D at hc hgo
   cases D with
   | true =>
     rw [if_pos rfl] at hgo
     repeat' first|refine Jc hc ?_|refine Ji ?_|refine JJ ?_|(apply qLd;rfl;rfl;rfl;assumption;exact IsV.any _)|refine Jo ?_|fail
     all_goals exact RetR.ret rfl ⟨by rw [hgo];rfl,rfl⟩
   | false =>
     rw [if_neg (by simp)] at hgo
     repeat' first|refine Jc hc ?_|refine Ji ?_|refine JJ ?_|(apply qLd;rfl;rfl;rfl;assumption;exact IsV.any _)|refine Jo ?_|fail
     exact LoopI.go (m-1) (by omega) ⟨i+1,_,by omega,hgo,Zi ⟨rfl,rfl,rfl,Zh (Ze (n:=i+1) (by omega)),trivial⟩,rfl⟩
 · have e : i = L.length := by omega
   subst e
   have hlx:ZV E7 .lss 3 (.int .i64 (L.length:Int)) (.int .i64 (L.length:Int))=some (.bool false):=XS (by omega)
   rw [List.drop_length] at hgo
   repeat' first|refine Ji ?_|refine Jo ?_|fail
   all_goals exact RetR.ret rfl ⟨by rw [hgo];rfl,rfl⟩
def Zvb (K:Box) (name:Bs) (L:List En) (r:PV) (H:Heap):Prop:=∃ D,r= .own 2 6 0 (L.filter (Yd name)).length∧H=⟨[K,Yi name,.cells 6 (enC (L.filter (Yd name))++D)],0,[],0⟩
theorem Zlt {id:Nat} (h:k≤n):Z4 E7 25 (.own id 6 0 n) (some (.int .i64 (k:Int))) none none=some (.own id 6 (0+k) (n-k)):=by
 obtain ⟨ti,e,et⟩:∃ ti,E7.T 25=some ti∧ti.tk= .slice 60:=⟨_,rfl,rfl⟩
 obtain ⟨ei,e2,e3⟩:∃ ei,E7.T 60=some ei∧ei.size=6:=⟨_,rfl,rfl⟩
 have hn:nat? (.int .i64 (k:Int))=some k:=by simp [nat?]
 simp only [Z4,e,et,e2,e3,if_true,Xb,hn,if_pos h]
theorem Zn5 {id:Nat} (h:k≤n):Z4 E7 25 (.own id 6 0 n) none (some (.int .i64 (k:Int))) none=some (.own id 6 0 k):=by
 obtain ⟨ti,e,et⟩:∃ ti,E7.T 25=some ti∧ti.tk= .slice 60:=⟨_,rfl,rfl⟩
 obtain ⟨ei,e2,e3⟩:∃ ei,E7.T 60=some ei∧ei.size=6:=⟨_,rfl,rfl⟩
 have hn:nat? (.int .i64 (k:Int))=some k:=by simp [nat?]
 simp only [Z4,e,et,e2,e3,if_true,Xb,hn,if_pos h,Nat.sub_zero]
theorem Zdk (h:L[j]? = some e):L.take (j+1)=L.take j++ [e]:=by
 rw [List.take_add_one,h]
 rfl
theorem ZuS (hK:∀ n,YA n K=true) (hlen:L.length≤1000) (name:Bs):∃ r H',CallOk E7 Tryz.prog 134 [.own 2 6 0 L.length,.fn 136 [.ptr 1 1 0 0]] ⟨[K,Yi name,.cells 6 (enC L)],0,[],0⟩ r H'∧Zvb K name L r H':=by
 have hix:=ixE hK hlen name
 refine ZW (own:=fun _=>false) WB fe134.ok ?_
 refine Wp.seq ?_
 rcases Zfc name L 0 with ⟨h1,h2⟩|⟨i0,h1,h2,h3⟩
 · rw [h1] at hix
   have hb0:ZV E7 .eql 3 (.int .i64 (-1)) (.int .i64 (-1))=some (.bool true):=rfl
   repeat' first|refine Jc hix ?_|refine Ji ?_|refine Jo ?_|fail
   all_goals exact RetR.ret rfl ⟨[],by rw [h2];rfl,by rw [h2];simp only [List.append_nil]⟩
 · rw [h2] at hix
   have hb0:ZV E7 .eql 3 (.int .i64 ((0+i0:Nat):Int)) (.int .i64 (-1))=some (.bool false):=ZnR (by omega)
   repeat' first|refine Jc hix ?_|refine Ji ?_|refine Jo ?_|fail
   refine Wp.while (fun m tm H => ∃ (i j : Nat) (Y : List En) (base : TM), j + m = L.length ∧ i < j ∧ Y.length = L.length ∧ Y.take i = (L.take j).filter (Yd name) ∧ (∀ k, j ≤ k → Y[k]? = L[k]?) ∧
     tm=ovr base [(0,.own 2 6 0 L.length),(1,.fn 136 [.ptr 1 1 0 0]),(5,.int .i64 (i:Int)),(6,.int .i64 (j:Int))]∧H=⟨[K,Yi name,.cells 6 (enC Y)],0,[],0⟩)
    (fun m tm H hI=>Wp.drop ?_) (L.length-(i0+1)) _ _ ⟨i0,i0+1,L,_,by omega,by omega,rfl,h3.symm,fun _ _=>rfl,Zi ⟨rfl,rfl,Zh (by omega),Zh (by rw [show ((0+i0:Nat):Int)=(i0:Int) by omega];exact Ze (n:=i0+1) (by omega)),trivial⟩,rfl⟩
   clear hix hb0
   obtain ⟨i,j,Y,base,hi,hij,hY,hF,hD,rfl,rfl⟩:=hI
   have hnb:nth [K,Yi name,.cells 6 (enC Y)] 2=some (.cells 6 (enC Y)):=rfl
   by_cases hlt:j<L.length
   · obtain ⟨e, he⟩ : ∃ e, L[j]? = some e := ⟨L[j], by simp⟩
     have heY:Y[j]? = some e:=by rw [hD j (Nat.le_refl _),he]
     obtain ⟨u,hu⟩:∃ u,Y[i]? = some u:=⟨Y[i]'(by omega),by simp⟩
     have hlx:ZV E7 .lss 3 (.int .i64 (j:Int)) (.int .i64 (L.length:Int))=some (.bool true):=We (by omega)
     have hia:=ZjE (id:=2) (ix:=0) hlt
     have hia2:=ZjE (id:=2) (ix:=0) (len:=L.length) (j:=i) (by omega)
     have hld:YP E7 60 (.ptr 2 6 (0+j) 0) ⟨[K,Yi name,.cells 6 (enC Y)],0,[],0⟩=some (.agg e.cells):=by rw [Nat.zero_add];exact Zoa hnb heY
     have hst:Heap.wr ⟨[K,Yi name,.cells 6 (enC Y),.cells 6 [e.cells]],0,[],0⟩ (.ptr 2 6 (0+i) 0) e.cells=some ⟨[K,Yi name,.cells 6 (enC (Y.set i e)),.cells 6 [e.cells]],0,[],0⟩:=by
      rw [Nat.zero_add,ZpA (L:=Y) rfl hu (Nat.zero_le _)]
      rfl
     have hc:=Zoh hK name e [.cells 6 (enC Y),.cells 6 [e.cells]]
     have hsn:(L.take (j+1)).filter (Yd name)=(L.take j).filter (Yd name)++if decide (e.name=name)=true then [] else [e]:=by
      rw [Zdk he,List.filter_append]
      congr 1
      by_cases q:e.name=name<;>simp [Yd,q]
     generalize decide (e.name=name)=D at hc hsn
     cases D with
     | true =>
       simp only [if_true,List.append_nil] at hsn
       obtain ⟨nm,⟨k',m',s',b',kids'⟩,x⟩:=e
       simp only [En.cells,Tm.cells,List.cons_append,List.nil_append] at hc hld
       repeat' first|refine Jc hc ?_|refine Ji ?_|refine JJ ?_|(apply qLd;rfl;rfl;rfl;assumption;exact IsV.any _)|refine Jt ?_|refine Jo ?_|fail
       exact DropQ.go [(0,.own 2 6 0 L.length),(1,.fn 136 [.ptr 1 1 0 0]),(5,.int .i64 (i:Int)),(6,.int .i64 ((j+1:Nat):Int))] ⟨rfl,rfl,rfl,Zh (Ze (n:=j+1) (by omega)),trivial⟩ rfl rfl (Zly hK _ _ _) (LoopI.go (m-1) (by omega) ⟨i,j+1,Y,_,by omega,by omega,hY,by rw [hsn];exact hF,fun k hk=>hD k (by omega),rfl,rfl⟩)
     | false =>
       simp only [Bool.false_eq_true,if_false] at hsn
       have hF':(Y.set i e).take (i+1)=(L.take (j+1)).filter (Yd name):=by
        rw [hsn, ← hF,Zdk (e:=e) (by rw [List.getElem?_set];simp;omega),List.take_set_of_le (by omega)]
       have hD':∀ k,j+1≤k→(Y.set i e)[k]? = L[k]? :=fun k hk=>by
        rw [List.getElem?_set_ne (by omega)]
        exact hD k (by omega)
       have hY':(Y.set i e).length=L.length:=by rw [List.length_set,hY]
       generalize Y.set i e=Y' at hst hF' hD' hY'
       obtain ⟨nm,⟨k',m',s',b',kids'⟩,x⟩:=e
       simp only [En.cells,Tm.cells,List.cons_append,List.nil_append] at hc hld hst
       repeat' first|refine Jc hc ?_|refine Ji ?_|refine JJ ?_|(apply qLd;rfl;rfl;rfl;assumption;exact IsV.any _)|refine Jt ?_|refine Jo ?_|fail
       exact DropQ.go [(0,.own 2 6 0 L.length),(1,.fn 136 [.ptr 1 1 0 0]),(5,.int .i64 ((i+1:Nat):Int)),(6,.int .i64 ((j+1:Nat):Int))] ⟨rfl,rfl,Zh (Ze (n:=i+1) (by omega)),Zh (Ze (n:=j+1) (by omega)),trivial⟩ rfl rfl (Zly hK _ _ _) (LoopI.go (m-1) (by omega) ⟨i+1,j+1,Y',_,by omega,by omega,hY',hF',hD',rfl,rfl⟩)
   · have e : j = L.length := by omega
     subst e
     have hlx:ZV E7 .lss 3 (.int .i64 (L.length:Int)) (.int .i64 (L.length:Int))=some (.bool false):=XS (by omega)
     have hs1:=Zlt (id:=2) (k:=i) (n:=L.length) (by omega)
     have hs2:=Zn5 (id:=2) (k:=i) (n:=L.length) (by omega)
     rw [List.take_length] at hF
     have hclr:∃ D,Qt E7 25 (.own 2 6 (0+i) (L.length-i)) ⟨[K,Yi name,.cells 6 (enC Y)],0,[],0⟩=some (.tup [],⟨[K,Yi name,.cells 6 (enC (L.filter (Yd name))++D)],0,[],0⟩):=by
      have h:=ZfE (E:=E7) (t:=25) (e:=60) (es:=6) (el:=enC Y) (ix:=0+i) (len:=L.length-i) (H:=⟨[K,Yi name,.cells 6 (enC Y)],0,[],0⟩) rfl rfl rfl rfl rfl (by decide) rfl hnb (Nat.zero_le _) (by rw [Z6];omega)
      have e:(enC Y).take (0+i)=enC (L.filter (Yd name)):=by
       rw [Nat.zero_add, ← hF]
       simp only [enC,List.map_take]
      rw [e] at h
      exact ⟨_,h⟩
     obtain ⟨D,hclr⟩:=hclr
     have hll:(L.filter (Yd name)).length=i:=by rw [← hF,List.length_take];omega
     repeat' first|refine JS ?_|refine Ji ?_|(apply ZsP;rfl;rfl;assumption)|refine Jo ?_|fail
     all_goals exact RetR.ret rfl ⟨D,by rw [hll];rfl,rfl⟩
open Go.Proofs
theorem eSl:E0.T 25=some ⟨.slice 60,1,24,.nils⟩:=by kernel_rfl
theorem eEn:E0.T 60=some ⟨.struct [(0,9),(1,24),(5,3)],6,80,.agg [.str [],.int .i64 0,.str [],.int .i64 0,.nils,.int .i64 0]⟩:=by kernel_rfl
theorem Zew (name:Bs) (key:Tm) (i:Int):XZ E0 60 [(0,.str name),(1,.agg key.cells),(2,.int .i64 i)]=some (.agg (En.mk name key i).cells):=by
 obtain ⟨k,nm,s,b,kids⟩:=key
 rfl
theorem ZqZ {L : List (List PV)} (h : ApV b 6 L out lv nt) (hk : k ≤ L.length) :
  ∃ x y,Z4 E0 25 out none (some (.int .i64 (k:Int))) none=some x∧Z4 E0 25 out (some (.int .i64 (k:Int))) none none=some y∧ElV 6 x (L.take k)∧ElV 6 y (L.drop k):=by
 cases h with
 | nil _ _ _ =>
   obtain rfl:k=0:=by simpa using hk
   exact ⟨.nils,.nils,by simp only [Z4,eSl,eEn,UZ,Xb];rfl,by simp only [Z4,eSl,eEn,UZ,Xb];rfl,.nils 6,.nils 6⟩
 | full _ _ _ h =>
   obtain ⟨t1,h1⟩:=ZsD (tl:= .full) eSl rfl eEn rfl hk
   obtain ⟨t2,h2⟩:=ZrT (tl:= .full) eSl rfl eEn rfl hk
   exact ⟨_,_,h1,h2,.sl _ _ _,.sl _ _ _⟩
 | tok _ t _ _ _ _ _ _ =>
   obtain ⟨t1,h1⟩:=ZsD (tl:= .tok t) eSl rfl eEn rfl hk
   obtain ⟨t2,h2⟩:=ZrT (tl:= .tok t) eSl rfl eEn rfl hk
   exact ⟨_,_,h1,h2,.sl _ _ _,.sl _ _ _⟩
theorem ZfL (l:List En) (k:Nat):(enC l).take k=enC (l.take k):=by simp [enC,List.map_take]
theorem ZfK (l:List En) (k:Nat):(enC l).drop k=enC (l.drop k):=by simp [enC,List.map_drop]
theorem Zs7 {K : List En} (h : ApV b 6 (enC K) out lv nt) (hK : K.length ≤ 1000) (hn : n ≤ K.length) (e : En) :
  ∃ x y o1 lv1 nt1 o2 lv2 nt2 o3 lv3 nt3,Z4 E0 25 out none (some (.int .i64 (n:Int))) none=some x∧Z4 E0 25 out (some (.int .i64 (n:Int))) none none=some y∧
   (∀ bx ro,Yg E0 25 25 (.sl .full 6 []) x ⟨bx,ro,lv,nt⟩=some (o1,⟨bx,ro,lv1,nt1⟩))∧
   (∀ bx ro,Yg E0 25 25 o1 (.sl .full 6 [e.cells]) ⟨bx,ro,lv1,nt1⟩=some (o2,⟨bx,ro,lv2,nt2⟩))∧
   (∀ bx ro,Yg E0 25 25 o2 y ⟨bx,ro,lv2,nt2⟩=some (o3,⟨bx,ro,lv3,nt3⟩))∧ApV false 6 (enC (Zm9 K n e)) o3 lv3 nt3:=by
 obtain ⟨x,y,hx,hy,ex,ey⟩:=ZqZ h (k:=n) (by rw [Z6];exact hn)
 rw [ZfL] at ex
 rw [ZfK] at ey
 have h0:ApV false 6 (enC []) (.sl .full 6 []) lv nt:= .full [] _ _ rfl rfl
 obtain ⟨o1,lv1,nt1,a1,A1, -⟩:=h0.app ZjM ex (Qp _) (ZZ (by simp only [Z6,List.length_nil,List.length_take];omega) (by decide)) (Zcr _)
 rw [← Uc,List.nil_append] at A1
 have e1:ElV 6 (.sl .full 6 [e.cells]) (enC [e]):= .sl _ _ _
 obtain ⟨o2,lv2,nt2,a2,A2, -⟩:=A1.app ZjM e1 (Qp _) (ZZ (by simp only [Z6,List.length_take,List.length_cons,List.length_nil];omega) (by decide)) (Zcr _)
 rw [← Uc] at A2
 obtain ⟨o3,lv3,nt3,a3,A3, -⟩:=A2.app ZjM ey (Qp _) (ZZ (by simp only [Z6,List.length_append,List.length_take,List.length_drop,List.length_cons,List.length_nil];omega) (by decide)) (Zcr _)
 rw [← Uc] at A3
 exact ⟨x,y,o1,lv1,nt1,o2,lv2,nt2,o3,lv3,nt3,hx,hy,a1,a2,a3,A3⟩
theorem ZiK {a b:Int} (h:a=b):ZV E0 .neq 3 (.int .i64 a) (.int .i64 b)=some (.bool false):=by
 show some (PV.bool (!(a==b)))=_
 rw [h,beq_self_eq_true]
 rfl
theorem Zl0 (K:List En) (n:Nat) (e:En):Zm9 K n e≠ []:=by simp [Zm9]
theorem ZuT (b c:Bool) {L:List (List PV)} (h:L≠ []):slV b 6 L=slV c 6 L:=by
 cases L with
 |nil=>exact absurd rfl h
 |cons a r=>rw [Zw,Zw]
theorem ZoB {K:List En} (h:K= []→b=true):slV b 6 (enC K)=slV true 6 (enC K):=by
 cases K with
 |nil=>rw [h rfl]
 |cons a r=>exact ZuT _ _ (by simp [enC])
theorem c47 {l:List Tm} (hok:∀ t,t∈l→t.Ok) (hs:∀ t,t∈l→t.size≤900) (hll:l.length≤40) (b:Bool):∀ H,CallOk E0 Tryz.prog 47 [slV b 4 (Za l)] H (slV true 6 (enC (YF l l.length))) H:=by
 have h1:=Zb l
 refine Zr (own:=(fun d=>[5048,5055,5059].any (Nat.beq d))) tOk fe47.ok (by simp only [ZC,Yl]) (Y2 _ _ _ _ _) ?_
 refine Wp.seq ?_
 repeat' first|refine Jo ?_|fail
 refine Wp.while (fun k tm H => ∃ (i : Nat) (c : Bool) (base : TM) (out : PV) (lv : List Nat) (nt : Nat), i + k = l.length ∧ (YF l i = [] → c = true) ∧ ApV c 6 (enC (YF l i)) out lv nt ∧
   tm=ovr base [(0,slV b 4 (Za l)),(3,out),(4,.int .i64 (i:Int))]∧H=⟨[],0,lv,nt⟩)
  (fun k tm H hI=>Wp.drop ?_) l.length _ _ ⟨0,true,_,_,_,_,by omega,fun _=>rfl,.nil _ _ rfl,Zi ⟨rfl,rfl,rfl,trivial⟩,rfl⟩
 obtain ⟨i,c,base,out,lv,nt,hi,hc,hA,rfl,rfl⟩:=hI
 have hun:=hA.under 0
 by_cases hlt:i<l.length
 · obtain ⟨t, ht⟩ : ∃ t, l[i]? = some t := ⟨l[i], by simp⟩
   have hm:=List.mem_of_getElem? ht
   have hlx:ZV E0 .lss 3 (.int .i64 (i:Int)) (.int .i64 ((Za l).length:Int))=some (.bool true):=We (by omega)
   have hr:=c87 (hok t hm) (by have:=hs t hm;omega)
   have hf:=c53 hok hs hll (name:=(Zf t).1.sub) b
   have hkl:=Vs l i
   have hbl:=ZfU (Zf t).1.sub (YF l i)
   have hb:=fun q=>c91 (l:=YF l i) (by omega) (Zf t).1.sub q
   have hst:YF l (i+1)=U9 l (YF l i) i t:=by simp only [YF,ht]
   unfold U9 at hst
   generalize YF l i=K at hA hkl hbl hb hst hc
   generalize Zf t=R at hr hf hbl hb hst
   obtain ⟨⟨sub,⟨k8,nm8,s8,b8,kids8⟩,iss,pn,per,en,exc,ser,fr,till⟩,R2⟩:=R
   simp only [] at hr hf hbl hb hst
   generalize Zx sub l.reverse=F at hf hst
   obtain ⟨X,n,ok⟩:=F
   simp only [] at hf hst
   obtain ⟨x,y,o1,lv1,nt1,o2,lv2,nt2,o3,lv3,nt3,hx,hy,a1,a2,a3,A3⟩:=Zs7 hA (by omega) hbl ⟨sub,X,(n:Int)⟩
   have hbd:=Zew sub X n
   have hbf:∀ H,CallOk E0 Tryz.prog 91 [out,.str sub] H (.int .i64 (Wy sub K:Int)) H:=by
    have e:=hA.frzG
    exact fun H=>Z9 (hb c H) (by simp only [ZC,e];rfl)
   obtain ⟨kx,nx,sx,bx,kidsx⟩:=X
   obtain ⟨kt,nt',st,bt,kidst⟩:=t
   have hj:=Zk ht
   simp only [Cred.cells,En.cells,Tm.cells,List.cons_append,List.nil_append] at hr hf hbd a2
   clear hb hm
   cases ok with
   | false =>
     rw [if_pos (.inl rfl)] at hst
     repeat' first|refine Jk ?_|refine Jc (hr _) ?_|refine Jc (hf _) ?_|refine Ji ?_|refine Jl ?_|refine Jx ?_|refine Jt ?_|refine Jo ?_|fail
     exact DropQ.go [(0,slV b 4 (Za l)),(3,out),(4,.int .i64 ((i+1:Nat):Int))] ⟨rfl,rfl,Zh (Ze (n:=i+1) (by omega)),trivial⟩
      (by simp [Zm,under,hun]) rfl rfl (LoopI.go (k-1) (by omega) ⟨i+1,c,_,out,lv,nt,by omega,by rw [hst];exact hc,by rw [hst];exact hA,rfl,rfl⟩)
   | true =>
     by_cases hn:n=i
     · rw [if_neg (by simp [hn])] at hst
       have bn:=ZiK (a:=(n:Int)) (b:=(i:Int)) (by omega)
       have hun3:=A3.under 0
       repeat' first|(apply qCl;rfl;rfl;rfl;rfl;first|exact hr _|exact hf _|exact hbf _)|refine Ji ?_|refine Jl ?_|refine Jx ?_|refine Jt ?_|refine Jo ?_|refine JB ?_|(apply dAq;rfl;rfl;rfl;rfl;rfl;rfl;(first|assumption|solve_by_elim))|(apply dSl;rfl;rfl;rfl;rfl;rfl;rfl;assumption;exact IsV.any _;rfl)|(apply dBd;rfl;rfl;rfl;assumption;exact IsV.aggN;rfl)|refine Jh ?_|(apply Wp.draw tOk follows;kernel_rfl)|fail
       exact DropQ.go [(0,slV b 4 (Za l)),(3,o3),(4,.int .i64 ((i+1:Nat):Int))] ⟨rfl,rfl,Zh (Ze (n:=i+1) (by omega)),trivial⟩
        (by simp [Zm,under,hun3]) rfl rfl (LoopI.go (k-1) (by omega) ⟨i+1,false,_,o3,lv3,nt3,by omega,by rw [hst];exact fun h=>absurd h (Zl0 _ _ _),by rw [hst];exact A3,rfl,rfl⟩)
     · rw [if_pos (.inr hn)] at hst
       have bn:=ZiH (a:=(n:Int)) (b:=(i:Int)) (by omega)
       repeat' first|refine Jc (hr _) ?_|refine Jc (hf _) ?_|refine Ji ?_|refine Jl ?_|refine Jx ?_|refine Jt ?_|refine Jo ?_|fail
       exact DropQ.go [(0,slV b 4 (Za l)),(3,out),(4,.int .i64 ((i+1:Nat):Int))] ⟨rfl,rfl,Zh (Ze (n:=i+1) (by omega)),trivial⟩
        (by simp [Zm,under,hun]) rfl rfl (LoopI.go (k-1) (by omega) ⟨i+1,c,_,out,lv,nt,by omega,by rw [hst];exact hc,by rw [hst];exact hA,rfl,rfl⟩)
 · have e : i = l.length := by omega
   subst e
   have hlx:ZV E0 .lss 3 (.int .i64 (l.length:Int)) (.int .i64 ((Za l).length:Int))=some (.bool false):=XS (by omega)
   have hfin:=fun m H=>hA.frz3 m H
   rw [ZoB hc] at hfin
   repeat' first|refine Ji ?_|refine Jl ?_|refine Jo ?_|fail
   all_goals exact hfin _ _
end Go.Vm.Seat
namespace Go.Vm
theorem ZpW {E : Env} {P : Program} {own : Tmp → Bool} {n : Nat} {K : TM → Heap → Prop} {tm : TM} {H : Heap} {all r : List Oper} {d : Nat} {ty : TypeId} {pos : String} {aft : Array Edge} {grd : Option (Nat × Bool)} {t u : TypeId} {x y : Operand} {X Y p : PV} {H1 : Heap}
  (hw:Zd all tm ⟨some d,.call {callee:= .builtin .append,args:= #[x,y],argTypes:= #[t,u]},ty,pos,aft,grd⟩=some true) (hn:Nat.blt d n=true) (ho:own d=true) (hx:Zg E tm x=X) (hy:Zg E tm y=Y) (h:Yb E t u X Y H=some (p,H1))
  (hr:RegQ E P own n all r K (ZX tm (some d) p) H1):RegQ E P own n all (⟨some d,.call {callee:= .builtin .append,args:= #[x,y],argTypes:= #[t,u]},ty,pos,aft,grd⟩::r) K tm H:=
 .op (p:=p) hw (by simp only [Wg,hn]) (by simp [aOp,Yt,ho,hx,hy,h]) hr
end Go.Vm
namespace Go.Vm.Seat
variable {L:List En} {K:Box}
open Go.Proofs
theorem Zrr (hL:L≠ []) (hl:L.length≤1000) (b:Bool) (H:Heap):Yb E7 25 25 (.sl .full 6 []) (slV b 6 (enC L)) H=some (.own H.bx.length 6 0 L.length,H.push (.cells 6 (enC L))):=by
 have hx:ElV 6 (slV b 6 (enC L)) (enC L):= .slV b 6 _
 have hT:ApT E7 25 25 6 80:=⟨_,_,_,_,_,rfl,rfl,rfl,rfl,rfl,rfl,rfl,by decide,rfl⟩
 have hf:Wf ([]:List (List PV)).length (enC L).length 80=true:=ZZ (by simp only [Z6,List.length_nil];omega) (by decide)
 have h1:=XL hT hx (Qp L) (s:= .sl .full 6 []) rfl rfl H
 have hn:=Z6 L
 cases hE:enC L with
 |nil=>rw [hE] at hn;exact absurd (List.length_eq_zero_iff.1 hn.symm) hL
 | cons y yr =>
   rw [hE] at hn hf h1
   simp only [Yb,h1,Xz,List.nil_append]
   rw [if_pos hf]
   simp only [List.length_nil,Nat.zero_add]
   rw [hn]
theorem ZoZ (hL:L≠ []) (b:Bool):ZV E7 .eql 25 (slV b 6 (enC L)) .nils=some (.bool false):=by
 cases L with
 |nil=>exact absurd rfl hL
 |cons a r=>simp only [enC,List.map_cons,Zw];rfl
theorem Zo2 (hL:L≠ []) (hl:L.length≤1000) (b:Bool) (name:Bs):∃ r H',CallOk E7 Tryz.prog 135 [slV b 6 (enC L)] ⟨[K,Yi name],0,[],0⟩ r H'∧(r= .own 2 6 0 L.length∧H'=⟨[K,Yi name,.cells 6 (enC L)],0,[],0⟩):=by
 have hne:=ZoZ hL b
 have hap:=Zrr hL hl b ⟨[K,Yi name],0,[],0⟩
 refine ZW (own:=fun d=>Nat.beq d 7) WB fe135.ok ?_
 refine Wp.seq ?_
 repeat' first|refine Js ?_|refine Ji ?_|refine Jo ?_|fail
 refine ZpW rfl rfl rfl rfl rfl hap ?_
 repeat' first|refine Jo ?_|fail
 all_goals exact RetR.ret rfl ⟨rfl,rfl⟩
def Ztn (K:Box) (M:List En) (r:PV) (H:Heap):Prop:=∃ A D,r= .own 2 6 0 M.length∧(∀ n,YA n A=true)∧H=⟨[K,A,.cells 6 (enC M++D)],0,[],0⟩
theorem Zsr (hK:∀ n,YA n K=true) (hL:L≠ []) (hl:L.length≤1000) (b:Bool) (name:Bs):∃ r H',CallOk E7 Tryz.prog 85 [slV b 6 (enC L),.str name] ⟨[K],0,[],0⟩ r H'∧Ztn K (L.filter (Yd name)) r H':=by
 obtain ⟨r1,H1,hcl,rfl,rfl⟩:=Zo2 (K:=K) hL hl b name
 obtain ⟨r2,H2,hde,D,rfl,rfl⟩:=ZuS hK hl name
 refine ZW (own:=fun _=>false) WB fe85.ok ?_
 refine Wp.seq ?_
 unfold Yi at hcl hde
 repeat' first|refine Jc hcl ?_|refine Jc hde ?_|refine Jo ?_|fail
 all_goals exact RetR.ret rfl ⟨_,D,rfl,fun n=>rfl,rfl⟩
end Go.Vm.Seat
