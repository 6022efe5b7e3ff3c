/-
  The entries of a name taken away: slices.DeleteFunc at entries. The entries of a name taken away: a copy is made first. The entry of a name.
-/
import Derived.Test.YtkaocdljkonfaaaGreatDoorQInsO
import Derived.Test.YtkaocdljkonfaaaGreatDoorQHe
set_option maxHeartbeats 64000000
set_option maxRecDepth 100000
namespace Go.Vm.Seat
variable {K:Box} {j k n:Nat} {H:Heap} {L:List En} {e:En}
open Go.Proofs
def Yd (name:Bs):Box:= .cells 1 [[.str name]]
def Yn (name:Bs) (e:En):Bool:= !decide (e.name=name)
theorem ZmL (a b:Bs):ZQ E7 .eql 9 (.str a) (.str b)=some (.bool (decide (a=b))):=by
 show some (PV.bool (a==b))=_
 by_cases h:a=b<;>simp [h]
theorem ZbL (n:Nat) (e:En):under n (.agg e.cells)=true:=by
 obtain ⟨nm,⟨k,m,s,b,kids⟩,i⟩:=e
 simp only [En.cells,Tm.cells,List.cons_append,List.nil_append,under,ZP,Zp]
 rfl
theorem Ztp (n:Nat) (Y:List En):YF n (.cells 6 (enC Y))=true:=by
 show (enC Y).all (ZP n)=true
 rw [enC,List.all_map,List.all_eq_true]
 exact fun e _=>ZbL n e
theorem Zkm (hK:∀ n,YF n K=true) (n:Nat) (name:Bs) (Y:List En):[K,Box.cells 1 [[.str name]],Box.cells 6 (enC Y)].all (YF n)=true:=by
 simp only [List.all_cons,List.all_nil,Ztp,hK,Bool.and_true,Bool.true_and]
 rfl
def Zsy (v:PV) (H0:Heap) (r:PV) (H:Heap):Prop:=r=v∧∃ ext,H={H0 with bx:=H0.bx++ext}
theorem ZmW {f:FuncId} {args:List PV} {v:PV} {bx:List Box} (h:∃ r H',CallOk E7 Tryz.prog f args ⟨bx,0,[],0⟩ r H'∧Zsy v ⟨bx,0,[],0⟩ r H') (hp:under bx.length v=true) (hb:bx.all (YF bx.length)=true):CallOk E7 Tryz.prog f args ⟨bx,0,[],0⟩ v ⟨bx,0,[],0⟩:=by
 obtain ⟨r,H',h1,rfl,ext,rfl⟩:=h
 have h2:=h1.shed (by simp) (Nat.zero_le _) hp (by simpa using hb)
 have e:(⟨List.take bx.length (bx++ext),0,[],0⟩:Heap)=⟨bx,0,[],0⟩:=by simp
 have h3:CallOk E7 Tryz.prog f args ⟨bx,0,[],0⟩ r ⟨List.take bx.length (bx++ext),0,[],0⟩:=h2
 rw [e] at h3
 exact h3
theorem Zrr (hK:∀ n,YF n K=true) (name:Bs) (e:En):CallOk E7 Tryz.prog 136 [.agg e.cells,.ptr 1 1 0 0] ⟨[K,Yd name],0,[],0⟩ (.bool (decide (e.name=name))) ⟨[K,Yd name],0,[],0⟩:=by
 have he:=ZmL e.name name
 refine ZmW ?_ rfl (by simp [hK,Yd];rfl)
 obtain ⟨nm,⟨k,m,s,b,kids⟩,i⟩:=e
 simp only [En.cells,Tm.cells,List.cons_append,List.nil_append] at he ⊢
 generalize decide (nm=name)=D at he ⊢
 unfold Yd
 refine Z9 (own:=fun _=>false) VS fe136.ok ?_
 refine Wp.seq ?_
 repeat' first|refine Ji ?_|refine Jt ?_|refine Jo ?_|fail
 all_goals exact RetR.ret rfl ⟨rfl,_,rfl⟩
theorem Zme (hK:∀ n,YF n K=true) (name:Bs) (e:En) (ext:List Box):CallOk E7 Tryz.prog 136 [.agg e.cells,.ptr 1 1 0 0] ⟨K::Yd name::ext,0,[],0⟩ (.bool (decide (e.name=name))) ⟨K::Yd name::ext,0,[],0⟩:=
 (Zrr hK name e).ext (ext := ext) rfl (by
   have h:ZP 2 e.cells=true:=ZbL 2 e
   show (ZP 2 e.cells&&(Nat.blt 1 2&&true))=true
   rw [h]
   rfl) (by simp [hK,Yd];rfl) (Nat.zero_le _)
def ixN (name:Bs):List En→Nat→Int
 | [],_=> -1
 |e::r,i=>if decide (e.name=name)=true then (i:Int) else ixN name r (i+1)
theorem Zer {name:Bs} {l:List En} {i:Nat} {a:En} (h:l[i]? = some a):ixN name (l.drop i) i=if decide (a.name=name)=true then (i:Int) else ixN name (l.drop (i+1)) (i+1):=by
 rw [ZN h];rfl
theorem Zfa (name:Bs):∀ (L:List En) (k:Nat),(ixN name L k= -1∧L.filter (Yn name)=L)∨∃ i,i<L.length∧ixN name L k=((k+i:Nat):Int)∧(L.take (i+1)).filter (Yn name)=L.take i
 | [],k=> .inl ⟨rfl,rfl⟩
 | e :: r, k => by
   by_cases he:e.name=name
   · refine .inr ⟨0, by simp, ?_, ?_⟩
     · simp [ixN,he]
     · simp [Yn,he]
   · rcases Zfa name r (k + 1) with ⟨h1, h2⟩ | ⟨i, h1, h2, h3⟩
     · refine .inl ⟨?_, ?_⟩
       · simp only [ixN,decide_eq_true_eq,if_neg he,h1]
       · rw [List.filter_cons,if_pos (by simp [Yn,he]),h2]
     · refine .inr ⟨i + 1, by simp only [List.length_cons]; omega, ?_, ?_⟩
       · simp only [ixN, decide_eq_true_eq, if_neg he, h2]
         omega
       · rw [List.take_succ_cons,List.filter_cons,if_pos (by simp [Yn,he]),h3,List.take_succ_cons]
theorem ZmR {id:Nat} (hb:nth H.bx id=some (.cells 6 (enC L))) (hj:L[j]? = some e):YH E7 60 (.ptr id 6 j 0) H=some (.agg e.cells):=by
 obtain ⟨nm,⟨k,m,s,b,kids⟩,i⟩:=e
 exact Zah rfl rfl hb ((Zy _ _).trans (Wq hj)) rfl
theorem Zh2 {id ix len:Nat} (hj:j<len):Zo E7 25 (.own id 6 ix len) (.int .i64 (j:Int))=some (.ptr id 6 (ix+j) 0):=Zfk rfl rfl rfl rfl hj
theorem ZlE (L:List En) (j:Nat) (e:En):(enC L).set j e.cells=enC (L.set j e):=by
 simp only [enC,List.map_set]
theorem ZoF {id:Nat} {u:En} (hb:nth H.bx id=some (.cells 6 (enC L))) (hj:L[j]? = some u) (hro:H.ro≤id):H.wr (.ptr id 6 j 0) e.cells=some {H with bx:=H.bx.set id (.cells 6 (enC (L.set j e)))}:=by
 obtain ⟨nm,⟨k,m,s,b,kids⟩,i⟩:=e
 obtain ⟨nm',⟨k',m',s',b',kids'⟩,i'⟩:=u
 rw [ZfN hb ((Zy _ _).trans (Wq hj)) (by simp [En.cells,Tm.cells]) hro]
 rw [← ZlE]
 simp [En.cells,Tm.cells]
theorem ixE (hK:∀ n,YF n K=true) (hlen:L.length≤1000) (name:Bs):CallOk E7 Tryz.prog 94 [.own 2 6 0 L.length,.fn 136 [.ptr 1 1 0 0]] ⟨[K,Yd name,.cells 6 (enC L)],0,[],0⟩ (.int .i64 (ixN name L 0)) ⟨[K,Yd name,.cells 6 (enC L)],0,[],0⟩:=by
 suffices h:∃ r H',CallOk E7 Tryz.prog 94 [.own 2 6 0 L.length,.fn 136 [.ptr 1 1 0 0]] ⟨[K,Yd name,.cells 6 (enC L)],0,[],0⟩ r H'∧(r= .int .i64 (ixN name L 0)∧H'=⟨[K,Yd name,.cells 6 (enC L)],0,[],0⟩) by
  obtain ⟨r,H',h1,rfl,rfl⟩:=h
  exact h1
 refine Z9 (own:=fun _=>false) VS fe94.ok ?_
 refine Wp.seq ?_
 repeat' first|refine Jo ?_|fail
 refine Wp.while (fun m tm H=>∃ (i:Nat) (base:TM),i+m=L.length∧ixN name L 0=ixN name (L.drop i) i∧tm=ovr base [(0,.own 2 6 0 L.length),(1,.fn 136 [.ptr 1 1 0 0]),(7,.int .i64 (L.length:Int)),(8,.int .i64 (i:Int))]∧H=⟨[K,Yd name,.cells 6 (enC L)],0,[],0⟩)
  (fun m tm H hI=>?_) L.length _ _ ⟨0,_,by omega,by simp,Zh ⟨rfl,rfl,rfl,rfl,trivial⟩,rfl⟩
 obtain ⟨i,base,hi,hgo,rfl,rfl⟩:=hI
 by_cases hlt:i<L.length
 · obtain ⟨e, he⟩ : ∃ e, L[i]? = some e := ⟨L[i], by simp⟩
   have hlx:ZQ E7 .lss 3 (.int .i64 (i:Int)) (.int .i64 (L.length:Int))=some (.bool true):=Wa (by omega)
   have hia:=Zh2 (id:=2) (ix:=0) hlt
   have hld:YH E7 60 (.ptr 2 6 (0+i) 0) ⟨[K,Yd name,.cells 6 (enC L)],0,[],0⟩=some (.agg e.cells):=by rw [Nat.zero_add];exact ZmR rfl he
   have hc:=Zme hK name e [.cells 6 (enC L)]
   rw [Zer he] at hgo
   generalize decide (e.name=name)=D at hc hgo
   cases D with
   | true =>
     rw [if_pos rfl] at hgo
     repeat' first|refine Jc hc ?_|refine Ji ?_|refine JJ ?_|(apply qLd;rfl;rfl;rfl;assumption;exact IsV.any _)|refine Jo ?_|fail
     all_goals exact RetR.ret rfl ⟨by rw [hgo];rfl,rfl⟩
   | false =>
     rw [if_neg (by simp)] at hgo
     repeat' first|refine Jc hc ?_|refine Ji ?_|refine JJ ?_|(apply qLd;rfl;rfl;rfl;assumption;exact IsV.any _)|refine Jo ?_|fail
     exact LoopI.go (m-1) (by omega) ⟨i+1,_,by omega,hgo,Zh ⟨rfl,rfl,rfl,Zi (Zf (n:=i+1) (by omega)),trivial⟩,rfl⟩
 · have e : i = L.length := by omega
   subst e
   have hlx:ZQ E7 .lss 3 (.int .i64 (L.length:Int)) (.int .i64 (L.length:Int))=some (.bool false):=Xe (by omega)
   rw [List.drop_length] at hgo
   repeat' first|refine Ji ?_|refine Jo ?_|fail
   all_goals exact RetR.ret rfl ⟨by rw [hgo];rfl,rfl⟩
def Zsz (K:Box) (name:Bs) (L:List En) (r:PV) (H:Heap):Prop:=∃ D,r= .own 2 6 0 (L.filter (Yn name)).length∧H=⟨[K,Yd name,.cells 6 (enC (L.filter (Yn name))++D)],0,[],0⟩
theorem Zkk {id:Nat} (h:k≤n):ZW E7 25 (.own id 6 0 n) (some (.int .i64 (k:Int))) none none=some (.own id 6 (0+k) (n-k)):=by
 obtain ⟨ti,e,et⟩:∃ ti,E7.T 25=some ti∧ti.tk= .slice 60:=⟨_,rfl,rfl⟩
 obtain ⟨ei,e2,e3⟩:∃ ei,E7.T 60=some ei∧ei.size=6:=⟨_,rfl,rfl⟩
 have hn:nat? (.int .i64 (k:Int))=some k:=by simp [nat?]
 simp only [ZW,e,et,e2,e3,if_true,Y3,hn,if_pos h]
theorem ZmJ {id:Nat} (h:k≤n):ZW E7 25 (.own id 6 0 n) none (some (.int .i64 (k:Int))) none=some (.own id 6 0 k):=by
 obtain ⟨ti,e,et⟩:∃ ti,E7.T 25=some ti∧ti.tk= .slice 60:=⟨_,rfl,rfl⟩
 obtain ⟨ei,e2,e3⟩:∃ ei,E7.T 60=some ei∧ei.size=6:=⟨_,rfl,rfl⟩
 have hn:nat? (.int .i64 (k:Int))=some k:=by simp [nat?]
 simp only [ZW,e,et,e2,e3,if_true,Y3,hn,if_pos h,Nat.sub_zero]
theorem Zc9 (h:L[j]? = some e):L.take (j+1)=L.take j++ [e]:=by
 rw [List.take_add_one,h]
 rfl
theorem Zs9 (hK:∀ n,YF n K=true) (hlen:L.length≤1000) (name:Bs):∃ r H',CallOk E7 Tryz.prog 134 [.own 2 6 0 L.length,.fn 136 [.ptr 1 1 0 0]] ⟨[K,Yd name,.cells 6 (enC L)],0,[],0⟩ r H'∧Zsz K name L r H':=by
 have hix:=ixE hK hlen name
 refine Z9 (own:=fun _=>false) VS fe134.ok ?_
 refine Wp.seq ?_
 rcases Zfa name L 0 with ⟨h1,h2⟩|⟨i0,h1,h2,h3⟩
 · rw [h1] at hix
   have hb0:ZQ E7 .eql 3 (.int .i64 (-1)) (.int .i64 (-1))=some (.bool true):=rfl
   repeat' first|refine Jc hix ?_|refine Ji ?_|refine Jo ?_|fail
   all_goals exact RetR.ret rfl ⟨[],by rw [h2];rfl,by rw [h2];simp only [List.append_nil]⟩
 · rw [h2] at hix
   have hb0:ZQ E7 .eql 3 (.int .i64 ((0+i0:Nat):Int)) (.int .i64 (-1))=some (.bool false):=Zpd (by omega)
   repeat' first|refine Jc hix ?_|refine Ji ?_|refine Jo ?_|fail
   refine Wp.while (fun m tm H => ∃ (i j : Nat) (Y : List En) (base : TM), j + m = L.length ∧ i < j ∧ Y.length = L.length ∧ Y.take i = (L.take j).filter (Yn name) ∧ (∀ k, j ≤ k → Y[k]? = L[k]?) ∧
     tm=ovr base [(0,.own 2 6 0 L.length),(1,.fn 136 [.ptr 1 1 0 0]),(5,.int .i64 (i:Int)),(6,.int .i64 (j:Int))]∧H=⟨[K,Yd name,.cells 6 (enC Y)],0,[],0⟩)
    (fun m tm H hI=>Wp.drop ?_) (L.length-(i0+1)) _ _ ⟨i0,i0+1,L,_,by omega,by omega,rfl,h3.symm,fun _ _=>rfl,Zh ⟨rfl,rfl,Zi (by omega),Zi (by rw [show ((0+i0:Nat):Int)=(i0:Int) by omega];exact Zf (n:=i0+1) (by omega)),trivial⟩,rfl⟩
   clear hix hb0
   obtain ⟨i,j,Y,base,hi,hij,hY,hF,hD,rfl,rfl⟩:=hI
   have hnb:nth [K,Yd name,.cells 6 (enC Y)] 2=some (.cells 6 (enC Y)):=rfl
   by_cases hlt:j<L.length
   · obtain ⟨e, he⟩ : ∃ e, L[j]? = some e := ⟨L[j], by simp⟩
     have heY:Y[j]? = some e:=by rw [hD j (Nat.le_refl _),he]
     obtain ⟨u,hu⟩:∃ u,Y[i]? = some u:=⟨Y[i]'(by omega),by simp⟩
     have hlx:ZQ E7 .lss 3 (.int .i64 (j:Int)) (.int .i64 (L.length:Int))=some (.bool true):=Wa (by omega)
     have hia:=Zh2 (id:=2) (ix:=0) hlt
     have hia2:=Zh2 (id:=2) (ix:=0) (len:=L.length) (j:=i) (by omega)
     have hld:YH E7 60 (.ptr 2 6 (0+j) 0) ⟨[K,Yd name,.cells 6 (enC Y)],0,[],0⟩=some (.agg e.cells):=by rw [Nat.zero_add];exact ZmR hnb heY
     have hst:Heap.wr ⟨[K,Yd name,.cells 6 (enC Y),.cells 6 [e.cells]],0,[],0⟩ (.ptr 2 6 (0+i) 0) e.cells=some ⟨[K,Yd name,.cells 6 (enC (Y.set i e)),.cells 6 [e.cells]],0,[],0⟩:=by
      rw [Nat.zero_add,ZoF (L:=Y) rfl hu (Nat.zero_le _)]
      rfl
     have hc:=Zme hK name e [.cells 6 (enC Y),.cells 6 [e.cells]]
     have hsn:(L.take (j+1)).filter (Yn name)=(L.take j).filter (Yn name)++if decide (e.name=name)=true then [] else [e]:=by
      rw [Zc9 he,List.filter_append]
      congr 1
      by_cases q:e.name=name<;>simp [Yn,q]
     generalize decide (e.name=name)=D at hc hsn
     cases D with
     | true =>
       simp only [if_true,List.append_nil] at hsn
       obtain ⟨nm,⟨k',m',s',b',kids'⟩,x⟩:=e
       simp only [En.cells,Tm.cells,List.cons_append,List.nil_append] at hc hld
       repeat' first|refine Jc hc ?_|refine Ji ?_|refine JJ ?_|(apply qLd;rfl;rfl;rfl;assumption;exact IsV.any _)|refine Jt ?_|refine Jo ?_|fail
       exact DropQ.go [(0,.own 2 6 0 L.length),(1,.fn 136 [.ptr 1 1 0 0]),(5,.int .i64 (i:Int)),(6,.int .i64 ((j+1:Nat):Int))] ⟨rfl,rfl,rfl,Zi (Zf (n:=j+1) (by omega)),trivial⟩ rfl rfl (Zkm hK _ _ _) (LoopI.go (m-1) (by omega) ⟨i,j+1,Y,_,by omega,by omega,hY,by rw [hsn];exact hF,fun k hk=>hD k (by omega),rfl,rfl⟩)
     | false =>
       simp only [Bool.false_eq_true,if_false] at hsn
       have hF':(Y.set i e).take (i+1)=(L.take (j+1)).filter (Yn name):=by
        rw [hsn, ← hF,Zc9 (e:=e) (by rw [List.getElem?_set];simp;omega),List.take_set_of_le (by omega)]
       have hD':∀ k,j+1≤k→(Y.set i e)[k]? = L[k]? :=fun k hk=>by
        rw [List.getElem?_set_ne (by omega)]
        exact hD k (by omega)
       have hY':(Y.set i e).length=L.length:=by rw [List.length_set,hY]
       generalize Y.set i e=Y' at hst hF' hD' hY'
       obtain ⟨nm,⟨k',m',s',b',kids'⟩,x⟩:=e
       simp only [En.cells,Tm.cells,List.cons_append,List.nil_append] at hc hld hst
       repeat' first|refine Jc hc ?_|refine Ji ?_|refine JJ ?_|(apply qLd;rfl;rfl;rfl;assumption;exact IsV.any _)|refine Jt ?_|refine Jo ?_|fail
       exact DropQ.go [(0,.own 2 6 0 L.length),(1,.fn 136 [.ptr 1 1 0 0]),(5,.int .i64 ((i+1:Nat):Int)),(6,.int .i64 ((j+1:Nat):Int))] ⟨rfl,rfl,Zi (Zf (n:=i+1) (by omega)),Zi (Zf (n:=j+1) (by omega)),trivial⟩ rfl rfl (Zkm hK _ _ _) (LoopI.go (m-1) (by omega) ⟨i+1,j+1,Y',_,by omega,by omega,hY',hF',hD',rfl,rfl⟩)
   · have e : j = L.length := by omega
     subst e
     have hlx:ZQ E7 .lss 3 (.int .i64 (L.length:Int)) (.int .i64 (L.length:Int))=some (.bool false):=Xe (by omega)
     have hs1:=Zkk (id:=2) (k:=i) (n:=L.length) (by omega)
     have hs2:=ZmJ (id:=2) (k:=i) (n:=L.length) (by omega)
     rw [List.take_length] at hF
     have hclr:∃ D,Qc E7 25 (.own 2 6 (0+i) (L.length-i)) ⟨[K,Yd name,.cells 6 (enC Y)],0,[],0⟩=some (.tup [],⟨[K,Yd name,.cells 6 (enC (L.filter (Yn name))++D)],0,[],0⟩):=by
      have h:=Zfi (E:=E7) (t:=25) (e:=60) (es:=6) (el:=enC Y) (ix:=0+i) (len:=L.length-i) (H:=⟨[K,Yd name,.cells 6 (enC Y)],0,[],0⟩) rfl rfl rfl rfl rfl (by decide) rfl hnb (Nat.zero_le _) (by rw [Yh];omega)
      have e:(enC Y).take (0+i)=enC (L.filter (Yn name)):=by
       rw [Nat.zero_add, ← hF]
       simp only [enC,List.map_take]
      rw [e] at h
      exact ⟨_,h⟩
     obtain ⟨D,hclr⟩:=hclr
     have hll:(L.filter (Yn name)).length=i:=by rw [← hF,List.length_take];omega
     repeat' first|refine JS ?_|refine Ji ?_|(apply Zqd;rfl;rfl;assumption)|refine Jo ?_|fail
     all_goals exact RetR.ret rfl ⟨D,by rw [hll];rfl,rfl⟩
end Go.Vm.Seat
namespace Go.Vm
theorem ZpE {E : Env} {P : Program} {own : Tmp → Bool} {n : Nat} {K : TM → Heap → Prop} {tm : TM} {H : Heap} {all r : List Oper} {d : Nat} {ty : TypeId} {pos : String} {aft : Array Edge} {grd : Option (Nat × Bool)} {t u : TypeId} {x y : Operand} {X Y p : PV} {H1 : Heap}
  (hw:Ze all tm ⟨some d,.call {callee:= .builtin .append,args:= #[x,y],argTypes:= #[t,u]},ty,pos,aft,grd⟩=some true) (hn:Nat.blt d n=true) (ho:own d=true) (hx:Zg E tm x=X) (hy:Zg E tm y=Y) (h:Z2 E t u X Y H=some (p,H1))
  (hr:RegQ E P own n all r K (ZY tm (some d) p) H1):RegQ E P own n all (⟨some d,.call {callee:= .builtin .append,args:= #[x,y],argTypes:= #[t,u]},ty,pos,aft,grd⟩::r) K tm H:=
 .op (p:=p) hw (by simp only [X7,hn]) (by simp [aOp,Yp,ho,hx,hy,h]) hr
end Go.Vm
namespace Go.Vm.Seat
variable {L:List En} {K:Box}
open Go.Proofs
theorem Zph (hL:L≠ []) (hl:L.length≤1000) (b:Bool) (H:Heap):Z2 E7 25 25 (.sl .full 6 []) (slV b 6 (enC L)) H=some (.own H.bx.length 6 0 L.length,H.push (.cells 6 (enC L))):=by
 have hx:ElV 6 (slV b 6 (enC L)) (enC L):= .slV b 6 _
 have hT:ApT E7 25 25 6 80:=⟨_,_,_,_,_,rfl,rfl,rfl,rfl,rfl,rfl,rfl,by decide,rfl⟩
 have hf:WG ([]:List (List PV)).length (enC L).length 80=true:=ZU (by simp only [Yh,List.length_nil];omega) (by decide)
 have h1:=YX hT hx (Zat L) (s:= .sl .full 6 []) rfl rfl H
 have hn:=Yh L
 cases hE:enC L with
 |nil=>rw [hE] at hn;exact absurd (List.length_eq_zero_iff.1 hn.symm) hL
 | cons y yr =>
   rw [hE] at hn hf h1
   simp only [Z2,h1,Xb,List.nil_append]
   rw [if_pos hf]
   simp only [List.length_nil,Nat.zero_add]
   rw [hn]
theorem Zmr (hL:L≠ []) (b:Bool):ZQ E7 .eql 25 (slV b 6 (enC L)) .nils=some (.bool false):=by
 cases L with
 |nil=>exact absurd rfl hL
 |cons a r=>simp only [enC,List.map_cons,Zw];rfl
theorem Zm3 (hL:L≠ []) (hl:L.length≤1000) (b:Bool) (name:Bs):∃ r H',CallOk E7 Tryz.prog 135 [slV b 6 (enC L)] ⟨[K,Yd name],0,[],0⟩ r H'∧(r= .own 2 6 0 L.length∧H'=⟨[K,Yd name,.cells 6 (enC L)],0,[],0⟩):=by
 have hne:=Zmr hL b
 have hap:=Zph hL hl b ⟨[K,Yd name],0,[],0⟩
 refine Z9 (own:=fun d=>Nat.beq d 7) VS fe135.ok ?_
 refine Wp.seq ?_
 repeat' first|refine Js ?_|refine Ji ?_|refine Jo ?_|fail
 refine ZpE rfl rfl rfl rfl rfl hap ?_
 repeat' first|refine Jo ?_|fail
 all_goals exact RetR.ret rfl ⟨rfl,rfl⟩
def ZsD (K:Box) (M:List En) (r:PV) (H:Heap):Prop:=∃ A D,r= .own 2 6 0 M.length∧(∀ n,YF n A=true)∧H=⟨[K,A,.cells 6 (enC M++D)],0,[],0⟩
theorem Zqt (hK:∀ n,YF n K=true) (hL:L≠ []) (hl:L.length≤1000) (b:Bool) (name:Bs):∃ r H',CallOk E7 Tryz.prog 85 [slV b 6 (enC L),.str name] ⟨[K],0,[],0⟩ r H'∧ZsD K (L.filter (Yn name)) r H':=by
 obtain ⟨r1,H1,hcl,rfl,rfl⟩:=Zm3 (K:=K) hL hl b name
 obtain ⟨r2,H2,hde,D,rfl,rfl⟩:=Zs9 hK hl name
 refine Z9 (own:=fun _=>false) VS fe85.ok ?_
 refine Wp.seq ?_
 unfold Yd at hcl hde
 repeat' first|refine Jc hcl ?_|refine Jc hde ?_|refine Jo ?_|fail
 all_goals exact RetR.ret rfl ⟨_,D,rfl,fun n=>rfl,rfl⟩
open Go.Proofs
theorem Zrh (name:Bs) (e:En):CallOk E7 Tryz.prog 95 [.agg e.cells,.ptr 0 1 0 0] ⟨[Yd name],0,[],0⟩ (.bool (decide (e.name=name))) ⟨[Yd name],0,[],0⟩:=by
 have he:=ZmL e.name name
 refine ZmW ?_ rfl rfl
 obtain ⟨nm,⟨k,m,s,b,kids⟩,i⟩:=e
 simp only [En.cells,Tm.cells,List.cons_append,List.nil_append] at he ⊢
 generalize decide (nm=name)=D at he ⊢
 unfold Yd
 refine Z9 (own:=fun _=>false) VS fe95.ok ?_
 refine Wp.seq ?_
 repeat' first|refine Ji ?_|refine Jt ?_|refine Jo ?_|fail
 all_goals exact RetR.ret rfl ⟨rfl,_,rfl⟩
theorem Zo8 (name:Bs) (e:En) (ext:List Box):CallOk E7 Tryz.prog 95 [.agg e.cells,.ptr 0 1 0 0] ⟨Yd name::ext,0,[],0⟩ (.bool (decide (e.name=name))) ⟨Yd name::ext,0,[],0⟩:=
 (Zrh name e).ext (ext := ext) rfl (by
   have h:ZP 1 e.cells=true:=ZbL 1 e
   show (ZP 1 e.cells&&(Nat.blt 0 1&&true))=true
   rw [h]
   rfl) rfl (Nat.zero_le _)
def Z0 (name:Bs) (L:List En):Option En:=L.find? fun e=>decide (e.name=name)
theorem ZfB (name:Bs):∀ (L:List En) (k:Nat),(ixN name L k= -1∧Z0 name L=none)∨∃ i e,ixN name L k=((k+i:Nat):Int)∧L[i]? = some e∧Z0 name L=some e
 | [],k=> .inl ⟨rfl,rfl⟩
 | e :: r, k => by
   by_cases he:e.name=name
   · exact .inr ⟨0,e,by simp [ixN,he],rfl,by simp [Z0,he]⟩
   · rcases ZfB name r (k + 1) with ⟨h1, h2⟩ | ⟨i, u, h1, h2, h3⟩
     · refine .inl ⟨by simp only [ixN, decide_eq_true_eq, if_neg he, h1], ?_⟩
       rw [Z0,List.find?_cons_of_neg (by simpa using he)]
       exact h2
     · refine .inr ⟨i + 1, u, ?_, by simpa using h2, ?_⟩
       · simp only [ixN, decide_eq_true_eq, if_neg he, h1]
         omega
       · rw [Z0, List.find?_cons_of_neg (by simpa using he)]
         exact h3
theorem ixF (hlen:L.length≤1000) (b:Bool) (name:Bs) (B:Box):CallOk E7 Tryz.prog 94 [slV b 6 (enC L),.fn 95 [.ptr 0 1 0 0]] ⟨[Yd name,B],0,[],0⟩ (.int .i64 (ixN name L 0)) ⟨[Yd name,B],0,[],0⟩:=by
 suffices h:∃ r H',CallOk E7 Tryz.prog 94 [slV b 6 (enC L),.fn 95 [.ptr 0 1 0 0]] ⟨[Yd name,B],0,[],0⟩ r H'∧(r= .int .i64 (ixN name L 0)∧H'=⟨[Yd name,B],0,[],0⟩) by
  obtain ⟨r,H',h1,rfl,rfl⟩:=h
  exact h1
 refine Z9 (own:=fun _=>false) VS fe94.ok ?_
 refine Wp.seq ?_
 repeat' first|refine Jl ?_|refine Jo ?_|fail
 refine Wp.while (fun m tm H=>∃ (i:Nat) (base:TM),i+m=L.length∧ixN name L 0=ixN name (L.drop i) i∧tm=ovr base [(0,slV b 6 (enC L)),(1,.fn 95 [.ptr 0 1 0 0]),(7,.int .i64 (L.length:Int)),(8,.int .i64 (i:Int))]∧H=⟨[Yd name,B],0,[],0⟩)
  (fun m tm H hI=>?_) L.length _ _ ⟨0,_,by omega,by simp,Zh ⟨rfl,rfl,Zi (by rw [Yh]),rfl,trivial⟩,rfl⟩
 obtain ⟨i,base,hi,hgo,rfl,rfl⟩:=hI
 by_cases hlt:i<L.length
 · obtain ⟨e, he⟩ : ∃ e, L[i]? = some e := ⟨L[i], by simp⟩
   have hlx:ZQ E7 .lss 3 (.int .i64 (i:Int)) (.int .i64 (L.length:Int))=some (.bool true):=Wa (by omega)
   have hj:=Wq he
   have hc:=Zo8 name e [B]
   rw [Zer he] at hgo
   generalize decide (e.name=name)=D at hc hgo
   obtain ⟨nm,⟨k',m',s',b',kids'⟩,x⟩:=e
   simp only [En.cells,Tm.cells,List.cons_append,List.nil_append] at hc hj
   cases D with
   | true =>
     rw [if_pos rfl] at hgo
     repeat' first|refine Jc hc ?_|refine Ji ?_|refine Jx ?_|refine Jo ?_|fail
     all_goals exact RetR.ret rfl ⟨by rw [hgo];rfl,rfl⟩
   | false =>
     rw [if_neg (by simp)] at hgo
     repeat' first|refine Jc hc ?_|refine Ji ?_|refine Jx ?_|refine Jo ?_|fail
     exact LoopI.go (m-1) (by omega) ⟨i+1,_,by omega,hgo,Zh ⟨rfl,rfl,rfl,Zi (Zf (n:=i+1) (by omega)),trivial⟩,rfl⟩
 · have e : i = L.length := by omega
   subst e
   have hlx:ZQ E7 .lss 3 (.int .i64 (L.length:Int)) (.int .i64 (L.length:Int))=some (.bool false):=Xe (by omega)
   rw [List.drop_length] at hgo
   repeat' first|refine Ji ?_|refine Jo ?_|fail
   all_goals exact RetR.ret rfl ⟨by rw [hgo];rfl,rfl⟩
def enZero:En:=⟨[],.zero,0⟩
theorem Vf:enZero.cells= [.str [],.int .i64 0,.str [],.int .i64 0,.nils,.int .i64 0]:=by
 simp only [enZero,En.cells,Zq]
 rfl
theorem ZeS (m:Nat) (H:Heap) (e:En) (b:Bool):frz3 m H (.tup [.agg e.cells,.bool b])=some (.tup [.agg e.cells,.bool b]):=by
 obtain ⟨nm,⟨k,mm,s,tb,kids⟩,i⟩:=e
 have h1:frz3 m H (.agg (En.mk nm (.mk k mm s tb kids) i).cells)=some (.agg (En.mk nm (.mk k mm s tb kids) i).cells):=by
  rw [Wf]
  simp only [En.cells,Tm.cells,List.cons_append,List.nil_append,Ul,UH]
  rfl
 have h:frz2 m H (.agg (En.mk nm (.mk k mm s tb kids) i).cells)=some (.agg (En.mk nm (.mk k mm s tb kids) i).cells):=h1
 show (match YL m H [.agg (En.mk nm (.mk k mm s tb kids) i).cells,.bool b] with|some vs'=>some (PV.tup vs')|none=>none)=_
 simp only [YL,h]
 rfl
theorem c50 (hlen:L.length≤1000) (b:Bool) (name:Bs):∀ H,CallOk E0 Tryz.prog 50 [slV b 6 (enC L),.str name] H (.tup [.agg ((Z0 name L).getD enZero).cells,.bool (Z0 name L).isSome]) H:=by
 have hix:=ixF hlen b name (.cells 6 [enZero.cells])
 have hfr:=ZeS 0 hNil ((Z0 name L).getD enZero) (Z0 name L).isSome
 rw [Vf] at hix
 unfold Yd at hix
 rcases ZfB name L 0 with ⟨h1,h2⟩|⟨i,e,h1,h2,h3⟩
 · rw [h1] at hix
   rw [h2] at hfr ⊢
   simp only [Option.getD_none,Option.isSome_none,Vf] at hfr ⊢
   refine Zh8 ?_
   refine Jw VS fe50.ok hfr ?_
   have b0:ZQ E7 .lss 3 (.int .i64 (-1)) (.int .i64 0)=some (.bool true):=rfl
   repeat' first|refine Jc hix ?_|refine Ji ?_|refine Jt ?_|refine Jo ?_|fail
   all_goals rfl
 · rw [h1, Nat.zero_add] at hix
   rw [h3] at hfr ⊢
   simp only [Option.getD_some,Option.isSome_some] at hfr ⊢
   have hft:=fun m H=>ZeS m H e true
   have hj:=Wq h2
   have b0:ZQ E7 .lss 3 (.int .i64 (i:Int)) (.int .i64 0)=some (.bool false):=Xe (by omega)
   obtain ⟨nm,⟨k',m',s',b',kids'⟩,x⟩:=e
   simp only [En.cells,Tm.cells,List.cons_append,List.nil_append] at hfr hft hj ⊢
   refine Zh8 ?_
   refine Jw VS fe50.ok hfr ?_
   repeat' first|refine Jc hix ?_|refine Ji ?_|refine Jx ?_|refine Jt ?_|refine Jo ?_|fail
   all_goals exact hft _ _
end Go.Vm.Seat
