/-
  Small functions of powers and of the theory: which symbol stands above a term, w
-/
import Derived.Test.YtcopccjkfbmpcaaGreatDoorVw
set_option maxHeartbeats 0
set_option maxRecDepth 100000
namespace Go.Vm.Seat
variable {rest:List Box} {v:PV} {L:List Tm} {kk:Int} {j k n:Nat} {t u:Tm} {H:Heap}
open Go.Proofs
theorem Gth.lt (h:Gth rest v L) {i:Nat} (hi:rest.length≤i):∀ n,v≠ .own (i+3) 4 0 n:=by
 cases h with
 |nil=>intro n hn;cases hn
 | own o L hb hL =>
   intro n hn
   have h1:=ZB hb
   have:o+3=i+3:=(PV.own.inj hn).1
   omega
theorem Gth.app (h:Gth rest v L) (l:List Box):Gth (rest++l) v L:=by
 cases h with
 |nil=>exact .nil
 |own o L hb hL=>exact .own o L (by rw [List.getElem?_append_left (ZB hb)];exact hb) hL
theorem Fra.app (rest:List Box) (v:PV) (l:List Box):Fra rest v (rest++l) v:=
 ⟨by simp,fun i b hb hv=>⟨by rw [List.getElem?_append_left (ZB hb)];exact hb,hv⟩⟩
theorem Zl4 {k:Int} {nm:List UInt8} {s:Int} {b:Bool} {kz:List Tm}:V4 kk (Tm.mk k nm s b kz).all=(if (Tm.mk k nm s b kz).knd=kk then [Tm.mk k nm s b kz] else [])++V4 kk (Vj kz):=by
 simp only [Tm.all,V4,List.filter_cons]
 by_cases c:(Tm.mk k nm s b kz).knd=kk<;>simp [c]
theorem ZlQ {l l':List Tm}:V4 kk (l++l')=V4 kk l++V4 kk l':=List.filter_append _ _
theorem Zos (kk : Int) (A : Box) (ht : t.Ok) : ∀ {rest : List Box} {v : PV} {L : List Tm}, Gth rest v L → L.length + t.size ≤ 100000 →
  ∃ H',CallOk E0 Tryz.prog 189 [.agg t.cells,.fn 190 [.ptr 1 1 0 0,.ptr 2 1 0 0]] (Wh kk A v rest) (.tup []) H'∧Zp7 kk A (L++V4 kk t.all) rest v H':=by
 induction ht with
 | @mk k nm s b kz hk hs hn hl hok ih=>
 intro rest v L hG hsz
 simp only [Tm.size] at hsz
 have hGt:=hG.lt (Nat.le_refl _)
 obtain ⟨H1,hc,v1,rest1,rfl,hG1,hF1⟩:=Zst (x:=Tm.mk k nm s b kz) kk A (hG.app [Box.cells 4 [[.int .i64 k,.str nm,.int .i64 s,slV b 4 (Za kz)]]]) (by omega)
 have hTB:=(hF1.bx rest.length (.cells 4 [[.int .i64 k,.str nm,.int .i64 s,slV b 4 (Za kz)]]) (by simp) hGt).1
 unfold Wh at hc ⊢
 refine ZbI (own:=fun _=>false) tOk fe189.ok ?_
 refine Wp.seq ?_
 have hl7:Z4 E0 48 (.ptr (rest.length+3) 4 0 0) ⟨A:: .cells 1 [[.int .i64 kk]]:: .cells 1 [[v]]::(rest++ [Box.cells 4 [[.int .i64 k,.str nm,.int .i64 s,slV b 4 (Za kz)]]]),0,[],0⟩=some (.agg [.int .i64 k,.str nm,.int .i64 s,slV b 4 (Za kz)]):=
  U8 rfl rfl (Vy _ _ _ _ _) rfl rfl
 have hl10:Z4 E0 29 (.ptr (rest.length+3) 4 0 3) ⟨A:: .cells 1 [[.int .i64 kk]]:: .cells 1 [[v1]]::rest1,0,[],0⟩=some (slV b 4 (Za kz)):=
  ZgS rfl rfl ((ZdV _ _ _ _ _).trans hTB) rfl rfl
 repeat' first|refine Jc hc ?_|(apply qLd;rfl;rfl;rfl;assumption;exact IsV.any _)|refine Jl ?_|refine Jo ?_|fail
 rw [show (Tm.mk k nm s b kz).knd=k from rfl] at hG1
 refine Wp.while (fun m tm H => ∃ (i : Nat) (base : TM) (v' : PV) (rest' : List Box), i + m = kz.length ∧ Gth rest' v' (L ++ ((if k = kk then [Tm.mk k nm s b kz] else []) ++ V4 kk (Vj (kz.take i)))) ∧ Fra rest v rest' v' ∧
   tm=ovr base [(1,.fn 190 [.ptr 1 1 0 0,.ptr 2 1 0 0]),(10,slV b 4 (Za kz)),(11,.int .i64 (kz.length:Int)),(12,.int .i64 (i:Int))]∧H=⟨A:: .cells 1 [[.int .i64 kk]]:: .cells 1 [[v']]::rest',0,[],0⟩)
  (fun m tm H hI=>?_) kz.length _ _ ⟨0,_,v1,rest1,by omega,by simpa [Vj,V4] using hG1,(Fra.app rest v _).trans hF1,Zf ⟨rfl,rfl,Ze (by rw [Zb]),rfl,trivial⟩,rfl⟩
 clear hl7 hl10 hG1 hF1 hTB hc
 obtain ⟨i,base,v',rest',hi,hG',hF',rfl,rfl⟩:=hI
 unfold maxLen at hl
 by_cases hlt:i<kz.length
 · obtain ⟨t', ht'⟩ : ∃ t', kz[i]? = some t' := ⟨kz[i], by simp⟩
   have hm:t'∈kz:=List.mem_of_getElem? ht'
   have hs2:=ZdX ht'
   have hst:=Wz ht'
   have hsl:=ZL kz (i+1)
   have hlen1:(V4 kk (Vj (kz.take i))).length≤Zl (kz.take i):=by rw [← U0];exact Zab _ _
   have hlen2:(if k=kk then [Tm.mk k nm s b kz] else []).length≤1:=by split<;>simp
   have hj0:=ht'
   obtain ⟨k',nm',s',b',kz'⟩:=t'
   have hj:=Zk ht'
   obtain ⟨H1,hc,v2,rest2,rfl,hG2,hF2⟩:=ih _ hm (hG'.app [Box.cells 4 [[.int .i64 k',.str nm',.int .i64 s',slV b' 4 (Za kz')]]]) (by simp only [List.length_append];omega)
   unfold Wh at hc
   have hwr : Heap.wr ⟨A :: .cells 1 [[.int .i64 kk]] :: .cells 1 [[v']] :: (rest' ++ [Box.cells 4 [Zc]]), 0, [], 0⟩ (.ptr (rest'.length + 3) 4 0 0) [.int .i64 k', .str nm', .int .i64 s', slV b' 4 (Za kz')] =
     some ⟨A:: .cells 1 [[.int .i64 kk]]:: .cells 1 [[v']]::(rest'++ [Box.cells 4 [[.int .i64 k',.str nm',.int .i64 s',slV b' 4 (Za kz')]]]),0,[],0⟩:=by
    rw [Zc9 (es:=4) (el:=[Zc]) (old:=Zc) (Vy _ _ _ _ _) rfl (by simp) (Nat.zero_le _)]
    simp
   have hl16:Z4 E0 48 (.ptr (rest'.length+3) 4 0 0) ⟨A:: .cells 1 [[.int .i64 kk]]:: .cells 1 [[v']]::(rest'++ [Box.cells 4 [[.int .i64 k',.str nm',.int .i64 s',slV b' 4 (Za kz')]]]),0,[],0⟩=some (.agg [.int .i64 k',.str nm',.int .i64 s',slV b' 4 (Za kz')]):=
    U8 rfl rfl (Vy _ _ _ _ _) rfl rfl
   repeat' first|refine Jc hc ?_|(apply qLd;rfl;rfl;rfl;assumption;exact IsV.any _)|refine Jx ?_|refine Jz ?_ ?_|refine Jo ?_|intro hb
   · refine LoopI.go (m - 1) (by omega) ⟨i + 1, _, v2, rest2, by omega, ?_, (hF'.trans (Fra.app rest' v' _)).trans hF2, Zf ⟨rfl, rfl, rfl, Ze (Zd (n := i + 1) (by omega)), trivial⟩, rfl⟩
     rw [hs2,ZlQ]
     simpa only [List.append_assoc] using hG2
   · exfalso;simp at hb;omega
 · have e : i = kz.length := by omega
   subst e
   rw [List.take_length] at hG'
   repeat' first|refine Jz ?_ ?_|refine Jo ?_|intro hb
   · exfalso;simp at hb
   · exact RetP.go rfl rfl ⟨v',rest',rfl,by rw [Zl4];exact hG',hF'⟩
theorem Zmu {id:Nat} (h:k≤n):Yz E0 29 (.own id 4 0 n) (some (.int .i64 (k:Int))) none none=some (.own id 4 (0+k) (n-k)):=by
 obtain ⟨ti,e,et⟩:∃ ti,E0.T 29=some ti∧ti.tk= .slice 48:=⟨_,rfl,rfl⟩
 obtain ⟨ei,e2,e3⟩:∃ ei,E0.T 48=some ei∧ei.size=4:=⟨_,rfl,rfl⟩
 have hn:nat? (.int .i64 (k:Int))=some k:=by simp [nat?]
 simp only [Yz,e,et,e2,e3,if_true,X4,hn,if_pos h]
theorem Zqr {id:Nat} (h:k≤n):Yz E0 29 (.own id 4 0 n) none (some (.int .i64 (k:Int))) none=some (.own id 4 0 k):=by
 obtain ⟨ti,e,et⟩:∃ ti,E0.T 29=some ti∧ti.tk= .slice 48:=⟨_,rfl,rfl⟩
 obtain ⟨ei,e2,e3⟩:∃ ei,E0.T 48=some ei∧ei.size=4:=⟨_,rfl,rfl⟩
 have hn:nat? (.int .i64 (k:Int))=some k:=by simp [nat?]
 simp only [Yz,e,et,e2,e3,if_true,X4,hn,if_pos h,Nat.sub_zero]
theorem QM {id ix len:Nat} (hj:j<len):Zv E0 29 (.own id 4 ix len) (.int .i64 (j:Int))=some (.ptr id 4 (ix+j) 0):=Zg5 rfl rfl rfl rfl hj
theorem ZcF {id:Nat} (hb:nth H.bx id=some (.cells 4 (Za L))) (hj:L[j]? = some t):Z4 E0 48 (.ptr id 4 j 0) H=some (.agg t.cells):=by
 obtain ⟨k,nm,s,b,kz⟩:=t
 exact U8 rfl rfl hb ((Zo _ _).trans (Zk hj)) rfl
theorem Zbu (L:List Tm) (j:Nat) (t:Tm):(Za L).set j t.cells=Za (L.set j t):=by
 simp only [YD,List.map_set]
theorem Zo4 {id:Nat} (hb:nth H.bx id=some (.cells 4 (Za L))) (hj:L[j]? = some u) (hro:H.ro≤id):H.wr (.ptr id 4 j 0) t.cells=some {H with bx:=H.bx.set id (.cells 4 (Za (L.set j t)))}:=by
 obtain ⟨k,nm,s,b,kz⟩:=t
 obtain ⟨k',nm',s',b',kz'⟩:=u
 rw [Zc9 hb ((Zo _ _).trans (Zk hj)) (by simp [Tm.cells]) hro]
 rw [← Zbu]
 simp [Tm.cells]
theorem Zwd (ht:t.Ok) (hu:u.Ok) (h1:t.size<4611686018427387904) (h2:u.size<4611686018427387904):∀ H,CallOk E0 Tryz.prog 204 [.agg t.cells,.agg u.cells] H (.bool (decide (t.cmp u=0))) H:=by
 have hc:=fun H=>Zoe (d28 ht hu h1 h2 H)
 generalize t.cmp u=c at hc ⊢
 obtain ⟨k,nm,s,b,kz⟩:=t
 obtain ⟨k',nm',s',b',kz'⟩:=u
 refine Jw tOk fe204.ok rfl ?_
 repeat' first|refine Jc (hc _) ?_|refine Jt ?_|refine Jb ?_ ?_|refine Jo ?_|intro hb
 all_goals (refine ifq ?_;simp at hb;simp [hb])
def ZpU (id:Nat) (bx:List Box) (L:List Tm) (r:PV) (H:Heap):Prop:=∃ (M:List Tm) (D:List (List PV)),r= .own id 4 0 M.length∧H=⟨bx.set id (.cells 4 (Za M++D)),0,[],0⟩∧M.length≤L.length∧(L≠ []→M≠ [])∧∀ x,x∈M→x∈L
theorem Zbv (M:List Tm) (k:Nat):(Za M).take k=Za (M.take k):=by simp only [YD,List.map_take]
theorem Zho {id : Nat} {bx : List Box} (hid : bx[id]? = some (.cells 4 (Za L))) (hok : ∀ x, x ∈ L → x.Ok ∧ x.size ≤ 100000) (hlen : L.length ≤ 100000) :
  ∃ r H',CallOk E0 Tryz.prog 29 [.own id 4 0 L.length,.fn 204 []] ⟨bx,0,[],0⟩ r H'∧ZpU id bx L r H':=by
 have hlt:=ZB hid
 have hself:bx.set id (.cells 4 (Za L))=bx:=by
  refine List.ext_getElem? fun k=>?_
  rw [List.getElem?_set]
  split
  · rename_i e
    subst e
    first
     | exact hid.symm
     | (rw [if_pos hlt];exact hid.symm)
  · rfl
 have hcmp:∀ x y,x∈L→y∈L→∀ H,CallOk E0 Tryz.prog 204 [.agg x.cells,.agg y.cells] H (.bool (decide (x.cmp y=0))) H:=fun x y hx hy=>Zwd (hok x hx).1 (hok y hy).1 (by have:=(hok x hx).2;omega) (by have:=(hok y hy).2;omega)
 refine ZT (own:=fun _=>false) tOk fe29.ok ?_
 refine Wp.seq ?_
 have hblt:∀ b:Box,Nat.blt id (bx.set id b).length=true:=fun b=>by rw [List.length_set];exact Nat.ble_eq_true_of_le hlt
 have hsame:ZpU id bx L (.own id 4 0 L.length) ⟨bx,0,[],0⟩:=⟨L,[],rfl,by rw [List.append_nil,hself],Nat.le_refl _,fun h=>h,fun _ h=>h⟩
 repeat' first|refine Jb ?_ ?_|refine Jo ?_|intro hb
 · exact RetR.ret rfl hsame
 have h2:2≤L.length:=by simp at hb;omega
 refine Wp.while (fun m tm H=>∃ (k:Nat) (base:TM),k+m=L.length∧1≤k∧tm=ovr base [(0,.own id 4 0 L.length),(1,.fn 204 []),(5,.int .i64 (k:Int))]∧H=⟨bx,0,[],0⟩)
  (fun m tm H hI=>?_) (L.length-1) _ _ ⟨1,_,by omega,by omega,Zf ⟨rfl,rfl,rfl,trivial⟩,rfl⟩
 obtain ⟨k,base,hi,hk1,rfl,rfl⟩:=hI
 by_cases hklt:k<L.length
 · obtain ⟨x, hx⟩ : ∃ x, L[k]? = some x := ⟨L[k], by simp⟩
   obtain ⟨y,hy⟩:∃ y,L[k-1]? = some y:=⟨L[k-1]'(by omega),by simp⟩
   have hnb:nth bx id=some (.cells 4 (Za L)):=(Zo _ _).trans hid
   have hwr:IntKind.i64.wrap ((k:Int)-1)=((k-1:Nat):Int):=by
    rw [show (k:Int)-1=((k-1:Nat):Int) by omega]
    exact IntWalk.i64_in _ (by omega)
   have hi1:=QM (id:=id) (ix:=0) (len:=L.length) hklt
   have hi2:Zv E0 29 (.own id 4 0 L.length) (.int .i64 (IntKind.i64.wrap ((k:Int)-1)))=some (.ptr id 4 (0+(k-1)) 0):=by rw [hwr];exact QM (by omega)
   have hl1:Z4 E0 48 (.ptr id 4 (0+k) 0) ⟨bx,0,[],0⟩=some (.agg x.cells):=by rw [Nat.zero_add];exact ZcF hnb hx
   have hl2:Z4 E0 48 (.ptr id 4 (0+(k-1)) 0) ⟨bx,0,[],0⟩=some (.agg y.cells):=by rw [Nat.zero_add];exact ZcF hnb hy
   have hc:=hcmp x y (List.mem_of_getElem? hx) (List.mem_of_getElem? hy)
   generalize decide (x.cmp y=0)=B at hc
   have hsl:=Zmu (id:=id) (Nat.le_of_lt hklt)
   have hblt0:Nat.blt id bx.length=true:=by have:=hblt (.cells 4 (Za L));rwa [hself] at this
   cases B with
   | false =>
     repeat' first|refine Jb ?_ ?_|refine Jo ?_|refine Jd (hc _) ?_|refine JK ?_|(apply dLd;rfl;rfl;rfl;assumption;exact IsV.any _;(first|rfl|(show Nat.blt _ _=true;first|assumption|(simp [Nat.blt];done))))|refine Jh ?_|(apply Wp.draw tOk follows;kernel_rfl)|intro hb
     · exact LoopI.go (m-1) (by omega) ⟨k+1,_,by omega,by omega,Zf ⟨rfl,rfl,Ze (Zd (n:=k+1) (by omega)),trivial⟩,rfl⟩
     · exfalso;simp at hb;omega
   | true =>
     repeat' first|refine JS ?_|refine Jb ?_ ?_|refine Jo ?_|refine Jd (hc _) ?_|refine JK ?_|(apply dLd;rfl;rfl;rfl;assumption;exact IsV.any _;(first|rfl|(show Nat.blt _ _=true;first|assumption|(simp [Nat.blt];done))))|refine Jh ?_|(apply Wp.draw tOk follows;kernel_rfl)|intro hb
     rotate_left
     · exfalso;simp at hb;omega
     clear hc hl1 hl2 hi1 hi2 hx hy hwr
     refine Wp.while (fun m2 tm H => ∃ (kk k2 : Nat) (M : List Tm) (base : TM), k + k2 + m2 = L.length ∧ k ≤ kk ∧ kk < k + k2 ∧ M.length = L.length ∧ (∀ x, x ∈ M → x ∈ L) ∧
       tm=ovr base [(0,.own id 4 0 L.length),(1,.fn 204 []),(5,.int .i64 (kk:Int)),(6,.own id 4 (0+k) (L.length-k)),(7,.int .i64 (k2:Int))]∧H=⟨bx.set id (.cells 4 (Za M)),0,[],0⟩)
      (fun m2 tm H hI=>?_) (L.length-k-1) _ _ ⟨k,1,L,_,by omega,by omega,by omega,rfl,fun _ h=>h,Zf ⟨rfl,rfl,rfl,rfl,rfl,trivial⟩,by rw [hself]⟩
     obtain ⟨kk,k2,M,base2,hi2,hk2,hk3,hM,hMm,rfl,rfl⟩:=hI
     have hnb:nth (bx.set id (.cells 4 (Za M))) id=some (.cells 4 (Za M)):=by rw [Zo];simp [hlt]
     by_cases hlt2:k2<L.length-k
     · obtain ⟨x, hx⟩ : ∃ x, M[k + k2]? = some x := ⟨M[k + k2]'(by omega), by simp⟩
       obtain ⟨y,hy⟩:∃ y,M[k+(k2-1)]? = some y:=⟨M[k+(k2-1)]'(by omega),by simp⟩
       obtain ⟨u,hu⟩:∃ u,M[kk]? = some u:=⟨M[kk]'(by omega),by simp⟩
       have hwr:IntKind.i64.wrap ((k2:Int)-1)=((k2-1:Nat):Int):=by
        rw [show (k2:Int)-1=((k2-1:Nat):Int) by omega]
        exact IntWalk.i64_in _ (by omega)
       have hi1:=QM (id:=id) (ix:=0+k) hlt2
       have hi2:Zv E0 29 (.own id 4 (0+k) (L.length-k)) (.int .i64 (IntKind.i64.wrap ((k2:Int)-1)))=some (.ptr id 4 (0+k+(k2-1)) 0):=by rw [hwr];exact QM (by omega)
       have hi3:=QM (id:=id) (ix:=0) (len:=L.length) (j:=kk) (by omega)
       have hl1:Z4 E0 48 (.ptr id 4 (0+k+k2) 0) ⟨bx.set id (.cells 4 (Za M)),0,[],0⟩=some (.agg x.cells):=by rw [Nat.zero_add];exact ZcF hnb hx
       have hl2:Z4 E0 48 (.ptr id 4 (0+k+(k2-1)) 0) ⟨bx.set id (.cells 4 (Za M)),0,[],0⟩=some (.agg y.cells):=by rw [Nat.zero_add];exact ZcF hnb hy
       have hc:=hcmp x y (hMm x (List.mem_of_getElem? hx)) (hMm y (List.mem_of_getElem? hy))
       generalize decide (x.cmp y=0)=B at hc
       have hst:Heap.wr ⟨bx.set id (.cells 4 (Za M)),0,[],0⟩ (.ptr id 4 (0+kk) 0) x.cells=some ⟨bx.set id (.cells 4 (Za (M.set kk x))),0,[],0⟩:=by
        rw [Nat.zero_add,Zo4 hnb hu (Nat.zero_le _),List.set_set]
       have hblt2:=hblt (.cells 4 (Za M))
       have hset:∀ z,z∈M.set kk x→z∈L:=fun z hz=>by
        rcases List.mem_or_eq_of_mem_set hz with h|h
        · exact hMm z h
        · rw [h];exact hMm x (List.mem_of_getElem? hx)
       obtain ⟨k',nm',s',b',kz'⟩:=x
       simp only [Tm.cells] at hst hl1
       repeat' first|refine JJ ?_|(apply qLd;rfl;rfl;rfl;assumption;exact IsV.any _)|refine Jb ?_ ?_|refine Jo ?_|refine Jd (hc _) ?_|refine JK ?_|(apply dLd;rfl;rfl;rfl;assumption;exact IsV.any _;(first|rfl|(show Nat.blt _ _=true;first|assumption|(simp [Nat.blt];done))))|(apply dB (ty:=4);rfl;rfl;rfl;rfl)|refine Jh ?_|(apply Wp.draw tOk follows;kernel_rfl)|intro hb
       · exact LoopI.go (m2-1) (by omega) ⟨kk+1,k2+1,_,_,by omega,by omega,by omega,by rw [List.length_set];exact hM,hset,Zf ⟨rfl,rfl,Ze (Zd (n:=kk+1) (by omega)),rfl,Ze (Zd (n:=k2+1) (by omega)),trivial⟩,rfl⟩
       · exact LoopI.go (m2-1) (by omega) ⟨kk,k2+1,M,_,by omega,by omega,by omega,hM,hMm,Zf ⟨rfl,rfl,rfl,rfl,Ze (Zd (n:=k2+1) (by omega)),trivial⟩,rfl⟩
       · exfalso;simp at hb;omega
     · have e2 : k2 = L.length - k := by omega
       subst e2
       have hsl2:=Zmu (id:=id) (k:=kk) (n:=L.length) (by omega)
       have hsl3:=Zqr (id:=id) (k:=kk) (n:=L.length) (by omega)
       have hclr:∃ D,QI E0 29 (.own id 4 (0+kk) (L.length-kk)) ⟨bx.set id (.cells 4 (Za M)),0,[],0⟩=some (.tup [],⟨bx.set id (.cells 4 (Za (M.take kk)++D)),0,[],0⟩):=by
        have h:=ZgF (E:=E0) (t:=29) (e:=48) (es:=4) (el:=Za M) (ix:=0+kk) (len:=L.length-kk) (H:=⟨bx.set id (.cells 4 (Za M)),0,[],0⟩) rfl rfl rfl rfl rfl (by decide) rfl hnb (Nat.zero_le _) (by rw [Zb];omega)
        rw [List.set_set,Nat.zero_add,Zbv] at h
        rw [Nat.zero_add]
        exact ⟨_,h⟩
       obtain ⟨D,hclr⟩:=hclr
       have hlt3:(M.take kk).length=kk:=by rw [List.length_take];omega
       repeat' first|refine JS ?_|(apply Zt4;rfl;rfl;assumption)|refine Jb ?_ ?_|refine Jo ?_|refine Jh ?_|(apply Wp.draw tOk follows;kernel_rfl)|intro hb
       · exfalso;simp at hb
       · refine RetR.ret rfl ⟨M.take kk, D, by rw [hlt3]; rfl, rfl, by omega, fun _ h => ?_, fun x hx => hMm x (List.mem_of_mem_take hx)⟩
         rw [h] at hlt3
         simp at hlt3
         omega
 · have e : k = L.length := by omega
   subst e
   repeat' first|refine Jb ?_ ?_|refine Jo ?_|refine Jh ?_|(apply Wp.draw tOk follows;kernel_rfl)|intro hb
   · exfalso;simp at hb
   · exact RetR.ret rfl hsame
theorem Zmr (t:Tm) (w:Bs):∀ H,CallOk E0 Tryz.prog 213 [.agg t.cells,.str w] H (.bool (isA t w)) H:=by
 obtain ⟨k,nm,s,b,kz⟩:=t
 simp only [Tm.cells]
 refine Jw tOk fe213.ok rfl ?_ (by simp [Zx,frzG,Xq,frz1])
 repeat' first|refine Jk ?_|refine Jt ?_|refine Jb ?_ ?_|refine Jo ?_|intro hb
 all_goals simp_all [isA]
theorem ZtK (t:Tm):∀ H,CallOk E0 Tryz.prog 226 [.agg t.cells] H (.bool t.sym) H:=by
 obtain ⟨k,nm,s,b,kz⟩:=t
 simp only [Tm.cells,Tm.sym]
 refine Jw tOk fe226.ok rfl ?_
 repeat' first|refine Jk ?_|refine Jt ?_|refine Jb ?_ ?_|refine Jo ?_|intro hb
 all_goals simp_all [Zbi,Uc,VF,Uj]
theorem Zso (t:Tm):∀ H,CallOk E0 Tryz.prog 212 [.agg t.cells] H (.bool t.sym) H:=by
 obtain ⟨k,nm,s,b,kz⟩:=t
 simp only [Tm.cells,Tm.sym]
 refine Jw tOk fe212.ok rfl ?_
 repeat' first|refine Jk ?_|refine Jt ?_|refine Jb ?_ ?_|refine Jo ?_|intro hb
 all_goals simp_all [Zbi,Uc,VF,Uj]
theorem Zrv (ht:t.Ok∧t.size≤100000) (hu:u.Ok∧u.size≤100000):∀ H,CallOk E0 Tryz.prog 166 [.agg t.cells,.agg u.cells] H (.bool (decide (t.cmp u=0))) H:=by
 have hc:=Zrz ht hu
 generalize t.cmp u=c at hc ⊢
 obtain ⟨k,nm,s,b,kz⟩:=t
 obtain ⟨k',nm',s',b',kz'⟩:=u
 simp only [Tm.cells] at hc ⊢
 refine Jw tOk fe166.ok rfl ?_
 repeat' first|refine Jc (hc _) ?_|refine Jt ?_|refine Jb ?_ ?_|refine Jo ?_|intro hb
 all_goals simp_all
theorem VB (b:Bool) (el:List (List PV)):slV b 4 el= .nils∨∃ el',slV b 4 el= .sl .none 4 el':=by
 cases el with
 | nil => cases b with
   | true=>exact .inl (Zg 4)
   | false=>exact .inr ⟨[],ZC 4⟩
 |cons x r=>exact .inr ⟨x::r,Zm _ _ _ _⟩
theorem ZvM (nm:Bs) (l:List Tm) (b:Bool):∀ H,CallOk E0 Tryz.prog 224 [.str nm,slV b 4 (Za l)] H (.agg (Tm.mk 3 nm 0 b l).cells) H:=by
 simp only [Tm.cells]
 rcases VB b (Za l) with e|⟨el,e⟩
 all_goals
  rw [e]
  refine Jw tOk fe224.ok rfl ?_
  repeat' first|refine Jo ?_|fail
  rfl
theorem ZsK (nm:Bs) (l:List Tm) (b:Bool):∀ H,CallOk E0 Tryz.prog 221 [.str nm,slV b 4 (Za l)] H (.agg (Tm.mk 3 nm 0 b l).cells) H:=by
 simp only [Tm.cells]
 rcases VB b (Za l) with e|⟨el,e⟩
 all_goals
  rw [e]
  refine Jw tOk fe221.ok rfl ?_
  repeat' first|refine Jo ?_|fail
  rfl
def pwC (x:Pw):List PV:=x.1.cells++ [.int .i64 x.2]
theorem Zv2 {x:Pw} (ht:x.1.Ok∧x.1.size≤100000) (hu:u.Ok∧u.size≤100000):∀ H,CallOk E0 Tryz.prog 232 [.agg (pwC x),.agg u.cells] H (.int .i64 (x.1.cmp u)) H:=by
 have hc:=Zrz ht hu
 obtain ⟨t,n⟩:=x
 simp only at hc ⊢
 generalize t.cmp u=c at hc ⊢
 obtain ⟨k,nm,s,b,kz⟩:=t
 obtain ⟨k',nm',s',b',kz'⟩:=u
 simp only [Tm.cells,pwC,List.cons_append,List.nil_append] at hc ⊢
 refine Jw tOk fe232.ok rfl ?_
 repeat' first|refine Jc (hc _) ?_|refine Jo ?_|fail
 all_goals rfl
