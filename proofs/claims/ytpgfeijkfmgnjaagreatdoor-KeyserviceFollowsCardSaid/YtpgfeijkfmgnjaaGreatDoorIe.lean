/-
  Answers to new readers, and the readers behind changes, as the document makes th
-/
import Derived.Test.YtpgfeijkfmgnjaaGreatDoorLb
set_option maxHeartbeats 0
set_option maxRecDepth 100000
namespace Go.Vm.Seat
variable {C O l:List Tm} {a i j q:Nat} {s:Sv}
open Go.Proofs
def Zhh (O:List Tm):PV:=match O with
 | []=> .nils
 |_::_=> .own (O.length-1) 4 0 O.length
def WB (O:List Tm):List Box:=match O with
 | []=>[]
 |_::_=>List.replicate (O.length-1) .dead++ [.cells 4 (Za O)]
theorem Zf9 (O:List Tm):(WB O).length=O.length:=by cases O<;>simp [WB]
theorem Vb (j:Nat) (x:Box):nth (List.replicate j Box.dead++ [x]) j=some x:=by
 rw [ZA,List.getElem?_append_right (by simp)]
 simp
theorem Zf3 (j:Nat) (x y:Box):(List.replicate j Box.dead++ [x]).set j y=List.replicate j Box.dead++ [y]:=by
 rw [List.set_append_right _ _ (by simp)]
 simp
theorem Zhk (O : List Tm) (X : Tm) (hO : O.length ≤ 1000) :
  Z3 E0 24 24 (Zhh O) (.sl .full 4 (Za [X])) ⟨WB O,0,[],0⟩=some (Zhh (O++ [X]),⟨WB (O++ [X]),0,[],0⟩):=by
 have hne:Za [X]= [X.cells]:=ZQ X
 cases O with
 | nil =>
   have he:=Y6 (s:= .nils) YA (ElV.sl .full 4 (Za [X])) (Zs _) rfl rfl ⟨[],0,[],0⟩
   simp only [Zhh,WB,Z3,he,Xj]
   rw [hne]
   simp only []
   rw [if_pos (ZZ (by simp) (by decide))]
   simp [Heap.push,hne]
 | cons a r =>
   obtain ⟨n,hn⟩:∃ n,(a::r).length=n+1:=⟨r.length,rfl⟩
   have hnth:=Vb n (.cells 4 (Za (a::r)))
   have hs:Xg ⟨List.replicate n Box.dead++ [.cells 4 (Za (a::r))],0,[],0⟩ (.own n 4 0 (n+1))=some (Za (a::r)):=by
    simp only [Xg,hnth]
    rw [if_pos ⟨trivial,by rw [Zb];omega⟩,List.drop_zero, ← hn, ← Zb (a::r),List.take_length]
    exact Wu _
   have he:=Y6 (s:= .own n 4 0 (n+1)) YA (ElV.sl .full 4 (Za [X])) (Zs _) rfl rfl ⟨List.replicate n Box.dead++ [.cells 4 (Za (a::r))],0,[],0⟩
   have e1:Zhh (a::r)= .own n 4 0 (n+1):=by simp only [Zhh,hn,Nat.add_sub_cancel]
   have e2:WB (a::r)=List.replicate n Box.dead++ [.cells 4 (Za (a::r))]:=by simp only [WB,hn,Nat.add_sub_cancel]
   have hn2:(a::r++ [X]).length=n+2:=by rw [List.length_append,hn];rfl
   have e3:Zhh (a::r++ [X])= .own (n+1) 4 0 (n+2):=by
    show PV.own ((a::r++ [X]).length-1) 4 0 (a::r++ [X]).length=_
    rw [hn2];rfl
   have e4:WB (a::r++ [X])=List.replicate (n+1) Box.dead++ [.cells 4 (Za (a::r++ [X]))]:=by
    show List.replicate ((a::r++ [X]).length-1) Box.dead++ [.cells 4 (Za (a::r++ [X]))]=_
    rw [hn2];rfl
   rw [e1,e2,e3,e4]
   rw [hne] at he ⊢
   simp only [Z3,he,Xj,Uq,hs]
   rw [if_pos ⟨trivial,Nat.zero_le _,by rw [Zb,hn],ZZ (by rw [Zb];simp only [List.length_cons,List.length_nil] at hn hO ⊢;omega) (by decide)⟩]
   rw [Zf3,Zo,hne,Zb,hn]
   simp [List.replicate_succ']
theorem Zhs (O:List Tm) (X:Tm):(WB O).length≤(WB (O++ [X])).length:=by
 rw [Zf9,Zf9,List.length_append];omega
def Zon (O C:List Tm) (a:Nat):Prop:=C.length=O.length∧∀ k,k<O.length→C[k]? = if k<a∨O.length-a≤k then O[O.length-1-k]? else O[k]?
theorem ZjB (O:List Tm):Zon O O 0:=⟨rfl,fun k hk=>by rw [if_neg (by omega)]⟩
theorem Zj6 (h:Zon O C a) (ha:O.length-1-a≤a) (h2:2*a≤O.length):C=O.reverse:=by
 refine List.ext_getElem? fun k=>?_
 by_cases hk:k<O.length
 · rw [h.2 k hk, List.getElem?_reverse hk]
   split
   · rfl
   · rw [show O.length-1-k=k by omega]
 · rw [List.getElem?_eq_none (by rw [h.1];omega),List.getElem?_eq_none (by rw [List.length_reverse];omega)]
theorem ZhS {x y:Tm} (h:Zon O C a) (ha:a<O.length-1-a) (hx:C[a]? = some x) (hy:C[O.length-1-a]? = some y):Zon O ((C.set a y).set (O.length-1-a) x) (a+1):=by
 have hx':=h.2 a (by omega)
 have hy':=h.2 (O.length-1-a) (by omega)
 rw [if_neg (by omega),hx] at hx'
 rw [if_neg (by omega),hy] at hy'
 refine ⟨by simp [h.1],fun k hk=>?_⟩
 rw [List.getElem?_set,List.getElem?_set,List.length_set,h.1]
 by_cases h1:O.length-1-a=k
 · subst h1
   rw [if_pos rfl,if_pos hk,if_pos (by omega),show O.length-1-(O.length-1-a)=a by omega,hx']
 · rw [if_neg h1]
   by_cases h3:a=k
   · subst h3
     rw [if_pos rfl,if_pos hk,if_pos (by omega),hy']
   · rw [if_neg h3, h.2 k hk]
     by_cases h4:k<a∨O.length-a≤k
     · rw [if_pos h4,if_pos (by omega)]
     · rw [if_neg h4,if_neg (by omega)]
theorem iaO {len:Nat} (hj:i<len):Zp E0 24 (.own j 4 0 len) (.int .i64 (i:Int))=some (.ptr j 4 i 0):=by
 have:=ZeB (id:=j) (ix:=0) hj
 rwa [Nat.zero_add] at this
theorem wrO {L:List Tm} {t u:Tm} (hj:L[i]? = some u):Heap.wr ⟨List.replicate j Box.dead++ [.cells 4 (Za L)],0,[],0⟩ (.ptr j 4 i 0) t.cells=some ⟨List.replicate j Box.dead++ [.cells 4 (Za (L.set i t))],0,[],0⟩:=by
 have h:=Zoq (t:=t) (H:=⟨List.replicate j Box.dead++ [.cells 4 (Za L)],0,[],0⟩) (Vb j _) hj (Nat.zero_le _)
 rw [h,Zf3]
theorem Zvh (hC:C≠ []):frz3 0 ⟨List.replicate j Box.dead++ [.cells 4 (Za C)],0,[],0⟩ (.tup [.own j 4 0 C.length,.int .i64 0])=some (.tup [slV true 4 (Za C),.int .i64 0]):=by
 have h:frzC 0 ⟨List.replicate j Box.dead++ [.cells 4 (Za C)],0,[],0⟩ (.own j 4 0 C.length)=some (slV true 4 (Za C)):=by
  simp only [frzC,Nat.not_lt_zero,if_false,Vb]
  rw [if_pos ⟨trivial,by rw [Zb];omega⟩,List.drop_zero, ← Zb C,List.take_length,Wu]
  cases C with
  | nil=>exact absurd rfl hC
  | cons c r =>
    obtain ⟨k,nm,s,b,kz⟩:=c
    simp only [Za,Zw]
 show (match YR 0 _ [.own j 4 0 C.length,.int .i64 0] with|some vs'=>some (PV.tup vs')|none=>none)=_
 simp only [YR,frz2,h]
 rfl
theorem Zse (h:q<1000000):ZP E0 .add 3 (.int .i64 (q:Int)) (.int .i64 1)=some (.int .i64 ((q+1:Nat):Int)):=by
 show some (PV.int .i64 (IntKind.i64.wrap ((q:Int)+1)))=_
 rw [IntWalk.i64_in _ (by omega)]
 congr 2
theorem Zrz {k:Nat} (h:q<1000000) (hk:k≤q):ZP E0 .sub 3 (.int .i64 (q:Int)) (.int .i64 (k:Int))=some (.int .i64 ((q-k:Nat):Int)):=by
 show some (PV.int .i64 (IntKind.i64.wrap ((q:Int)-(k:Int))))=_
 rw [IntWalk.i64_in _ (by omega)]
 congr 2
 omega
theorem c28 (hl : ∀ t, t ∈ l → t.Ok ∧ t.size ≤ 2000) (hent : ZbD l = 0) (hi : i < l.length) (hv : (Zr 33 l).valid = 0) (b : Bool) : ∀ H,
  CallOk E0 Tryz.prog 28 [slV b 4 (Za l),.int .i64 (i:Int)] H (.tup [slV true 4 (Za (clL (WX 32 l i))),.int .i64 0]) H:=by
 have c1:=c63 (fun t ht=>⟨(hl t ht).1,by have:=(hl t ht).2;omega⟩) b
 rw [hent] at c1
 have hlen:=VZ hent
 have c2:=c64 hlen hl b
 rw [if_neg (not_not_intro hv)] at c2
 have hln:=Zb l
 have gz1:ZP E0 .lss 3 (.int .i64 (i:Int)) (.int .i64 0)=some (.bool false):=Xo (by omega)
 have g2:ZP E0 .geq 3 (.int .i64 (i:Int)) (.int .i64 ((Za l).length:Int))=some (.bool false):=by
  show some (PV.bool (decide (((Za l).length:Int)≤(i:Int))))=_
  rw [decide_eq_false (by omega)]
 have hfr:frz3 0 hNil (.tup [slV true 4 (Za (clL (WX 32 l i))),.int .i64 0])=some (.tup [slV true 4 (Za (clL (WX 32 l i))),.int .i64 0]):=by
  rcases Un true 4 (Za (clL (WX 32 l i))) with h|h<;>rw [h]<;>rfl
 refine Zm (own:=(fun d=>[46,57].any (Nat.beq d))) tOk fe28.ok (by simp only [ZJ,Yy];rfl) hfr ?_
 clear hfr hv hent
 refine Wp.seq ?_
 repeat' first|refine Jc (c1 _) ?_|refine Jc (c2 _) ?_|refine Ji ?_|refine Jl ?_|refine Jt ?_|refine Jo ?_|fail
 refine Wp.while (fun m tm H=>∃ (b':Bool) (k:List Tm) (p f:Nat) (O:List Tm) (base:TM),k.length=m∧p<k.length∧k.length≤f∧f+O.length≤32∧(∀ t,t∈k→t∈l)∧clL (WX 32 l i)=clL (WX f k p)++O.reverse∧tm=ovr base [(0,slV b' 4 (Za k)),(1,.int .i64 (p:Int)),(8,Zhh O)]∧H=⟨WB O,0,[],0⟩)
  (fun m tm H hI=>?_) l.length _ _ ⟨b,l,i,32,[],_,rfl,hi,hlen,by simp,fun t h=>h,by simp,Zi ⟨rfl,rfl,rfl,trivial⟩,rfl⟩
 clear c1 c2 gz1 g2 hln
 obtain ⟨b',k,p,f,O,base,rfl,hp,hf,hfO,hsub,hgo,rfl,rfl⟩:=hI
 have hlk:=Zb k
 by_cases hgt:1<k.length
 · obtain ⟨f, rfl⟩ : ∃ f', f = f' + 1 := ⟨f - 1, by omega⟩
   have hx:ZP E0 .gtr 3 (.int .i64 ((Za k).length:Int)) (.int .i64 1)=some (.bool true):=Ze3 (by omega)
   have hne:k≠ []:=fun e=>by rw [e] at hp;simp at hp
   have hh:=XG (n:=k.length) (by omega)
   have hp1:=Y8 k.length
   have hs:∀ H,CallOk E0 Tryz.prog 70 [.int .i64 ((Za k).length:Int)] H (.int .i64 (Zd k.length:Int)) H:=fun H=>by
    rw [hlk]
    exact c70 (by omega) H
   have t1:=Zo3 b' hne (k:=Zd k.length) (by omega)
   have t2:=Zpm b' hne (k:=Zd k.length) (by omega)
   have l1:(k.take (Zd k.length)).length=Zd k.length:=by rw [List.length_take];omega
   have l2:(k.drop (Zd k.length)).length=k.length-Zd k.length:=List.length_drop ..
   by_cases hlt:p<Zd k.length
   · have b2 : ZP E0 .lss 3 (.int .i64 (p : Int)) (.int .i64 (Zd k.length : Int)) = some (.bool true) := X3 (by omega)
     have hinc:WX (f+1) k p=WX f (k.take (Zd k.length)) p++ [Zr 33 (k.drop (Zd k.length))]:=by simp only [WX,if_neg (show ¬ k.length=1 by omega),if_pos hlt]
     have hO:=c66 32 (l:=k.drop (Zd k.length)) (by omega) (by omega) false
     have hO:∀ H,CallOk E0 Tryz.prog 66 [.sl .none 4 (Za (k.drop (Zd k.length)))] H (.agg (Zr 33 (k.drop (Zd k.length))).cells) H:=fun H=>by
      have:=hO H
      rw [Z1] at this
      exact this
     obtain ⟨ok1,ok2⟩:=Xw (S:=2000) 32 (l:=k.drop (Zd k.length)) (by omega) fun t ht=>hl t (hsub t (List.mem_of_mem_drop ht))
     have ok3:=Nat.mul_le_mul_right (2000+11) (show max (k.drop (Zd k.length)).length 1≤32 by omega)
     have hP:=c65 ok1 (by show (Zr (32+1) (k.drop (Zd k.length))).size≤_;omega)
     have hP:∀ H,CallOk E0 Tryz.prog 65 [.agg (Zr 33 (k.drop (Zd k.length))).cells] H (.agg (Zr 33 (k.drop (Zd k.length))).cl.cells) H:=hP
     rw [hinc,XE (_++_),List.map_append, ← XE,List.append_assoc] at hgo
     have hgo:clL (WX 32 l i)=clL (WX f (k.take (Zd k.length)) p)++([(Zr 33 (k.drop (Zd k.length))).cl]++O.reverse):=hgo
     clear ok1 ok2 ok3 hinc
     generalize (Zr 33 (k.drop (Zd k.length))).cl=X at hP hgo
     generalize Zr 33 (k.drop (Zd k.length))=Y at hO hP
     have hap:=Zhk O X (by omega)
     have hle:=Zhs O X
     rw [ZQ] at hap
     have hgo:clL (WX 32 l i)=clL (WX f (k.take (Zd k.length)) p)++(O++ [X]).reverse:=by rw [hgo];simp
     have hlo:f+(O++ [X]).length≤32:=by rw [List.length_append];simp only [List.length_cons,List.length_nil];omega
     have e1:PV.sl .none 4 (Za (k.take (Zd k.length)))=slV false 4 (Za (k.take (Zd k.length))):=(Z1 _ _).symm
     have hsub2:∀ t,t∈k.take (Zd k.length)→t∈l:=fun t ht=>hsub t (List.mem_of_mem_take ht)
     obtain ⟨o2,ho2⟩:∃ o2,o2=Zhh (O++ [X]):=⟨_,rfl⟩
     obtain ⟨B2,hB2⟩:∃ B2,B2=WB (O++ [X]):=⟨_,rfl⟩
     rw [← ho2, ← hB2] at hap
     rw [← hB2] at hle
     obtain ⟨L2,hL2⟩:∃ L2,L2=Za (k.take (Zd k.length)):=⟨_,rfl⟩
     rw [← hL2] at t1 e1
     obtain ⟨k1,nm1,s1,tb1,kz1⟩:=X
     obtain ⟨k2,nm2,s2,tb2,kz2⟩:=Y
     simp only [Tm.cells] at hO hP hap
     repeat' first|refine Jc (hs _) ?_|refine Ji ?_|refine Jl ?_|refine Jo ?_|refine Jd (hO _) ?_|refine Jd (hP _) ?_|refine JB ?_|(apply Zpp;rfl;rfl;rfl;rfl;rfl;rfl;assumption;assumption)|(apply dSl;rfl;rfl;rfl;rfl;rfl;rfl;assumption;exact IsV.any _;rfl)|refine Jh ?_|(apply Wp.drawS tOk follows;kernel_rfl;rfl)|fail
     rw [hL2] at e1
     exact LoopI.go (Zd k.length) (by omega) ⟨false,k.take (Zd k.length),p,f,O++ [Tm.mk k1 nm1 s1 tb1 kz1],_,l1,by omega,by omega,hlo,hsub2,hgo,Zi ⟨by rw [← e1, ← hL2];rfl,rfl,Eq.trans rfl ho2,trivial⟩,by rw [← hB2]⟩
   · have b2 : ZP E0 .lss 3 (.int .i64 (p : Int)) (.int .i64 (Zd k.length : Int)) = some (.bool false) := Xo (by omega)
     have b3:=Zrz (q:=p) (k:=Zd k.length) (by omega) (by omega)
     have hinc:WX (f+1) k p=WX f (k.drop (Zd k.length)) (p-Zd k.length)++ [Zr 33 (k.take (Zd k.length))]:=by simp only [WX,if_neg (show ¬ k.length=1 by omega),if_neg hlt]
     have hO:=c66 32 (l:=k.take (Zd k.length)) (by omega) (by omega) false
     have hO:∀ H,CallOk E0 Tryz.prog 66 [.sl .none 4 (Za (k.take (Zd k.length)))] H (.agg (Zr 33 (k.take (Zd k.length))).cells) H:=fun H=>by
      have:=hO H
      rw [Z1] at this
      exact this
     obtain ⟨ok1,ok2⟩:=Xw (S:=2000) 32 (l:=k.take (Zd k.length)) (by omega) fun t ht=>hl t (hsub t (List.mem_of_mem_take ht))
     have ok3:=Nat.mul_le_mul_right (2000+11) (show max (k.take (Zd k.length)).length 1≤32 by omega)
     have hP:=c65 ok1 (by show (Zr (32+1) (k.take (Zd k.length))).size≤_;omega)
     have hP:∀ H,CallOk E0 Tryz.prog 65 [.agg (Zr 33 (k.take (Zd k.length))).cells] H (.agg (Zr 33 (k.take (Zd k.length))).cl.cells) H:=hP
     rw [hinc,XE (_++_),List.map_append, ← XE,List.append_assoc] at hgo
     have hgo:clL (WX 32 l i)=clL (WX f (k.drop (Zd k.length)) (p-Zd k.length))++([(Zr 33 (k.take (Zd k.length))).cl]++O.reverse):=hgo
     clear ok1 ok2 ok3 hinc
     generalize (Zr 33 (k.take (Zd k.length))).cl=X at hP hgo
     generalize Zr 33 (k.take (Zd k.length))=Y at hO hP
     have hap:=Zhk O X (by omega)
     have hle:=Zhs O X
     rw [ZQ] at hap
     have hgo:clL (WX 32 l i)=clL (WX f (k.drop (Zd k.length)) (p-Zd k.length))++(O++ [X]).reverse:=by rw [hgo];simp
     have hlo:f+(O++ [X]).length≤32:=by rw [List.length_append];simp only [List.length_cons,List.length_nil];omega
     have e1:PV.sl .none 4 (Za (k.drop (Zd k.length)))=slV false 4 (Za (k.drop (Zd k.length))):=(Z1 _ _).symm
     have hsub2:∀ t,t∈k.drop (Zd k.length)→t∈l:=fun t ht=>hsub t (List.mem_of_mem_drop ht)
     obtain ⟨o2,ho2⟩:∃ o2,o2=Zhh (O++ [X]):=⟨_,rfl⟩
     obtain ⟨B2,hB2⟩:∃ B2,B2=WB (O++ [X]):=⟨_,rfl⟩
     rw [← ho2, ← hB2] at hap
     rw [← hB2] at hle
     obtain ⟨L2,hL2⟩:∃ L2,L2=Za (k.drop (Zd k.length)):=⟨_,rfl⟩
     rw [← hL2] at t2 e1
     obtain ⟨k1,nm1,s1,tb1,kz1⟩:=X
     obtain ⟨k2,nm2,s2,tb2,kz2⟩:=Y
     simp only [Tm.cells] at hO hP hap
     repeat' first|refine Jc (hs _) ?_|refine Ji ?_|refine Jl ?_|refine Jo ?_|refine Jd (hO _) ?_|refine Jd (hP _) ?_|refine JB ?_|(apply Zpp;rfl;rfl;rfl;rfl;rfl;rfl;assumption;assumption)|(apply dSl;rfl;rfl;rfl;rfl;rfl;rfl;assumption;exact IsV.any _;rfl)|refine JD ?_|refine Jh ?_|(apply Wp.drawS tOk follows;kernel_rfl;rfl)|fail
     rw [hL2] at e1
     exact LoopI.go (k.length-Zd k.length) (by omega) ⟨false,k.drop (Zd k.length),p-Zd k.length,f,O++ [Tm.mk k1 nm1 s1 tb1 kz1],_,l2,by omega,by omega,hlo,hsub2,hgo,Zi ⟨by rw [← e1, ← hL2];rfl,rfl,Eq.trans rfl ho2,trivial⟩,by rw [← hB2]⟩
 · have hx : ZP E0 .gtr 3 (.int .i64 ((Za k).length : Int)) (.int .i64 1) = some (.bool false) := ZdX (by omega)
   have hk1:k.length=1:=by omega
   obtain ⟨f,rfl⟩:∃ f',f=f'+1:=⟨f-1,by omega⟩
   have hR:clL (WX 32 l i)=O.reverse:=by
    rw [hgo]
    simp only [WX,if_pos hk1]
    rfl
   rw [hR]
   clear hgo hR hsub
   generalize Za k=K at hx hlk
   cases O with
   | nil =>
     simp only [Zhh,WB]
     repeat' first|refine Ji ?_|refine Jl ?_|refine Jo ?_|fail
     refine Wp.while (fun m tm H=>∃ (base:TM),tm=ovr base [(8,.nils),(10,.int .i64 0),(11,.int .i64 (-1))]∧H=⟨[],0,[],0⟩)
      (fun m tm H hI=>?_) 0 _ _ ⟨_,Zi ⟨rfl,rfl,rfl,trivial⟩,rfl⟩
     obtain ⟨base,rfl,rfl⟩:=hI
     repeat' first|refine Jt ?_|refine Jo ?_|fail
     all_goals (rw [show Za ([]:List Tm).reverse= [] from rfl,Zq];rfl)
   | cons a r =>
     obtain ⟨n,hn⟩:∃ n,(a::r).length=n+1:=⟨r.length,rfl⟩
     have e1:Zhh (a::r)= .own n 4 0 (n+1):=by simp only [Zhh,hn,Nat.add_sub_cancel]
     have e2:WB (a::r)=List.replicate n Box.dead++ [.cells 4 (Za (a::r))]:=by simp only [WB,hn,Nat.add_sub_cancel]
     rw [e1,e2]
     clear e1 e2
     have hs1:=Zrz (q:=n+1) (k:=1) (by omega) (by omega)
     generalize a::r=O at hn hfO ⊢
     have hOne:O≠ []:=fun e=>by rw [e] at hn;simp at hn
     repeat' first|refine Ji ?_|refine Jl ?_|refine Jo ?_|fail
     refine Wp.while (fun m tm H=>∃ (q:Nat) (C:List Tm) (base:TM),q+m=n+1∧2*q≤n+1∧Zon O C q∧tm=ovr base [(8,.own n 4 0 (n+1)),(10,.int .i64 (q:Int)),(11,.int .i64 ((n-q:Nat):Int))]∧H=⟨List.replicate n Box.dead++ [.cells 4 (Za C)],0,[],0⟩)
      (fun m tm H hI=>?_) (n+1) _ _ ⟨0,O,_,by omega,by omega,ZjB O,Zi ⟨rfl,rfl,rfl,trivial⟩,rfl⟩
     clear hs1 hx
     obtain ⟨q,C,base,hq,hq2,hH,rfl,rfl⟩:=hI
     by_cases hlt:q<n-q
     · have hx : ZP E0 .lss 3 (.int .i64 (q : Int)) (.int .i64 ((n - q : Nat) : Int)) = some (.bool true) := X3 (by omega)
       have hCl:=hH.1
       obtain ⟨x,hxq⟩:∃ x,C[q]? = some x:=⟨C[q]'(by omega),List.getElem?_eq_getElem _⟩
       obtain ⟨y,hyq⟩:∃ y,C[n-q]? = some y:=⟨C[n-q]'(by omega),List.getElem?_eq_getElem _⟩
       have hst:=ZhS hH (x:=x) (y:=y) (by omega) hxq (by rw [hn,show n+1-1-q=n-q by omega];exact hyq)
       rw [hn,show n+1-1-q=n-q by omega] at hst
       have i1:=iaO (j:=n) (len:=n+1) (i:=q) (by omega)
       have i2:=iaO (j:=n) (len:=n+1) (i:=n-q) (by omega)
       have d1:=Zg1 (H:=⟨List.replicate n Box.dead++ [.cells 4 (Za C)],0,[],0⟩) (Vb n _) hxq
       have d2:=Zg1 (H:=⟨List.replicate n Box.dead++ [.cells 4 (Za C)],0,[],0⟩) (Vb n _) hyq
       have w1:=wrO (j:=n) (t:=y) hxq
       have w2:=wrO (j:=n) (L:=C.set q y) (i:=n-q) (t:=x) (u:=y) (by rw [List.getElem?_set_ne (by omega)];exact hyq)
       have p1:=Zse (q:=q) (by omega)
       have p2:=Zrz (q:=n-q) (k:=1) (by omega) (by omega)
       have n1:(nth (List.replicate n Box.dead++ [Box.cells 4 (Za (C.set q y))]) n).isSome=true:=by rw [Vb];rfl
       have n2:(nth (List.replicate n Box.dead++ [Box.cells 4 (Za ((C.set q y).set (n-q) x))]) n).isSome=true:=by rw [Vb];rfl
       have nb:Nat.blt n (List.replicate n Box.dead++ [Box.cells 4 (Za C)]).length=true:=by simp [Nat.blt]
       have nf:false=Nat.ble (List.replicate n Box.dead++ [Box.cells 4 (Za C)]).length n:=by
        symm
        rw [Bool.eq_false_iff]
        intro h
        have:=Nat.le_of_ble_eq_true h
        simp at this
        omega
       have hB2:(⟨List.replicate n Box.dead++ [.cells 4 (Za ((C.set q y).set (n-q) x))],0,[],0⟩:Heap)=⟨List.replicate n Box.dead++ [.cells 4 (Za ((C.set q y).set (n-q) x))],0,[],0⟩:=rfl
       generalize hC2:(C.set q y).set (n-q) x=C2 at w2 n2 hst hB2
       generalize hC1:C.set q y=C1 at w1 w2 n1
       clear hC1 hC2 hB2
       generalize List.replicate n Box.dead++ [Box.cells 4 (Za C)]=B at d1 d2 w1 nb nf ⊢
       generalize List.replicate n Box.dead++ [Box.cells 4 (Za C1)]=B1 at w1 w2 n1
       generalize hB2:List.replicate n Box.dead++ [Box.cells 4 (Za C2)]=B2 at w2 n2
       obtain ⟨k1,nm1,s1,tb1,kz1⟩:=x
       obtain ⟨k2,nm2,s2,tb2,kz2⟩:=y
       simp only [Tm.cells] at d1 d2 w1 w2
       repeat' first|refine Ji ?_|refine Jo ?_|refine JK ?_|(apply dLd;rfl;rfl;rfl;assumption;exact IsV.any _;(first|rfl|(show Nat.blt _ _=true;first|assumption|(simp [Nat.blt];done))))|(apply dSt;rfl;rfl;rfl;rfl;exact IsL.n;rfl;(first|rfl|assumption|(simp only [List.all_cons,List.all_nil,Ya,Bool.and_true];rfl));assumption;exact IsH.mkN;assumption;assumption;rfl)|refine Jh ?_|(apply Wp.drawS tOk follows;kernel_rfl;rfl)|fail
       exact LoopI.go (m-1) (by omega) ⟨q+1,C2,_,by omega,by omega,hst,Zi ⟨rfl,rfl,by rw [show n-(q+1)=n-q-1 by omega];rfl,trivial⟩,by rw [← hB2]⟩
     · have hx : ZP E0 .lss 3 (.int .i64 (q : Int)) (.int .i64 ((n - q : Nat) : Int)) = some (.bool false) := Xo (by omega)
       have hC:=Zj6 hH (by omega) (by omega)
       have hCl:=hH.1
       rw [← hC]
       have hfin:=Zvh (j:=n) (C:=C) (fun e=>hOne (by rw [e] at hCl;exact List.length_eq_zero_iff.1 hCl.symm))
       rw [hCl,hn] at hfin
       clear hC hH
       repeat' first|refine Ji ?_|refine Jo ?_|fail
       all_goals exact hfin
def An.zero:An:=⟨[],.zero,0,0,.zero,.zero,true,[],true,[]⟩
theorem ZeN {name:Bs}:∀ {l:List Tm},(Zt name l).2.2=true→(Zt name l).2.1<l.length
 | [],h=>by simp [Zt] at h
 | t :: r, h => by
   simp only [Zt] at h ⊢
   split
   · simp
   · rename_i hn
     rw [if_neg hn] at h
     have:=ZeN h
     simp only [List.length_cons]
     omega
theorem Zci (h:svV s=0):(Zy s.log).2=0:=by
 unfold svV at h
 split at h; · cases h
 split at h; · cases h
 split at h; · cases h
 split at h; · cases h
 split at h; · cases h
 rename_i h5
 unfold Wf at h5
 split at h5
 · simp at h5
 · rename_i h6
   exact Classical.not_not.1 h6
theorem ZbF (h:(Zy l).2=0):ZbD l=0∧(Zr 33 l).valid=0:=by
 unfold Zy at h
 split at h; · rename_i hz1;exact absurd h hz1
 split at h; · cases h
 rename_i hz1 h2
 exact ⟨Classical.not_not.1 hz1,Classical.not_not.1 h2⟩
theorem Mad.lg {n:Nat} (h:Mad n s):∀ t,t∈s.log→t.Ok∧t.size≤150:=fun t ht=>⟨h.ok.l t ht,h.sz t ht⟩
theorem Zj3 (h:Mad 10 s):((Wf s.log s.key).1.Ok∧(Wf s.log s.key).1.size≤1900)∧(Wf s.log s.key).2.1.Ok∧(Wf s.log s.key).2.1.size≤2000:=by
 have hz:Tm.zero.Ok∧Tm.zero.size=1:=⟨Tm.ok_zero,rfl⟩
 have hr:(Zy s.log).1.Ok∧(Zy s.log).1.size≤1900:=by
  unfold Zy
  split; · exact ⟨hz.1,by show Tm.zero.size≤_;have:=hz.2;omega⟩
  split; · exact ⟨hz.1,by show Tm.zero.size≤_;have:=hz.2;omega⟩
  obtain ⟨a,b⟩:=Xw (S:=150) 32 (l:=s.log) (by have:=h.len;omega) h.lg
  have:=Nat.mul_le_mul_right (150+11) (show max s.log.length 1≤10 by have:=h.len;omega)
  exact ⟨a,by show (Zr (32+1) s.log).size≤_;omega⟩
 have hs:=ZcO id (fun t ht=>⟨ht,rfl⟩) (s.log.length:Int) hr.1 h.ok.k
 have hk:=h.ks
 unfold Wf
 split
 · exact ⟨⟨hz.1,by show Tm.zero.size≤_;have:=hz.2;omega⟩,hz.1,by show Tm.zero.size≤_;have:=hz.2;omega⟩
 · exact ⟨hr,hs.1,by have:=hs.2;have:=hr.2;show (Z5 id (Zy s.log).1 s.log.length s.key).1.size≤_;omega⟩
theorem UL:An.zero.cells= [.str [],.int .i64 0,.str [],.int .i64 0,.nils,.int .i64 0,.int .i64 0,.int .i64 0,.str [],.int .i64 0,.nils,.int .i64 0,.str [],.int .i64 0,.nils,.nils,.nils]:=by
 simp only [An.zero,An.cells,Zk,Za,Zq]
 rfl
theorem ZmZ (m:Nat) (H:Heap) (b:Bool) (n:Nat) (L:List (List PV)):frzC m H (slV b n L)=some (slV b n L):=by
 rcases Un b n L with h|h<;>rw [h]<;>rfl
theorem Zgm (m:Nat) (H:Heap) (a:An) (e:Int):frz3 m H (.tup [.agg a.cells,.int .i64 e])=some (.tup [.agg a.cells,.int .i64 e]):=by
 obtain ⟨nm,⟨k1,n1,s1,b1,l1⟩,x,y,⟨k2,n2,s2,b2,l2⟩,⟨k3,n3,s3,b3,l3⟩,ib,inc,eb,ext⟩:=a
 simp only [An.cells,Tm.cells,List.cons_append,List.nil_append]
 show (match YR m H _ with|some vs'=>some (PV.tup vs')|none=>none)=_
 simp only [YR,frz2,Qf,ZmZ]
 rfl
theorem Zno (s:Sv) (name:Bs) (i:Int):ZJ [.agg s.cells,.str name,.int .i64 i]=some [.agg s.cells,.str name,.int .i64 i]:=by
 have h:=Ze6 s
 simp only [ZJ] at h ⊢
 revert h
 generalize frzG (.agg s.cells)=F
 cases F<;>simp
 rintro rfl
 rfl
