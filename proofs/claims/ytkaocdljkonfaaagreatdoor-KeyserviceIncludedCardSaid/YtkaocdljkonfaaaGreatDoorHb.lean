/-
  The heads of a log, as the document builds them. The key of a name in a log: the program's text and the reference's say the same. The key of a name in
-/
import Derived.Test.YtkaocdljkonfaaaGreatDoorGj
set_option maxHeartbeats 64000000
set_option maxRecDepth 100000
namespace Go.Vm.Seat
variable {l:List Tm} {es i k:Nat} {name:Bs} {tl:Tail} {L:List (List PV)} {ei ti:TI} {T:TypeId}
open Go.Proofs
theorem ZpB (l:List Tm) (k:Nat):(Za l).take k=Za (l.take k):=by
 induction l generalizing k with
 |nil=>simp [Za]
 | cons a r ih =>
   cases k with
   | zero=>simp [Za]
   | succ k=>simp only [Za,List.take_succ_cons,ih]
theorem ZqO (l:List Tm) (k:Nat):(Za l).drop k=Za (l.drop k):=by
 induction l generalizing k with
 |nil=>simp [Za]
 | cons a r ih =>
   cases k with
   | zero=>simp [Za]
   | succ k=>simp only [Za,List.drop_succ_cons,ih]
theorem slT (b:Bool) (h:l≠ []):slV b 4 (Za l)= .sl .none 4 (Za l):=by
 cases l with
 |nil=>exact absurd rfl h
 |cons a r=>simp only [Za,Zw]
theorem Zla (k:Nat):nat? (.int .i64 (k:Int))=some k:=by
 simp [nat?]
theorem ZpY (b:Bool) (h:l≠ []) (hk:k≤l.length):Z4 E0 22 (slV b 4 (Za l)) none (some (.int .i64 (k:Int))) none=some (.sl .none 4 (Za (l.take k))):=by
 have e:E0.T 22=some ⟨.slice 24,1,24,.nils⟩:=by kernel_rfl
 have et:E0.T 24=some ⟨.struct [(0,3),(1,9),(2,3),(3,22)],4,56,.agg [.int .i64 0,.str [],.int .i64 0,.nils]⟩:=by kernel_rfl
 rw [slT b h, ← ZpB]
 simp only [Z4,e,et,if_true,UZ,Xb,Zla]
 rw [if_pos (by simp [Zb];omega)]
 simp [ZcJ]
theorem ZsJ (b:Bool) (h:l≠ []) (hk:k≤l.length):Z4 E0 22 (slV b 4 (Za l)) (some (.int .i64 (k:Int))) none none=some (.sl .none 4 (Za (l.drop k))):=by
 have e:E0.T 22=some ⟨.slice 24,1,24,.nils⟩:=by kernel_rfl
 have et:E0.T 24=some ⟨.struct [(0,3),(1,9),(2,3),(3,22)],4,56,.agg [.int .i64 0,.str [],.int .i64 0,.nils]⟩:=by kernel_rfl
 rw [slT b h, ← ZqO]
 simp only [Z4,e,et,if_true,UZ,Xb,Zla]
 rw [if_pos (by simp [Zb];omega)]
 simp [ZcJ]
def Zhs:List Tm→Int
 | []=>0
 |t::r=>if t.valid≠0 then t.valid else Zhs r
def ZbS (l:List Tm):Int:=if 32<l.length then 3 else Zhs l
theorem c98 (hl:∀ t,t∈l→t.Ok∧t.size≤1000000) (b:Bool):∀ H,CallOk E0 Tryz.prog 98 [slV b 4 (Za l)] H (.int .i64 (ZbS l)) H:=by
 have h1:=Zb l
 refine Jw tOk fe98.ok rfl ?_
 by_cases hlen:32<l.length
 · have hg : ZV E0 .gtr 3 (.int .i64 ((Za l).length : Int)) (.int .i64 32) = some (.bool true) := ZgZ (by omega)
   simp only [ZbS,if_pos hlen]
   repeat' first|refine Ji ?_|refine Jl ?_|refine Jo ?_|fail
   all_goals rfl
 have hg:ZV E0 .gtr 3 (.int .i64 ((Za l).length:Int)) (.int .i64 32)=some (.bool false):=Zhb (by omega)
 simp only [ZbS,if_neg hlen]
 repeat' first|refine Ji ?_|refine Jl ?_|refine Jo ?_|fail
 clear hg
 refine Wp.while (fun k tm H=>∃ (i:Nat) (base:TM),i+k=l.length∧Zhs l=Zhs (l.drop i)∧tm=ovr base [(0,slV b 4 (Za l)),(3,.int .i64 (i:Int))]∧H=⟨[],0,[],0⟩)
  (fun k tm H hI=>?_) l.length _ _ ⟨0,_,by omega,by simp,Zi ⟨rfl,rfl,trivial⟩,rfl⟩
 obtain ⟨i,base,hi,hI,rfl,rfl⟩:=hI
 by_cases hlt:i<l.length
 · obtain ⟨t', ht'⟩ : ∃ t', l[i]? = some t' := ⟨l[i], by simp⟩
   have m1:=hl t' (List.mem_of_getElem? ht')
   have hc:=Zln m1.1 (by omega)
   rw [ZM ht'] at hI
   simp only [Zhs] at hI
   have hlx:ZV E0 .lss 3 (.int .i64 (i:Int)) (.int .i64 ((Za l).length:Int))=some (.bool true):=We (by omega)
   generalize t'.valid=e at hc hI
   have be:=Ye e
   obtain ⟨k',nm',s',b',kids'⟩:=t'
   have hj1:=Zk ht'
   simp only [Tm.cells] at hc
   by_cases he:e=0
   · rw [decide_eq_false (not_not_intro he)] at be
     rw [if_neg (not_not_intro he)] at hI
     repeat' first|refine Jc (hc _) ?_|refine Ji ?_|refine Jl ?_|refine Jx ?_|refine Jo ?_|fail
     exact LoopI.go (k-1) (by omega) ⟨i+1,_,by omega,hI,Zi ⟨rfl,Zh (Ze (n:=i+1) (by omega)),trivial⟩,rfl⟩
   · rw [decide_eq_true he] at be
     rw [if_pos he] at hI
     rw [hI]
     repeat' first|refine Jc (hc _) ?_|refine Ji ?_|refine Jl ?_|refine Jx ?_|refine Jo ?_|fail
     all_goals rfl
 · have e : i = l.length := by omega
   subst e
   rw [List.drop_length] at hI
   rw [hI]
   have hlx:ZV E0 .lss 3 (.int .i64 (l.length:Int)) (.int .i64 ((Za l).length:Int))=some (.bool false):=XS (by omega)
   repeat' first|refine Ji ?_|refine Jl ?_|refine Jo ?_|fail
   all_goals rfl
def Zcs:Tm:= .mk 3 Wt 0 true [WC [110,111,110,101]]
def Z5:Nat→List Tm→Tm
 |0,_=> .zero
 | f + 1, l => match l with
   | []=>Zcs
   | [t]=>XC t
   | a::b::r=>YQ (Z5 f ((a::b::r).take (Zo (r.length+2)))) (Z5 f ((a::b::r).drop (Zo (r.length+2))))
theorem Um {S:Nat}:∀ (f:Nat) {l:List Tm},l.length≤f→(∀ t,t∈l→t.Ok∧t.size≤S)→(Z5 (f+1) l).Ok∧(Z5 (f+1) l).size+8≤(max l.length 1)*(S+11)
 |f,[],_,_=>⟨ok1 (by decide) (Zkl (by decide)),by show 2+8≤_;simp⟩
 | f, [t], _, hl => by
   obtain ⟨h1,h2⟩:=hl t (by simp)
   refine ⟨Zfa h1,?_⟩
   show (XC t).size+8≤_
   rw [Zfl]
   simp
   omega
 |0,a::b::r,hf,_=>by simp at hf
 | f + 1, a :: b :: r, hf, hl => by
   have hp:=WY (r.length+2)
   have hh:=Ur (n:=r.length+2) (by omega)
   have e1:((a::b::r).take (Zo (r.length+2))).length=Zo (r.length+2):=by simp only [List.length_take,List.length_cons];omega
   have e2:((a::b::r).drop (Zo (r.length+2))).length=r.length+2-Zo (r.length+2):=by simp only [List.length_drop,List.length_cons]
   simp only [List.length_cons] at hf
   obtain ⟨x1,x2⟩:=Um (S:=S) f (l:=(a::b::r).take (Zo (r.length+2))) (by omega) fun t ht=>hl t (List.mem_of_mem_take ht)
   obtain ⟨y1,y2⟩:=Um (S:=S) f (l:=(a::b::r).drop (Zo (r.length+2))) (by omega) fun t ht=>hl t (List.mem_of_mem_drop ht)
   refine ⟨VU x1 y1,?_⟩
   show (YQ _ _).size+8≤_
   rw [Uy]
   rw [e1,Nat.max_eq_left hp] at x2
   rw [e2,Nat.max_eq_left (by omega)] at y2
   have e3:Zo (r.length+2)*(S+11)+(r.length+2-Zo (r.length+2))*(S+11)=(max (a::b::r).length 1)*(S+11):=by
    rw [← Nat.add_mul,Nat.max_eq_left (by simp)]
    congr 1
    simp only [List.length_cons]
    omega
   omega
theorem ZqW (nm:Bs) (x:Tm):∀ H,CallOk E0 Tryz.prog 34 [.str nm,.sl .full 4 [x.cells]] H (.agg (Tm.mk 3 nm 0 true [x]).cells) H:=Zkt nm x
theorem c24:∀ (f:Nat) {l:List Tm},l.length≤f→l.length≤32→∀ (b:Bool),∀ H,CallOk E0 Tryz.prog 24 [slV b 4 (Za l)] H (.agg (Z5 (f+1) l).cells) H
 | f, [], _, _ => by
   intro b
   have h1:=c62 [110,111,110,101]
   have h2:=ZqW Wt (WC [110,111,110,101])
   have e:Z5 (f+1) []=Zcs:=rfl
   have e2:Tm.mk 3 Wt 0 true [WC [110,111,110,101]]=Zcs:=rfl
   have hfr:=Zy 0 hNil Zcs
   rw [e2] at h2
   rw [e]
   generalize Zcs=R at h2 hfr ⊢
   generalize WC [110,111,110,101]=G at h1 h2
   obtain ⟨k1,nm1,s1,b1,kids1⟩:=R
   obtain ⟨k2,nm2,s2,b2,kids2⟩:=G
   simp only [Tm.cells,Za] at h1 h2 hfr ⊢
   cases b<;>simp only [Zq,Z8]
   all_goals
    refine Jw tOk fe24.ok hfr ?_
    repeat' first|refine Jc (h1 _) ?_|refine Jc (h2 _) ?_|refine Js ?_|refine Jt ?_|refine Jo ?_|fail
   all_goals exact Z2 _ _ _ _ _ _ _
 | f, [t], _, _ => by
   intro b
   have h1:=c63 t
   have e:Z5 (f+1) [t]=XC t:=rfl
   have hj:(Za [t])[0]? = some t.cells:=rfl
   have hl:=Zb [t]
   have hfr:=Zy 0 hNil (XC t)
   have b0:ZV E0 .eql 3 (.int .i64 ((Za [t]).length:Int)) (.int .i64 0)=some (.bool false):=V9 (by rw [hl];simp)
   have b1:ZV E0 .eql 3 (.int .i64 ((Za [t]).length:Int)) (.int .i64 1)=some (.bool true):=ZdT (by rw [hl];simp)
   rw [e]
   generalize Za [t]=L at hj hl b0 b1 ⊢
   generalize XC t=R at h1 hfr ⊢
   obtain ⟨k1,nm1,s1,tb1,kids1⟩:=R
   obtain ⟨k2,nm2,s2,tb2,kids2⟩:=t
   simp only [Tm.cells] at h1 hfr hj ⊢
   refine Jw tOk fe24.ok hfr ?_
   repeat' first|refine Jc (h1 _) ?_|refine Ji ?_|refine Jl ?_|refine Jx ?_|refine Jo ?_|fail
   all_goals exact Z2 _ _ _ _ _ _ _
 |0,a::c::r,hf,_=>by simp at hf
 | f + 1, a :: c :: r, hf, h32 => by
   intro b
   have hne:a::c::r≠ []:=by simp
   have hlen:(a::c::r).length=r.length+2:=rfl
   have hp:=WY (r.length+2)
   have hh:=Ur (n:=r.length+2) (by omega)
   rw [hlen] at hf h32
   have hs:=c64 h32
   have t1:=ZpY b hne (k:=Zo (r.length+2)) (by rw [hlen];omega)
   have t2:=ZsJ b hne (k:=Zo (r.length+2)) (by rw [hlen];omega)
   have x1:=c24 f (l:=(a::c::r).take (Zo (r.length+2))) (by simp only [List.length_take,List.length_cons];omega) (by simp only [List.length_take,List.length_cons];omega) false
   have x2:=c24 f (l:=(a::c::r).drop (Zo (r.length+2))) (by simp only [List.length_drop,List.length_cons];omega) (by simp only [List.length_drop,List.length_cons];omega) false
   rw [Z1] at x1 x2
   have hN:=c65 (Z5 (f+1) ((a::c::r).take (Zo (r.length+2)))) (Z5 (f+1) ((a::c::r).drop (Zo (r.length+2))))
   have e:Z5 (f+1+1) (a::c::r)=YQ (Z5 (f+1) ((a::c::r).take (Zo (r.length+2)))) (Z5 (f+1) ((a::c::r).drop (Zo (r.length+2)))):=rfl
   rw [e]
   generalize Z5 (f+1) ((a::c::r).take (Zo (r.length+2)))=X at x1 hN ⊢
   generalize Z5 (f+1) ((a::c::r).drop (Zo (r.length+2)))=Y at x2 hN ⊢
   have hl:=Zb (a::c::r)
   rw [hlen] at hl
   have b0:ZV E0 .eql 3 (.int .i64 ((Za (a::c::r)).length:Int)) (.int .i64 0)=some (.bool false):=V9 (by rw [hl];omega)
   have b1:ZV E0 .eql 3 (.int .i64 ((Za (a::c::r)).length:Int)) (.int .i64 1)=some (.bool false):=V9 (by rw [hl];omega)
   have hs:∀ H,CallOk E0 Tryz.prog 64 [.int .i64 ((Za (a::c::r)).length:Int)] H (.int .i64 (Zo (r.length+2):Int)) H:=by
    rw [hl]
    exact hs
   have hfr:=Zy 0 hNil (YQ X Y)
   generalize Za (a::c::r)=L at t1 t2 hl b0 b1 hs ⊢
   generalize Za ((a::c::r).take (Zo (r.length+2)))=L1 at t1 x1
   generalize Za ((a::c::r).drop (Zo (r.length+2)))=L2 at t2 x2
   generalize YQ X Y=R at hN hfr ⊢
   obtain ⟨k1,nm1,s1,tb1,kids1⟩:=R
   obtain ⟨k2,nm2,s2,tb2,kids2⟩:=X
   obtain ⟨k3,nm3,s3,tb3,kids3⟩:=Y
   simp only [Tm.cells] at x1 x2 hN hfr ⊢
   refine Jw tOk fe24.ok hfr ?_
   repeat' first|refine Jc (hs _) ?_|refine Ji ?_|refine Jl ?_|refine Jo ?_|(apply dCl;rfl;rfl;rfl;rfl;rfl;first|exact x1 _|exact x2 _|exact hN _)|(apply dSl;rfl;rfl;rfl;rfl;rfl;rfl;assumption;exact IsV.any _;rfl)|refine Jh ?_|(apply Wp.drawS tOk follows;kernel_rfl;rfl)|fail
   all_goals exact Z2 _ _ _ _ _ _ _
def ZS (l:List Tm):Tm×Int:=if ZbS l≠0 then (.zero,ZbS l) else if (Z5 33 l).valid≠0 then (.zero,3) else (Z5 33 l,0)
theorem QN (h:ZbS l=0):l.length≤32:=by
 unfold ZbS at h
 split at h
 · cases h
 · omega
theorem Zbw {S:Nat} (hl:∀ t,t∈l→t.Ok∧t.size≤S):(ZS l).1.Ok∧(ZS l).1.size≤32*(S+11):=by
 have hz:Tm.zero.Ok∧Tm.zero.size≤32*(S+11):=⟨Tm.ok_zero,by simp [Tm.zero,Tm.size,Zz];omega⟩
 unfold ZS
 split; · exact hz
 split; · exact hz
 rename_i h _
 have h:=QN (Classical.not_not.1 h)
 obtain ⟨a,b⟩:=Um (S:=S) 32 h hl
 refine ⟨a,?_⟩
 have:=Nat.mul_le_mul_right (S+11) (show max l.length 1≤32 by omega)
 have b:(Z5 33 l).size+8≤max l.length 1*(S+11):=b
 show (Z5 33 l).size≤_
 omega
theorem c89 (hl:∀ t,t∈l→t.Ok∧t.size≤2000) (b:Bool):∀ H,CallOk E0 Tryz.prog 89 [slV b 4 (Za l)] H (.tup [.agg (ZS l).1.cells,.int .i64 (ZS l).2]) H:=by
 have c1:=c98 (fun t ht=>⟨(hl t ht).1,by have:=(hl t ht).2;omega⟩) b
 have be:=Ye (ZbS l)
 have hfz:=YG 0 hNil Tm.zero
 unfold ZS
 by_cases he:ZbS l=0
 · rw [he] at c1 be
   rw [if_neg (not_not_intro he)]
   have hlen:=QN he
   have c2:=c24 32 hlen hlen b
   obtain ⟨h1,h2⟩:=Um (S:=2000) 32 hlen hl
   have h3:=Nat.mul_le_mul_right (2000+11) (show max l.length 1≤32 by omega)
   have c3:=c99 h1 (by omega)
   have hft:=fun m H=>YG m H (Z5 33 l) 0
   have hfr:=YG 0 hNil (Z5 33 l) 0
   show ∀ H,CallOk E0 Tryz.prog _ _ H (.tup [.agg (if (Z5 33 l).valid≠0 then (Tm.zero,(3:Int)) else (Z5 33 l,0)).1.cells,.int .i64 (if (Z5 33 l).valid≠0 then (Tm.zero,(3:Int)) else (Z5 33 l,0)).2]) H
   clear h1 h2 h3
   generalize Z5 33 l=X at c2 c3 hft hfr ⊢
   generalize X.valid=e at c3 ⊢
   obtain ⟨k2,nm2,s2,tb2,kids2⟩:=X
   simp only [Tm.cells] at c2 c3 hft hfr ⊢
   by_cases hv:e=0
   · rw [if_neg (not_not_intro hv)] at c3 ⊢
     refine Jw tOk fe89.ok hfr ?_
     repeat' first|(apply qCl;rfl;rfl;rfl;rfl;first|exact c1 _|exact c2 _|exact c3 _)|refine Ji ?_|refine Jo ?_|fail
     all_goals exact hft _ _
   · rw [if_pos hv] at c3 ⊢
     refine Jw tOk fe89.ok (hfz _) ?_
     repeat' first|(apply qCl;rfl;rfl;rfl;rfl;first|exact c1 _|exact c2 _|exact c3 _)|refine Ji ?_|refine Jt ?_|refine Jo ?_|fail
     all_goals (rw [Zn];rfl)
 · rw [decide_eq_true he] at be
   rw [if_pos he]
   generalize ZbS l=e at c1 be ⊢
   have hfr:=hfz e
   refine Jw tOk fe89.ok hfr ?_
   repeat' first|refine Jc (c1 _) ?_|refine Ji ?_|refine Jo ?_|fail
   all_goals (rw [Zn];rfl)
open Go.Proofs
open Go.Proofs
def Zx (name:Bs):List Tm→Tm×Nat×Bool
 | []=>(.zero,0,false)
 |t::r=>if (Zf t).2=0∧(Zf t).1.sub=name then ((Zf t).1.key,r.length,decide ((Zf t).1.till≠0)) else Zx name r
theorem ZiJ {j:Nat} {t:Tm} (h:l[j]? = some t):Zx name (l.take (j+1)).reverse=if (Zf t).2=0∧(Zf t).1.sub=name then ((Zf t).1.key,j,decide ((Zf t).1.till≠0)) else Zx name (l.take j).reverse:=by
 have e:l.take (j+1)=l.take j++ [t]:=by
  rw [List.take_add_one,h]
  rfl
 have hj:j<l.length:=(List.getElem?_eq_some_iff.1 h).1
 rw [e,List.reverse_append,List.reverse_singleton,List.singleton_append]
 simp only [Zx,List.length_reverse,List.length_take]
 rw [Nat.min_eq_left (by omega)]
theorem Zfy (m:Nat) (H:Heap) (t:Tm) (e:Int) (b:Bool):frz3 m H (.tup [.agg t.cells,.int .i64 e,.bool b])=some (.tup [.agg t.cells,.int .i64 e,.bool b]):=by
 have h:frz2 m H (.agg t.cells)=some (.agg t.cells):=Zy m H t
 show (match Xk m H [.agg t.cells,.int .i64 e,.bool b] with|some vs'=>some (PV.tup vs')|none=>none)=_
 simp only [Xk,h]
 rfl
theorem c53 (hok:∀ t,t∈l→t.Ok) (hs:∀ t,t∈l→t.size≤900) (hll:l.length≤40) (b:Bool):∀ H,CallOk E0 Tryz.prog 53 [slV b 4 (Za l),.str name] H (.tup [.agg (Zx name l.reverse).1.cells,.int .i64 ((Zx name l.reverse).2.1:Int),.bool (Zx name l.reverse).2.2]) H:=by
 have hfr:=Zfy 0 hNil (Zx name l.reverse).1 (Zx name l.reverse).2.1 (Zx name l.reverse).2.2
 refine Zr (own:=(fun d=>[29999,40272,40296].any (Nat.beq d))) tOk fe53.ok (by simp only [ZC,Yl];rfl) hfr ?_
 clear hfr
 refine Wp.seq ?_
 have b1:ZV E0 .sub 3 (.int .i64 ((Za l).length:Int)) (.int .i64 1)=some (.int .i64 ((l.length:Int)-1)):=by
  show some (PV.int .i64 (IntKind.i64.wrap (((Za l).length:Int)-1)))=_
  rw [Zb,show IntKind.i64.wrap ((l.length:Int)-1)=(l.length:Int)-1 from IntWalk.i64_in _ (by omega)]
 repeat' first|refine Ji ?_|refine Jl ?_|refine Jt ?_|refine Jo ?_|fail
 clear b1
 refine Wp.while (fun m tm H=>∃ base:TM,m≤l.length∧Zx name l.reverse=Zx name (l.take m).reverse∧tm=ovr base [(0,slV b 4 (Za l)),(1,.str name),(4,.ptr 0 4 0 0),(7,.int .i64 ((m:Int)-1))]∧H=⟨[.cells 4 [[.int .i64 0,.str [],.int .i64 0,.nils]]],0,[],0⟩)
  (fun m tm H hI=>Wp.drop ?_) l.length _ _ ⟨_,Nat.le_refl _,by rw [List.take_length],Zi ⟨rfl,rfl,rfl,rfl,trivial⟩,rfl⟩
 obtain ⟨base,hm,hgo,rfl,rfl⟩:=hI
 cases m with
 | zero =>
   have b1:ZV E0 .geq 3 (.int .i64 (((0:Nat):Int)-1)) (.int .i64 0)=some (.bool false):=rfl
   rw [hgo]
   rw [List.take_zero,List.reverse_nil,Zx]
   simp only [Zn]
   repeat' first|refine Ji ?_|refine Jt ?_|refine Jo ?_|fail
   all_goals rfl
 | succ j =>
   obtain ⟨t,ht⟩:∃ t,l[j]? = some t:=⟨l[j],by simp⟩
   have e1:(((j+1:Nat):Int)-1)=(j:Int):=by omega
   rw [e1]
   have hj:(Za l)[j]? = some t.cells:=by
    obtain ⟨k,nm,s,tb,kids⟩:=t
    exact Zk ht
   have hmem:=List.mem_of_getElem? ht
   have hc:=c87 (hok t hmem) (by have:=hs t hmem;omega)
   have b1:ZV E0 .geq 3 (.int .i64 (j:Int)) (.int .i64 0)=some (.bool true):=by
    show some (PV.bool (decide ((0:Int)≤(j:Int))))=_
    simp
   have b2:ZV E0 .sub 3 (.int .i64 (j:Int)) (.int .i64 1)=some (.int .i64 ((j:Int)-1)):=by
    show some (PV.int .i64 (IntKind.i64.wrap ((j:Int)-1)))=_
    rw [show IntKind.i64.wrap ((j:Int)-1)=(j:Int)-1 from IntWalk.i64_in _ (by omega)]
   rw [ZiJ ht] at hgo
   generalize (Zf t).2=e at hc hgo
   generalize (Zf t).1=X at hc hgo
   clear hmem ht
   obtain ⟨k,nm,s,tb,kids⟩:=t
   obtain ⟨sub,⟨k4,m4,s4,t4,q4⟩,iss,pn,per,en,exc,ser,fr,till⟩:=X
   simp only [Cred.cells,Tm.cells,List.cons_append,List.nil_append] at hc hj
   have hco:[slV t4 4 (Za q4),slV pn 1 (Y8 per),slV en 1 (Y8 exc)].all Z3=true:=by simp only [List.all_cons,List.all_nil,Yf,Bool.and_self]
   by_cases he:e=0
   · subst he
     have b3:ZV E0 .eql 32 (.int .i64 0) (.int .i64 0)=some (.bool true):=rfl
     by_cases hsn:sub=name
     · rw [if_pos ⟨rfl, hsn⟩] at hgo
       rw [hgo]
       subst hsn
       have b4:ZV E0 .eql 9 (.str sub) (.str sub)=some (.bool true):=by
        show some (PV.bool (sub==sub))=_
        simp
       have b5:ZV E0 .neq 3 (.int .i64 till) (.int .i64 0)=some (.bool (decide (till≠0))):=by
        show some (PV.bool (till != 0))=_
        congr 2
        rw [Bool.eq_iff_iff]
        simp
       simp only [Tm.cells]
       repeat' first|refine Jc (hc _) ?_|refine Ji ?_|refine Jx ?_|refine Jt ?_|refine Jo ?_|refine JD ?_|refine Jh ?_|(apply Wp.drawS tOk follows;kernel_rfl;rfl)|fail
       all_goals exact Zfy _ _ (.mk k4 m4 s4 t4 q4) _ _
     · rw [if_neg (fun h => hsn h.2)] at hgo
       have b4:ZV E0 .eql 9 (.str sub) (.str name)=some (.bool false):=by
        show some (PV.bool (sub==name))=_
        simp [hsn]
       repeat' first|refine Jc (hc _) ?_|refine Ji ?_|refine Jx ?_|refine Jt ?_|refine Jo ?_|fail
       exact DropQ.go [(0,slV b 4 (Za l)),(1,.str name),(4,.ptr 0 4 0 0),(7,.int .i64 ((j:Int)-1))] ⟨rfl,rfl,rfl,rfl,trivial⟩ (by simp [Zm,under]) rfl (by simp [YA,ZH,under]) (LoopI.go j (by omega) ⟨_,by omega,hgo,rfl,rfl⟩)
   · rw [if_neg (fun h => he h.1)] at hgo
     have b3:ZV E0 .eql 32 (.int .i64 e) (.int .i64 0)=some (.bool false):=by
      show some (PV.bool (e==0))=_
      simp [he]
     repeat' first|refine Jk ?_|refine Jc (hc _) ?_|refine Ji ?_|refine Jx ?_|refine Jt ?_|refine Jo ?_|fail
     exact DropQ.go [(0,slV b 4 (Za l)),(1,.str name),(4,.ptr 0 4 0 0),(7,.int .i64 ((j:Int)-1))] ⟨rfl,rfl,rfl,rfl,trivial⟩ (by simp [Zm,under]) rfl (by simp [YA,ZH,under]) (LoopI.go j (by omega) ⟨_,by omega,hgo,rfl,rfl⟩)
open Go.Proofs
structure En where
 name:Bs
 key:Tm
 idx:Int
variable {e:En}
def En.cells (e:En):List PV:= .str e.name::(e.key.cells++ [.int .i64 e.idx])
def enC (l:List En):List (List PV):=l.map En.cells
theorem Z6 (l:List En):(enC l).length=l.length:=by simp [enC]
theorem Xv {l:List En} (h:l[i]? = some e):(enC l)[i]? = some e.cells:=by simp [enC,h]
theorem Qp (l:List En):(enC l).all (fun c=>c.all Z3)=true:=by
 rw [enC,List.all_map,List.all_eq_true]
 rintro ⟨nm,⟨k,n,s,b,kids⟩,i⟩ _
 simp only [Function.comp,En.cells,Tm.cells,List.cons_append,List.nil_append,List.all_cons,List.all_nil,Yf]
 rfl
theorem Zcr (l:List En):noB (enC l)=true:=by
 rw [enC,noB,List.all_map,List.all_eq_true]
 rintro ⟨nm,⟨k,n,s,b,kids⟩,i⟩ _
 rfl
theorem Uc (l m:List En):enC (l++m)=enC l++enC m:=by simp [enC]
theorem ZjM:ApT E0 25 25 6 80:=⟨_,_,_,_,_,rfl,rfl,rfl,rfl,rfl,rfl,rfl,by decide,rfl⟩
def Wy (name:Bs) (l:List En):Nat:=(l.filter fun e=>Op.bytesLess e.name name).length
theorem ZfU (name:Bs) (l:List En):Wy name l≤l.length:=List.length_filter_le _ _
theorem Zko {l:List En} (h:l[i]? = some e):Wy name (l.take (i+1))=Wy name (l.take i)+if Op.bytesLess e.name name then 1 else 0:=by
 have h2:l.take (i+1)=l.take i++ [e]:=by
  rw [List.take_add_one,h]
  rfl
 rw [h2,Wy,List.filter_append,List.length_append]
 congr 1
 simp only [List.filter_cons,List.filter_nil]
 split<;>simp_all
theorem Zta (a b:Bs):ZV E0 .lss 9 (.str a) (.str b)=some (.bool (Op.bytesLess a b)):=rfl
theorem c91 {l:List En} (hll:l.length≤1000) (name:Bs) (b:Bool):∀ H,CallOk E0 Tryz.prog 91 [slV b 6 (enC l),.str name] H (.int .i64 (Wy name l:Int)) H:=by
 have h1:=Z6 l
 refine Jw tOk fe91.ok rfl ?_
 repeat' first|refine Jo ?_|fail
 refine Wp.while (fun k tm H=>∃ (i:Nat) (base:TM),i+k=l.length∧tm=ovr base [(0,slV b 6 (enC l)),(1,.str name),(5,.int .i64 (Wy name (l.take i):Int)),(6,.int .i64 (i:Int))]∧H=⟨[],0,[],0⟩)
  (fun k tm H hI=>?_) l.length _ _ ⟨0,_,by omega,Zi ⟨rfl,rfl,rfl,rfl,trivial⟩,rfl⟩
 obtain ⟨i,base,hi,rfl,rfl⟩:=hI
 by_cases hlt:i<l.length
 · obtain ⟨e, he⟩ : ∃ e, l[i]? = some e := ⟨l[i], by simp⟩
   have hlx:ZV E0 .lss 3 (.int .i64 (i:Int)) (.int .i64 ((enC l).length:Int))=some (.bool true):=We (by omega)
   have hst:=Zko (name:=name) he
   have hls:=Zta e.name name
   have hle:=ZfU name (l.take i)
   rw [List.length_take] at hle
   have hj:=Xv he
   generalize Wy name (l.take i)=B at hst hle ⊢
   generalize hS:Op.bytesLess e.name name=S at hst hls
   obtain ⟨nm,⟨k',n',s',b',kids'⟩,x⟩:=e
   simp only [En.cells,Tm.cells,List.cons_append,List.nil_append] at hj hls
   cases S with
   | true =>
     repeat' first|refine Ji ?_|refine Jl ?_|refine Jx ?_|refine Jo ?_|fail
     exact LoopI.go (k-1) (by omega) ⟨i+1,_,by omega,Zi ⟨rfl,rfl,Zh (by rw [hst,if_pos rfl];exact Ze (n:=B+1) (by omega)),Zh (Ze (n:=i+1) (by omega)),trivial⟩,rfl⟩
   | false =>
     repeat' first|refine Ji ?_|refine Jl ?_|refine Jx ?_|refine Jo ?_|fail
     exact LoopI.go (k-1) (by omega) ⟨i+1,_,by omega,Zi ⟨rfl,rfl,Zh (by rw [hst];rfl),Zh (Ze (n:=i+1) (by omega)),trivial⟩,rfl⟩
 · have e : i = l.length := by omega
   subst e
   rw [List.take_length]
   have hlx:ZV E0 .lss 3 (.int .i64 (l.length:Int)) (.int .i64 ((enC l).length:Int))=some (.bool false):=XS (by omega)
   repeat' first|refine Ji ?_|refine Jl ?_|refine Jo ?_|fail
   all_goals rfl
def Zm9 (out:List En) (n:Nat) (e:En):List En:=out.take n++ [e]++out.drop n
def U9 (l:List Tm) (out:List En) (i:Nat) (t:Tm):List En:=
 if (Zx (Zf t).1.sub l.reverse).2.2=false∨(Zx (Zf t).1.sub l.reverse).2.1≠i then out else
  Zm9 out (Wy (Zf t).1.sub out) ⟨(Zf t).1.sub,(Zx (Zf t).1.sub l.reverse).1,((Zx (Zf t).1.sub l.reverse).2.1:Int)⟩
def YF (l:List Tm):Nat→List En
 |0=>[]
 | i + 1 => match l[i]? with
   | some t=>U9 l (YF l i) i t
   | none=>YF l i
theorem Vs (l:List Tm):∀ i,(YF l i).length≤i
 |0=>by simp [YF]
 | i + 1 => by
   have ih:=Vs l i
   simp only [YF]
   split
   · unfold U9 Zm9
     split
     · omega
     · simp only [List.length_append, List.length_take, List.length_drop, List.length_singleton]
       omega
   · omega
theorem VK {name:Bs} {S:Nat} (h1:1≤S):∀ {l:List Tm},(∀ t,t∈l→t.Ok∧t.size≤S)→(Zx name l).1.Ok∧(Zx name l).1.size≤S∧(Zx name l).2.1≤l.length
 | [],_=>⟨Tm.ok_zero,by simpa [Zx,Tm.zero,Tm.size,Zz] using h1,Nat.zero_le _⟩
 | t :: r, h => by
   simp only [Zx]
   split
   · have := WW (h t (by simp)).1 (h t (by simp)).2 h1
     exact ⟨this.1,this.2.1,by simp⟩
   · obtain ⟨a, b, c⟩ := VK (name := name) h1 (l := r) fun u hu => h u (by simp [hu])
     exact ⟨a,b,by simp only [List.length_cons];omega⟩
def Wz (S:Nat) (l:List En):Prop:=∀ e,e∈l→(e.key.Ok∧e.key.size≤S)∧e.name.length≤1000
theorem QY {l:List Tm} {S:Nat} (h1:1≤S) (h:∀ t,t∈l→t.Ok∧t.size≤S):∀ i,Wz S (YF l i)
 |0=>by intro e he;simp [YF] at he
 | i + 1 => by
   have ih:=QY h1 h i
   simp only [YF]
   split
   · rename_i t ht
     have hm:=List.mem_of_getElem? ht
     unfold U9 Zm9
     split
     · exact ih
     · intro e he
       simp only [List.mem_append,List.mem_singleton] at he
       rcases he with (he|rfl)|he
       · exact ih e (List.mem_of_mem_take he)
       · have a := VK (name := (Zf t).1.sub) h1 (l := l.reverse) fun u hu => h u (List.mem_reverse.1 hu)
         exact ⟨⟨a.1,a.2.1⟩,(WW (h t hm).1 (h t hm).2 h1).2.2⟩
       · exact ih e (List.mem_of_mem_drop he)
   · exact ih
theorem ZsD {e:TypeId} (hT:E0.T T=some ti) (hk:ti.tk= .slice e) (he:E0.T e=some ei) (hes:ei.size=es) (h:k≤L.length):∃ tl',Z4 E0 T (.sl tl es L) none (some (.int .i64 (k:Int))) none=some (.sl tl' es (L.take k)):=by
 simp only [Z4,hT,hk,he,hes,if_true,UZ,Xb,Zla]
 rw [if_pos (by simpa using h)]
 simp
theorem ZrT {e:TypeId} (hT:E0.T T=some ti) (hk:ti.tk= .slice e) (he:E0.T e=some ei) (hes:ei.size=es) (h:k≤L.length):∃ tl',Z4 E0 T (.sl tl es L) (some (.int .i64 (k:Int))) none none=some (.sl tl' es (L.drop k)):=by
 simp only [Z4,hT,hk,he,hes,if_true,UZ,Xb,Zla]
 rw [if_pos (by simpa using h)]
 simp
end Go.Vm.Seat
