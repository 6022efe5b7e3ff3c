/-
  Powers: what a product leads to (exponent.result), and products (exponent.Mul).
-/
import Derived.Test.YtcopccjkfbmpcaaGreatDoorOq
set_option maxHeartbeats 0
set_option maxRecDepth 100000
namespace Go.Vm.Seat
variable {l:List Pw}
open Go.Proofs
def zcP:List PV:=[.int .i64 0,.str [],.int .i64 0,.nils,.int .i64 0]
theorem ZkO (bx:List Box) (x:Pw):Heap.wr ⟨bx++ [.cells 5 [zcP]],0,[],0⟩ (.ptr bx.length 5 0 0) (pwC x)=some ⟨bx++ [.cells 5 [pwC x]],0,[],0⟩:=by
 have h:=Zc9 (H:=⟨bx++ [.cells 5 [zcP]],0,[],0⟩) (id:=bx.length) (es:=5) (ix:=0) (off:=0) (el:=[zcP]) (cs:=pwC x) (old:=zcP) (XX _ _) rfl (by rw [ZeG];exact Nat.le_refl 5) (Nat.zero_le _)
 rw [h]
 obtain ⟨⟨k',nm',s',b',kz'⟩,n⟩:=x
 simp [pwC,Tm.cells,zcP]
theorem Zpq (bx:List Box) (x:Pw):Z4 E0 193 (.ptr bx.length 5 0 0) ⟨bx++ [.cells 5 [pwC x]],0,[],0⟩=some (.agg (pwC x)):=by
 obtain ⟨⟨k',nm',s',b',kz'⟩,n⟩:=x
 exact U8 rfl rfl (el:=[pwC (Tm.mk k' nm' s' b' kz',n)]) (XX _ _) rfl rfl
theorem ZlM (bx:List Box) (x:Pw):Z4 E0 48 (.ptr bx.length 5 0 0) ⟨bx++ [.cells 5 [pwC x]],0,[],0⟩=some (.agg x.1.cells):=by
 obtain ⟨ti,ht,hk,hs⟩:∃ ti,E0.T 48=some ti∧X1 ti.tk=true∧ti.size=4:=⟨_,rfl,rfl,rfl⟩
 obtain ⟨⟨k',nm',s',b',kz'⟩,n⟩:=x
 simp only [Z4,ht,hk,if_true]
 rw [Zn3 (XX _ _) (cs:=pwC (Tm.mk k' nm' s' b' kz',n)) rfl (by rw [ZeG];omega)]
 simp only [QL,hk,if_true,hs]
 rfl
theorem Zl5 (bx:List Box) (x:Pw):Z4 E0 3 (.ptr bx.length 5 0 4) ⟨bx++ [.cells 5 [pwC x]],0,[],0⟩=some (.int .i64 x.2):=
 ZgS (ti:=⟨.int .i64,1,8,.int .i64 0⟩) rfl rfl (el:=[pwC x]) (XX _ _) rfl (by
  obtain ⟨⟨k,nm,s,b,kz⟩,m⟩:=x
  rfl)
theorem Zqs {bx:List Box} {v:PV} (y:Pw) (hv:Mut 5 bx v (pwL l)) (hl:l.length≤1000000):∃ bx',ZP E0 178 178 v (.sl .full 5 [pwC y]) ⟨bx,0,[],0⟩=some (.own bx.length 5 0 (l.length+1),⟨bx',0,[],0⟩)∧Mut 5 bx' (.own bx.length 5 0 (l.length+1)) (pwL (l++ [y]))∧bx'.length=bx.length+1:=by
 have hok:(pwL [y]).all (fun c=>c.all ZX)=true:=ZaY [y]
 rcases Vv hv with ⟨rfl,rfl⟩|⟨k,rfl,hk⟩
 · have he := ZQ (s := .nils) apT_pw (ElV.sl .full 5 (pwL [y])) hok rfl rfl ⟨bx, 0, [], 0⟩
   refine ⟨bx++ [.cells 5 (pwL [y])],?_,?_,by simp⟩
   · have he : XF E0 178 178 .nils (.sl .full 5 [pwC y]) ⟨bx, 0, [], 0⟩ = some (5, 64, [pwC y]) := he
     simp only [ZP,he,Yu]
     rw [if_pos (ZD (by simp) (by decide))]
     rfl
   · exact .own bx.length (pwL [y]) (by simp)
 · have hnth : nth bx k = some (.cells 5 (pwL l)) := (Zo _ _).trans hk
   have hs:=ZfS (H:=⟨bx,0,[],0⟩) (id:=k) (M:=l) hnth
   have he:XF E0 178 178 (.own k 5 0 l.length) (.sl .full 5 [pwC y]) ⟨bx,0,[],0⟩=some (5,64,[pwC y]):=ZQ (s:= .own k 5 0 l.length) apT_pw (ElV.sl .full 5 (pwL [y])) hok rfl rfl ⟨bx,0,[],0⟩
   refine ⟨bx.set k .dead++ [.cells 5 (pwL (l++ [y]))],?_,?_,by simp⟩
   · simp only [ZP, he, Yu, Wj, hs]
     rw [if_pos ⟨trivial,Nat.zero_le _,Z0 l,ZD (by rw [Z0];simp;omega) (by decide)⟩,ZeB,Z0]
     rfl
   · have := Mut.own (es := 5) (bx := bx.set k .dead ++ [.cells 5 (pwL (l ++ [y]))]) bx.length (pwL (l ++ [y])) (by rw [List.getElem?_append_right (by simp)]; simp)
     rwa [Z0,List.length_append] at this
theorem Zwe (hl:∀ x,x∈l→x.1.Ok∧x.1.size≤100000) (hlen:l.length≤1000) (b:Bool):∃ v bx,CallOk E0 Tryz.prog 229 [slV b 5 (pwL l)] hNil v ⟨bx,0,[],0⟩∧Mut 5 bx v (pwL l):=by
 have hpl:=Z0 l
 have key:∃ r H1,CallOk E0 Tryz.prog 229 [slV b 5 (pwL l)] hNil r H1∧∃ bx,H1=⟨bx,0,[],0⟩∧Mut 5 bx r (pwL l):=by
  refine ZT (own:=fun d=>Nat.beq d 20) tOk fe229.ok ?_
  refine Wp.seq ?_
  repeat' first|refine Jl ?_|refine Jo ?_|fail
  refine Wp.while (fun m tm H => ∃ (i : Nat) (base : TM) (v : PV) (bx : List Box), i + m = l.length ∧ Mut 5 bx v (pwL (l.take i)) ∧
    tm=ovr base [(3,v),(6,slV b 5 (pwL l)),(7,.int .i64 (l.length:Int)),(8,.int .i64 (i:Int))]∧H=⟨bx,0,[],0⟩)
   (fun m tm H hI=>?_) l.length _ _ ⟨0,_,_,_,by omega,.nil,Zf ⟨rfl,rfl,Ze (by rw [hpl]),rfl,trivial⟩,rfl⟩
  obtain ⟨i,base,v,bx,hi,hM,rfl,rfl⟩:=hI
  by_cases hlt:i<l.length
  · obtain ⟨x, hx⟩ : ∃ x, l[i]? = some x := ⟨l[i], by simp⟩
    have hxs:=hl x (List.mem_of_getElem? hx)
    have hc:=Zr8 hxs.1 hxs.2
    have hlx:=Zq (i:Int) (l.length:Int)
    rw [decide_eq_true (by omega)] at hlx
    have hal:∀ ρ,aOp E0 false ρ (.alloc 193) ⟨bx,0,[],0⟩=some (.ptr bx.length 5 0 0,⟨bx++ [.cells 5 [zcP]],0,[],0⟩):=fun ρ=>rfl
    have hwr:=ZkO bx x
    have hld:=ZlM bx x
    have hldn:=Zl5 bx x
    obtain ⟨bx',hap,hM',hbl⟩:=Zqs x (Q7 (ext:=[.cells 5 [pwC x]]) hM) (by rw [List.length_take];omega)
    have hle:(bx++ [Box.cells 5 [pwC x]]).length≤bx'.length:=by omega
    have etk:l.take (i+1)=l.take i++ [x]:=by rw [List.take_add_one,hx];rfl
    rw [← etk] at hM'
    rw [List.length_take,Nat.min_eq_left (by omega)] at hap hM'
    have hbt:Nat.blt bx.length (bx++ [Box.cells 5 [pwC x]]).length=true:=by simp [Nat.blt]
    have hbd:=ZdW x.1 x.2
    have hj:=Xh hx
    obtain ⟨⟨k',nm',s',b',kz'⟩,xn⟩:=x
    simp only [pwC,Tm.cells,List.cons_append,List.nil_append] at hc hld hldn hwr hbd hj hap hle hbt
    clear hM
    repeat' first|(apply RegQ.rAl;rfl;rfl;assumption)|refine Ji ?_|(apply qLd;rfl;rfl;rfl;assumption;exact IsV.any _)|refine Jx ?_|refine Jo ?_|refine Jd (hc _) ?_|refine JB ?_|(apply Zsn;rfl;rfl;rfl;rfl;rfl;rfl;assumption;assumption)|(apply dBd;rfl;rfl;rfl;assumption;exact IsV.aggN;rfl)|(apply dLd;rfl;rfl;rfl;assumption;exact IsV.any _;(first|rfl|(show Nat.blt _ _=true;first|assumption|(simp [Nat.blt];done))))|refine Jh ?_|(apply Wp.draw tOk follows;kernel_rfl)|fail
    exact LoopI.go (m-1) (by omega) ⟨i+1,_,_,_,by omega,hM',Zf ⟨rfl,rfl,rfl,Ze (Zd (n:=i+1) (by omega)),trivial⟩,rfl⟩
  · have e : i = l.length := by omega
    subst e
    rw [List.take_length] at hM
    have hlx:=Zq (l.length:Int) (l.length:Int)
    rw [decide_eq_false (by omega)] at hlx
    repeat' first|refine Ji ?_|refine Jo ?_|fail
    exact RetR.ret rfl ⟨bx,rfl,hM⟩
 obtain ⟨r,H1,h1,bx,rfl,h2⟩:=key
 exact ⟨r,bx,h1,h2⟩
end Go.Vm.Seat
namespace Go.Vm
variable {l:List Pw} {i:Nat} {x:Pw}
theorem Zku (h:l[i]? = some x):(l.drop i).any (fun x=>Yi x.2 1000)=(Yi x.2 1000||(l.drop (i+1)).any (fun x=>Yi x.2 1000)):=by
 rw [Zy h];rfl
theorem Zj9:∀ (p:Option Tm) (l:List Pw),pvL p l=0→∀ x,x∈l→ -1000≤x.2∧x.2≤1000
 |p,[],h=>fun x hx=>absurd hx (by simp)
 | p, x :: r, h => by
   simp only [pvL] at h
   split at h
   · rename_i h1;exact absurd h h1
   split at h
   · exact absurd h (by decide)
   split at h
   · exact absurd h (by decide)
   rename_i h3
   split at h
   · exact absurd h (by decide)
   intro y hy
   rcases List.mem_cons.1 hy with rfl|hy
   · simp only [Yi, Bool.or_eq_true, decide_eq_true_eq] at h3
     omega
   · exact Zj9 _ r h y hy
theorem Zcg (h:pvG l=0):∀ x,x∈l→ -1000≤x.2∧x.2≤1000:=by
 unfold pvG at h
 split at h
 · exact absurd h (by decide)
 exact Zj9 none l h
theorem Zf6:∀ (b:List Pw) {l:List Pw},V7 l→(∀ x,x∈b→x.2≠0)→V7 (insF l b)
 | [],_,h,_=>h
 |x::r,l,h,hb=>Zf6 r (l:=Vf l x.1 x.2) (QQ h (hb x List.mem_cons_self)) fun y hy=>hb y (List.mem_cons_of_mem _ hy)
theorem Zin {b:List Pw} (a:List Pw) (h:b[i]? = some x):insF a (b.take (i+1))=Vf (insF a (b.take i)) x.1 x.2:=XR (f:=fun l (x:Pw)=>Vf l x.1 x.2) h
end Go.Vm
namespace Go.Vm.Seat
variable {a b l:List Pw} {v:PV} {bx:List Box}
open Go.Proofs
theorem Zvn (x:Pw):∀ H,CallOk E0 Tryz.prog 236 [.agg (pwC x)] H (.bool (Yi x.2 1000)) H:=by
 have hL:=Zq x.2 (-1000)
 have hG:=Xt x.2 1000
 unfold Yi
 generalize decide (x.2< -1000)=bL at hL ⊢
 generalize decide ((1000:Int)<x.2)=bG at hG ⊢
 obtain ⟨⟨k,nm,s,b,kz⟩,n⟩:=x
 simp only [pwC,Tm.cells,List.cons_append,List.nil_append]
 refine Jw tOk fe236.ok rfl ?_
 cases bL<;>cases bG
 all_goals
  repeat' first|refine Jk ?_|refine Ji ?_|refine Jt ?_|refine Jo ?_|fail
  all_goals rfl
theorem ixP (hlen:l.length≤1000000) (hM:Mut 5 bx v (pwL l)):∃ r:Int,CallOk E0 Tryz.prog 239 [v,.fn 236 []] ⟨bx,0,[],0⟩ (.int .i64 r) ⟨bx,0,[],0⟩∧decide (0≤r)=l.any (fun x=>Yi x.2 1000):=by
 have key:∃ r H1,CallOk E0 Tryz.prog 239 [v,.fn 236 []] ⟨bx,0,[],0⟩ r H1∧∃ z:Int,r= .int .i64 z∧H1=⟨bx,0,[],0⟩∧decide (0≤z)=l.any (fun x=>Yi x.2 1000):=by
  obtain ⟨A,hA⟩:∃ A,A=l.any (fun x=>Yi x.2 1000):=⟨_,rfl⟩
  rw [← hA]
  refine ZT (own:=fun _=>false) tOk fe239.ok ?_
  refine Wp.seq ?_
  rcases Vv hM with ⟨rfl,rfl⟩|⟨k,rfl,hk⟩
  · clear hM
    repeat' first|refine Jo ?_|fail
    refine Wp.loop ?_
    repeat' first|(apply qF (ty:=0);rfl;rfl;rfl)|refine Jo ?_|fail
    refine LoopQ.exit ?_
    repeat' first|refine Jo ?_|fail
    exact RetR.ret rfl ⟨_,rfl,rfl,by rw [hA];rfl⟩
  · have hnth : nth bx k = some (.cells 5 (pwL l)) := (Zo _ _).trans hk
    clear hM
    repeat' first|refine Jo ?_|fail
    refine Wp.while (fun m tm H => ∃ (i : Nat) (base : TM), i + m = l.length ∧ (l.drop i).any (fun x => Yi x.2 1000) = A ∧
      tm=ovr base [(0,.own k 5 0 l.length),(1,.fn 236 []),(7,.int .i64 (l.length:Int)),(8,.int .i64 (i:Int))]∧H=⟨bx,0,[],0⟩)
     (fun m tm H hI=>?_) l.length _ _ ⟨0,_,by omega,by rw [List.drop_zero,hA],Zf ⟨rfl,rfl,rfl,rfl,trivial⟩,rfl⟩
    obtain ⟨i,base,hi,hgo,rfl,rfl⟩:=hI
    clear hA
    by_cases hlt:i<l.length
    · obtain ⟨x, hx⟩ : ∃ x, l[i]? = some x := ⟨l[i], by simp⟩
      have hlx:=Zq (i:Int) (l.length:Int)
      rw [decide_eq_true (by omega)] at hlx
      have hia:=ZlS (id:=k) (ix:=0) hlt
      rw [Nat.zero_add] at hia
      have hld:=ZoR (H:=⟨bx,0,[],0⟩) hnth hx
      have hc:=Zvn x
      have hd:=Zku hx
      rw [hd] at hgo
      generalize Yi x.2 1000=o at hc hgo
      clear hd
      obtain ⟨⟨k',nm',s',b',kz'⟩,xn⟩:=x
      simp only [pwC,Tm.cells,List.cons_append,List.nil_append] at hc hld
      cases o
      · rw [Bool.false_or] at hgo
        repeat' first|refine Jc (hc _) ?_|refine Ji ?_|refine JJ ?_|(apply qLd;rfl;rfl;rfl;assumption;exact IsV.any _)|refine Jo ?_|fail
        exact LoopI.go (m-1) (by omega) ⟨i+1,_,by omega,hgo,Zf ⟨rfl,rfl,rfl,Ze (Zd (n:=i+1) (by omega)),trivial⟩,rfl⟩
      · rw [Bool.true_or] at hgo
        repeat' first|refine Jc (hc _) ?_|refine Ji ?_|refine JJ ?_|(apply qLd;rfl;rfl;rfl;assumption;exact IsV.any _)|refine Jo ?_|fail
        exact RetR.ret rfl ⟨_,rfl,rfl,by rw [← hgo];exact decide_eq_true (by omega)⟩
    · have e : i = l.length := by omega
      subst e
      rw [List.drop_length] at hgo
      have hlx:=Zq (l.length:Int) (l.length:Int)
      rw [decide_eq_false (by omega)] at hlx
      repeat' first|refine Ji ?_|refine Jo ?_|fail
      exact RetR.ret rfl ⟨_,rfl,rfl,by rw [← hgo];rfl⟩
 obtain ⟨r,H1,h1,z,rfl,rfl,h2⟩:=key
 exact ⟨z,h1,h2⟩
theorem ZuQ (hlen:l.length≤1000000) (hM:Mut 5 bx v (pwL l)):CallOk E0 Tryz.prog 235 [v,.fn 236 []] ⟨bx,0,[],0⟩ (.bool (l.any (fun x=>Yi x.2 1000))) ⟨bx,0,[],0⟩:=by
 obtain ⟨r,hc,e⟩:=ixP hlen hM
 have hge:=Y0 r 0
 rw [e] at hge
 generalize l.any (fun x=>Yi x.2 1000)=A at hge ⊢
 clear e
 cases A
 all_goals
  refine Yg (own:=fun _=>false) tOk fe235.ok ?_
  refine Wp.seq ?_
  repeat' first|refine Jc hc ?_|refine Ji ?_|refine Jt ?_|refine Jo ?_|fail
  all_goals exact RetE.ret rfl rfl rfl
theorem Zuk (hlen:l.length≤1000000) (hM:Mut 5 bx v (pwL l)):∃ v',CallOk E0 Tryz.prog 230 [v] ⟨bx,0,[],0⟩ (.tup [v',.int .i64 (Zhf l).2]) ⟨bx,0,[],0⟩∧Mut 5 bx v' (pwL (Zhf l).1):=by
 have hc:=ZuQ hlen hM
 have hgt:=Xt (l.length:Int) 200
 unfold Zhf
 generalize l.any (fun x=>Yi x.2 1000)=A at hc ⊢
 cases A
 · rw [if_neg (by decide)]
   by_cases h:200<l.length
   · rw [if_pos h]
     rw [decide_eq_true (by omega)] at hgt
     refine ⟨.nils,?_,.nil⟩
     rcases Vv hM with ⟨rfl,rfl⟩|⟨k,rfl,hk⟩
     · simp at h
     refine Yg (own:=fun _=>false) tOk fe230.ok ?_
     refine Wp.seq ?_
     repeat' first|refine Jc hc ?_|refine Ji ?_|refine Jo ?_|fail
     all_goals exact RetE.ret rfl rfl rfl
   · rw [if_neg h]
     rw [decide_eq_false (by omega)] at hgt
     refine ⟨v,?_,hM⟩
     refine Yg (own:=fun _=>false) tOk fe230.ok ?_
     refine Wp.seq ?_
     rcases Vv hM with ⟨rfl,rfl⟩|⟨k,rfl,hk⟩
     all_goals
      repeat' first|refine Jc hc ?_|refine Ji ?_|refine Jo ?_|fail
      all_goals exact RetE.ret rfl rfl rfl
 · rw [if_pos rfl]
   refine ⟨.nils,?_,.nil⟩
   refine Yg (own:=fun _=>false) tOk fe230.ok ?_
   refine Wp.seq ?_
   repeat' first|refine Jc hc ?_|refine Jo ?_|fail
   all_goals exact RetE.ret rfl rfl rfl
theorem Zm5 {ba bb:Bool} {e:Int} (he:e≠0) (h:(∀ H,CallOk E0 Tryz.prog 219 [slV ba 5 (pwL a)] H (.int .i64 e) H)∨((∀ H,CallOk E0 Tryz.prog 219 [slV ba 5 (pwL a)] H (.int .i64 0) H)∧∀ H,CallOk E0 Tryz.prog 219 [slV bb 5 (pwL b)] H (.int .i64 e) H)):∃ f,∀ H,CallOk E0 Tryz.prog 223 [slV ba 5 (pwL a),slV bb 5 (pwL b)] H (.tup [slV f 5 (pwL []),.int .i64 e]) H:=by
 have hnil:slV true 5 (pwL [])= .nils:=Zg 5
 refine ⟨true,?_⟩
 rw [hnil]
 have hne:=Y3 he
 refine Jw tOk fe223.ok rfl ?_
 rcases h with hVa|⟨hVa,hVb⟩
 · have hVb := hVa
   repeat' first|refine Jc (hVa _) ?_|refine Ji ?_|refine Jo ?_|fail
   all_goals rfl
 repeat' first|refine Jc (hVa _) ?_|refine Jc (hVb _) ?_|refine Ji ?_|refine Jt ?_|refine Jo ?_|fail
 all_goals rfl
theorem Zvs (ha:∀ x,x∈a→x.1.Ok∧x.1.size≤100000) (hb':∀ x,x∈b→x.1.Ok∧x.1.size≤100000) (hla:a.length≤100000) (hlb:b.length≤100000) (ba bb:Bool):∃ f,∀ H,CallOk E0 Tryz.prog 223 [slV ba 5 (pwL a),slV bb 5 (pwL b)] H (.tup [slV f 5 (pwL (Ul a b).1),.int .i64 (Ul a b).2]) H:=by
 have hVa:=ZsI ha (by omega) ba
 have hVb:=ZsI hb' (by omega) bb
 unfold Ul ZmK
 by_cases hP1:pvG a≠0
 · rw [if_pos hP1]
   exact Zm5 hP1 (.inl hVa)
 rw [if_neg hP1]
 have hP1:=Classical.not_not.1 hP1
 rw [hP1] at hVa
 by_cases hP2:pvG b≠0
 · rw [if_pos hP2]
   exact Zm5 hP2 (.inr ⟨hVa,hVb⟩)
 rw [if_neg hP2]
 have hP2:=Classical.not_not.1 hP2
 rw [hP2] at hVb
 have hb200:=Uo hP2
 have ha200:=Uo hP1
 have hpl:=Z0 b
 obtain ⟨aA, -⟩:=Qq hP1
 obtain ⟨-,bN⟩:=Qq hP2
 have hPa:PwB 1000 a:=fun x hx=>⟨ha x hx,by have:=Zcg hP1 x hx;omega,by have:=Zcg hP1 x hx;omega⟩
 have hPb:PwB 1000 b:=fun x hx=>⟨hb' x hx,by have:=Zcg hP2 x hx;omega,by have:=Zcg hP2 x hx;omega⟩
 have hfacts:∀ i,i≤b.length→V7 (insF a (b.take i))∧PwB (1000+i*1000) (insF a (b.take i))∧(insF a (b.take i)).length≤a.length+i:=fun i hi=>by
  obtain ⟨q1,q2⟩:=ZjB (B:=1000) (by decide) (b.take i) (l:=a) (C:=1000) (by decide) hPa fun x hx=>hPb x (List.mem_of_mem_take hx)
  rw [List.length_take,Nat.min_eq_left hi] at q1 q2
  exact ⟨Zf6 _ aA fun x hx=>bN x (List.mem_of_mem_take hx),q1,q2⟩
 obtain ⟨v0,bx0,hcp,hM0⟩:=Zwe ha (by omega) ba
 obtain ⟨-, -,hfl⟩:=hfacts b.length (Nat.le_refl _)
 rw [List.take_length] at hfl
 have key:∃ r H1,CallOk E0 Tryz.prog 223 [slV ba 5 (pwL a),slV bb 5 (pwL b)] hNil r H1∧∃ v' bx,r= .tup [v',.int .i64 (Zhf (insF a b)).2]∧H1=⟨bx,0,[],0⟩∧Mut 5 bx v' (pwL (Zhf (insF a b)).1):=by
  refine ZT (own:=fun _=>false) tOk fe223.ok ?_
  refine Wp.seq ?_
  repeat' first|(apply qCl;rfl;rfl;rfl;rfl;first|exact hVa _|exact hVb _|exact hcp)|refine Jl ?_|refine Jt ?_|refine Jo ?_|fail
  refine Wp.while (fun m tm H => ∃ (i : Nat) (base : TM) (v : PV) (bx : List Box), i + m = b.length ∧ Mut 5 bx v (pwL (insF a (b.take i))) ∧
    tm=ovr base [(8,v),(23,slV bb 5 (pwL b)),(24,.int .i64 (b.length:Int)),(25,.int .i64 (i:Int))]∧H=⟨bx,0,[],0⟩)
   (fun m tm H hI=>?_) b.length _ _ ⟨0,_,_,_,by omega,hM0,Zf ⟨rfl,rfl,Ze (by rw [hpl]),rfl,trivial⟩,rfl⟩
  clear hM0 hcp hVa hVb
  obtain ⟨i,base,v,bx,hi,hM,rfl,rfl⟩:=hI
  by_cases hlt:i<b.length
  · obtain ⟨x, hx⟩ : ∃ x, b[i]? = some x := ⟨b[i], by simp⟩
    have hxs:=hPb x (List.mem_of_getElem? hx)
    obtain ⟨fA,fP,fL⟩:=hfacts i (by omega)
    have hlx:=Zq (i:Int) (b.length:Int)
    rw [decide_eq_true (by omega)] at hlx
    have hal:∀ ρ,aOp E0 false ρ (.alloc 193) ⟨bx,0,[],0⟩=some (.ptr bx.length 5 0 0,⟨bx++ [.cells 5 [zcP]],0,[],0⟩):=fun ρ=>rfl
    have hwr:=ZkO bx x
    have hld:=Zpq bx x
    obtain ⟨v',B',hc,hM', -⟩:=ZjA (H:=⟨bx++ [.cells 5 [pwC x]],0,[],0⟩) (n:=x.2) fA (fP.mono (by omega)) hxs.1 (by omega) (by omega) rfl (Q7 (ext:=[.cells 5 [pwC x]]) hM)
    rw [← Zin a hx] at hM'
    have hj:=Xh hx
    obtain ⟨⟨k',nm',s',b',kz'⟩,xn⟩:=x
    simp only [pwC,Tm.cells,List.cons_append,List.nil_append] at hc hld hwr hj
    clear hM fA fP fL
    repeat' first|refine Jc hc ?_|(apply RegQ.rAl;rfl;rfl;assumption)|refine Ji ?_|(apply qLd;rfl;rfl;rfl;assumption;exact IsV.any _)|refine Jx ?_|refine Jo ?_|fail
    exact LoopI.go (m-1) (by omega) ⟨i+1,_,_,_,by omega,hM',Zf ⟨rfl,rfl,rfl,Ze (Zd (n:=i+1) (by omega)),trivial⟩,rfl⟩
  · have e : i = b.length := by omega
    subst e
    rw [List.take_length] at hM
    have hlx:=Zq (b.length:Int) (b.length:Int)
    rw [decide_eq_false (by omega)] at hlx
    obtain ⟨v',hR,hMR⟩:=Zuk (by omega) hM
    repeat' first|refine Jc hR ?_|refine Ji ?_|refine Jo ?_|fail
    exact RetR.ret rfl ⟨_,_,rfl,rfl,hMR⟩
 obtain ⟨r,H1,h1,v',bx,rfl,rfl,h2⟩:=key
 obtain ⟨F,hF⟩:=Zid (Xl _) h2
 exact ⟨F,fun H=>Wc h1 (by simp only [Zx,Z5]) (hF _) H⟩
