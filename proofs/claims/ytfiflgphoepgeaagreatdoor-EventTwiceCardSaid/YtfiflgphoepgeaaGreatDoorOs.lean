/-
  Powers: what a product leads to (exponent.result), and products (exponent.Mul).
-/
import Derived.Test.YtfiflgphoepgeaaGreatDoorOq
set_option maxHeartbeats 0
set_option maxRecDepth 100000
namespace Go.Vm.Seat
variable {l:List Pw}
open Go.Proofs
def zcP:List PV:=[.int .i64 0,.str [],.int .i64 0,.nils,.int .i64 0]
theorem ZiD (bx:List Box) (x:Pw):Heap.wr ⟨bx++ [.cells 5 [zcP]],0,[],0⟩ (.ptr bx.length 5 0 0) (pwC x)=some ⟨bx++ [.cells 5 [pwC x]],0,[],0⟩:=by
 have h:=Zb5 (H:=⟨bx++ [.cells 5 [zcP]],0,[],0⟩) (id:=bx.length) (es:=5) (ix:=0) (off:=0) (el:=[zcP]) (cs:=pwC x) (old:=zcP) (Vv _ _) rfl (by rw [Zdz];exact Nat.le_refl 5) (Nat.zero_le _)
 rw [h]
 obtain ⟨⟨k',nm',s',b',kz'⟩,n⟩:=x
 simp [pwC,Tm.cells,zcP]
theorem Zl8 (bx:List Box) (x:Pw):YK E0 157 (.ptr bx.length 5 0 0) ⟨bx++ [.cells 5 [pwC x]],0,[],0⟩=some (.agg (pwC x)):=by
 obtain ⟨⟨k',nm',s',b',kz'⟩,n⟩:=x
 exact Zaz rfl rfl (el:=[pwC (Tm.mk k' nm' s' b' kz',n)]) (Vv _ _) rfl rfl
theorem Zkc (bx:List Box) (x:Pw):YK E0 41 (.ptr bx.length 5 0 0) ⟨bx++ [.cells 5 [pwC x]],0,[],0⟩=some (.agg x.1.cells):=by
 obtain ⟨ti,ht,hk,hs⟩:∃ ti,E0.T 41=some ti∧UL ti.tk=true∧ti.size=4:=⟨_,rfl,rfl,rfl⟩
 obtain ⟨⟨k',nm',s',b',kz'⟩,n⟩:=x
 simp only [YK,ht,hk,if_true]
 rw [Zmf (Vv _ _) (cs:=pwC (Tm.mk k' nm' s' b' kz',n)) rfl (by rw [Zdz];omega)]
 simp only [Zgq,hk,if_true,hs]
 rfl
theorem ZjG (bx:List Box) (x:Pw):YK E0 3 (.ptr bx.length 5 0 4) ⟨bx++ [.cells 5 [pwC x]],0,[],0⟩=some (.int .i64 x.2):=
 ZeN (ti:=⟨.int .i64,1,8,.int .i64 0⟩) rfl rfl (el:=[pwC x]) (Vv _ _) rfl (by
  obtain ⟨⟨k,nm,s,b,kz⟩,m⟩:=x
  rfl)
theorem ZoR {bx:List Box} {v:PV} (y:Pw) (hv:Mut 5 bx v (pwL l)) (hl:l.length≤1000000):∃ bx',ZV E0 116 116 v (.sl .full 5 [pwC y]) ⟨bx,0,[],0⟩=some (.own bx.length 5 0 (l.length+1),⟨bx',0,[],0⟩)∧Mut 5 bx' (.own bx.length 5 0 (l.length+1)) (pwL (l++ [y]))∧bx'.length=bx.length+1:=by
 have hok:(pwL [y]).all (fun c=>c.all Z0)=true:=Q6 [y]
 rcases WB hv with ⟨rfl,rfl⟩|⟨k,rfl,hk⟩
 · have he := ZU (s := .nils) apT_pw (ElV.sl .full 5 (pwL [y])) hok rfl rfl ⟨bx, 0, [], 0⟩
   refine ⟨bx++ [.cells 5 (pwL [y])],?_,?_,by simp⟩
   · have he : XR E0 116 116 .nils (.sl .full 5 [pwC y]) ⟨bx, 0, [], 0⟩ = some (5, 64, [pwC y]) := he
     simp only [ZV,he,YN]
     rw [if_pos (ZS (by simp) (by decide))]
     rfl
   · exact .own bx.length (pwL [y]) (by simp)
 · have hnth : nth bx k = some (.cells 5 (pwL l)) := (Zo _ _).trans hk
   have hs:=ZfE (H:=⟨bx,0,[],0⟩) (id:=k) (M:=l) hnth
   have he:XR E0 116 116 (.own k 5 0 l.length) (.sl .full 5 [pwC y]) ⟨bx,0,[],0⟩=some (5,64,[pwC y]):=ZU (s:= .own k 5 0 l.length) apT_pw (ElV.sl .full 5 (pwL [y])) hok rfl rfl ⟨bx,0,[],0⟩
   refine ⟨bx.set k .dead++ [.cells 5 (pwL (l++ [y]))],?_,?_,by simp⟩
   · simp only [ZV, he, YN, Vt, hs]
     rw [if_pos ⟨trivial,Nat.zero_le _,ZO l,ZS (by rw [ZO];simp;omega) (by decide)⟩,Zd7,ZO]
     rfl
   · have := Mut.own (es := 5) (bx := bx.set k .dead ++ [.cells 5 (pwL (l ++ [y]))]) bx.length (pwL (l ++ [y])) (by rw [List.getElem?_append_right (by simp)]; simp)
     rwa [ZO,List.length_append] at this
theorem ZsF (hl:∀ x,x∈l→x.1.Ok∧x.1.size≤100000) (hlen:l.length≤1000) (b:Bool):∃ v bx,CallOk E0 Tryz.prog 162 [slV b 5 (pwL l)] hNil v ⟨bx,0,[],0⟩∧Mut 5 bx v (pwL l):=by
 have hpl:=ZO l
 have key:∃ r H1,CallOk E0 Tryz.prog 162 [slV b 5 (pwL l)] hNil r H1∧∃ bx,H1=⟨bx,0,[],0⟩∧Mut 5 bx r (pwL l):=by
  refine ZY (own:=fun d=>Nat.beq d 20) tOk fe162.ok ?_
  refine Wp.seq ?_
  repeat' first|refine Jl ?_|refine Jo ?_|fail
  refine Wp.while (fun m tm H => ∃ (i : Nat) (base : TM) (v : PV) (bx : List Box), i + m = l.length ∧ Mut 5 bx v (pwL (l.take i)) ∧
    tm=ovr base [(3,v),(6,slV b 5 (pwL l)),(7,.int .i64 (l.length:Int)),(8,.int .i64 (i:Int))]∧H=⟨bx,0,[],0⟩)
   (fun m tm H hI=>?_) l.length _ _ ⟨0,_,_,_,by omega,.nil,Zf ⟨rfl,rfl,Zd (by rw [hpl]),rfl,trivial⟩,rfl⟩
  obtain ⟨i,base,v,bx,hi,hM,rfl,rfl⟩:=hI
  by_cases hlt:i<l.length
  · obtain ⟨x, hx⟩ : ∃ x, l[i]? = some x := ⟨l[i], by simp⟩
    have hxs:=hl x (List.mem_of_getElem? hx)
    have hc:=Zpm hxs.1 hxs.2
    have hlx:=Zt (i:Int) (l.length:Int)
    rw [decide_eq_true (by omega)] at hlx
    have hal:∀ ρ,aOp E0 false ρ (.alloc 157) ⟨bx,0,[],0⟩=some (.ptr bx.length 5 0 0,⟨bx++ [.cells 5 [zcP]],0,[],0⟩):=fun ρ=>rfl
    have hwr:=ZiD bx x
    have hld:=Zkc bx x
    have hldn:=ZjG bx x
    obtain ⟨bx',hap,hM',hbl⟩:=ZoR x (ZaZ (ext:=[.cells 5 [pwC x]]) hM) (by rw [List.length_take];omega)
    have hle:(bx++ [Box.cells 5 [pwC x]]).length≤bx'.length:=by omega
    have etk:l.take (i+1)=l.take i++ [x]:=by rw [List.take_add_one,hx];rfl
    rw [← etk] at hM'
    rw [List.length_take,Nat.min_eq_left (by omega)] at hap hM'
    have hbt:Nat.blt bx.length (bx++ [Box.cells 5 [pwC x]]).length=true:=by simp [Nat.blt]
    have hbd:=Zcz x.1 x.2
    have hj:=Xb hx
    obtain ⟨⟨k',nm',s',b',kz'⟩,xn⟩:=x
    simp only [pwC,Tm.cells,List.cons_append,List.nil_append] at hc hld hldn hwr hbd hj hap hle hbt
    clear hM
    repeat' first|(apply RegQ.rAl;rfl;rfl;assumption)|refine Ji ?_|(apply qLd;rfl;rfl;rfl;assumption;exact IsV.any _)|refine Jx ?_|refine Jo ?_|refine Jd (hc _) ?_|refine JB ?_|(apply ZtN;rfl;rfl;rfl;rfl;rfl;rfl;assumption;assumption)|(apply dBd;rfl;rfl;rfl;assumption;exact IsV.aggN;rfl)|(apply dLd;rfl;rfl;rfl;assumption;exact IsV.any _;(first|rfl|(show Nat.blt _ _=true;first|assumption|(simp [Nat.blt];done))))|refine Jh ?_|(apply Wp.draw tOk follows;kernel_rfl)|fail
    exact LoopI.go (m-1) (by omega) ⟨i+1,_,_,_,by omega,hM',Zf ⟨rfl,rfl,rfl,Zd (Zc (n:=i+1) (by omega)),trivial⟩,rfl⟩
  · have e : i = l.length := by omega
    subst e
    rw [List.take_length] at hM
    have hlx:=Zt (l.length:Int) (l.length:Int)
    rw [decide_eq_false (by omega)] at hlx
    repeat' first|refine Ji ?_|refine Jo ?_|fail
    exact RetR.ret rfl ⟨bx,rfl,hM⟩
 obtain ⟨r,H1,h1,bx,rfl,h2⟩:=key
 exact ⟨r,bx,h1,h2⟩
end Go.Vm.Seat
namespace Go.Vm
variable {l:List Pw} {i:Nat} {x:Pw}
theorem ZgL (h:l[i]? = some x):(l.drop i).any (fun x=>Z9 x.2 1000)=(Z9 x.2 1000||(l.drop (i+1)).any (fun x=>Z9 x.2 1000)):=by
 rw [ZC h];rfl
theorem ZiB:∀ (p:Option Tm) (l:List Pw),pvL p l=0→∀ x,x∈l→ -1000≤x.2∧x.2≤1000
 |p,[],h=>fun x hx=>absurd hx (by simp)
 | p, x :: r, h => by
   simp only [pvL] at h
   split at h
   · rename_i h1;exact absurd h h1
   split at h
   · exact absurd h (by decide)
   split at h
   · exact absurd h (by decide)
   rename_i h3
   split at h
   · exact absurd h (by decide)
   intro y hy
   rcases List.mem_cons.1 hy with rfl|hy
   · simp only [Z9, Bool.or_eq_true, decide_eq_true_eq] at h3
     omega
   · exact ZiB _ r h y hy
theorem ZbB (h:pvG l=0):∀ x,x∈l→ -1000≤x.2∧x.2≤1000:=by
 unfold pvG at h
 split at h
 · exact absurd h (by decide)
 exact ZiB none l h
theorem ZfK:∀ (b:List Pw) {l:List Pw},Vb l→(∀ x,x∈b→x.2≠0)→Vb (insF l b)
 | [],_,h,_=>h
 |x::r,l,h,hb=>ZfK r (l:=Ww l x.1 x.2) (U0 h (hb x List.mem_cons_self)) fun y hy=>hb y (List.mem_cons_of_mem _ hy)
theorem Zh7 {b:List Pw} (a:List Pw) (h:b[i]? = some x):insF a (b.take (i+1))=Ww (insF a (b.take i)) x.1 x.2:=XA (f:=fun l (x:Pw)=>Ww l x.1 x.2) h
end Go.Vm
namespace Go.Vm.Seat
variable {a b l:List Pw} {v:PV} {bx:List Box}
open Go.Proofs
theorem Zsk (x:Pw):∀ H,CallOk E0 Tryz.prog 198 [.agg (pwC x)] H (.bool (Z9 x.2 1000)) H:=by
 have hL:=Zt x.2 (-1000)
 have hG:=Xw x.2 1000
 unfold Z9
 generalize decide (x.2< -1000)=bL at hL ⊢
 generalize decide ((1000:Int)<x.2)=bG at hG ⊢
 obtain ⟨⟨k,nm,s,b,kz⟩,n⟩:=x
 simp only [pwC,Tm.cells,List.cons_append,List.nil_append]
 refine Jw tOk fe198.ok rfl ?_
 cases bL<;>cases bG
 all_goals
  repeat' first|refine Jk ?_|refine Ji ?_|refine Jt ?_|refine Jo ?_|fail
  all_goals rfl
theorem ixP (hlen:l.length≤1000000) (hM:Mut 5 bx v (pwL l)):∃ r:Int,CallOk E0 Tryz.prog 218 [v,.fn 198 []] ⟨bx,0,[],0⟩ (.int .i64 r) ⟨bx,0,[],0⟩∧decide (0≤r)=l.any (fun x=>Z9 x.2 1000):=by
 have key:∃ r H1,CallOk E0 Tryz.prog 218 [v,.fn 198 []] ⟨bx,0,[],0⟩ r H1∧∃ z:Int,r= .int .i64 z∧H1=⟨bx,0,[],0⟩∧decide (0≤z)=l.any (fun x=>Z9 x.2 1000):=by
  obtain ⟨A,hA⟩:∃ A,A=l.any (fun x=>Z9 x.2 1000):=⟨_,rfl⟩
  rw [← hA]
  refine ZY (own:=fun _=>false) tOk fe218.ok ?_
  refine Wp.seq ?_
  rcases WB hM with ⟨rfl,rfl⟩|⟨k,rfl,hk⟩
  · clear hM
    repeat' first|refine Jo ?_|fail
    refine Wp.loop ?_
    repeat' first|(apply qF (ty:=0);rfl;rfl;rfl)|refine Jo ?_|fail
    refine LoopQ.exit ?_
    repeat' first|refine Jo ?_|fail
    exact RetR.ret rfl ⟨_,rfl,rfl,by rw [hA];rfl⟩
  · have hnth : nth bx k = some (.cells 5 (pwL l)) := (Zo _ _).trans hk
    clear hM
    repeat' first|refine Jo ?_|fail
    refine Wp.while (fun m tm H => ∃ (i : Nat) (base : TM), i + m = l.length ∧ (l.drop i).any (fun x => Z9 x.2 1000) = A ∧
      tm=ovr base [(0,.own k 5 0 l.length),(1,.fn 198 []),(7,.int .i64 (l.length:Int)),(8,.int .i64 (i:Int))]∧H=⟨bx,0,[],0⟩)
     (fun m tm H hI=>?_) l.length _ _ ⟨0,_,by omega,by rw [List.drop_zero,hA],Zf ⟨rfl,rfl,rfl,rfl,trivial⟩,rfl⟩
    obtain ⟨i,base,hi,hgo,rfl,rfl⟩:=hI
    clear hA
    by_cases hlt:i<l.length
    · obtain ⟨x, hx⟩ : ∃ x, l[i]? = some x := ⟨l[i], by simp⟩
      have hlx:=Zt (i:Int) (l.length:Int)
      rw [decide_eq_true (by omega)] at hlx
      have hia:=Zkx (id:=k) (ix:=0) hlt
      rw [Nat.zero_add] at hia
      have hld:=ZmP (H:=⟨bx,0,[],0⟩) hnth hx
      have hc:=Zsk x
      have hd:=ZgL hx
      rw [hd] at hgo
      generalize Z9 x.2 1000=o at hc hgo
      clear hd
      obtain ⟨⟨k',nm',s',b',kz'⟩,xn⟩:=x
      simp only [pwC,Tm.cells,List.cons_append,List.nil_append] at hc hld
      cases o
      · rw [Bool.false_or] at hgo
        repeat' first|refine Jc (hc _) ?_|refine Ji ?_|refine JJ ?_|(apply qLd;rfl;rfl;rfl;assumption;exact IsV.any _)|refine Jo ?_|fail
        exact LoopI.go (m-1) (by omega) ⟨i+1,_,by omega,hgo,Zf ⟨rfl,rfl,rfl,Zd (Zc (n:=i+1) (by omega)),trivial⟩,rfl⟩
      · rw [Bool.true_or] at hgo
        repeat' first|refine Jc (hc _) ?_|refine Ji ?_|refine JJ ?_|(apply qLd;rfl;rfl;rfl;assumption;exact IsV.any _)|refine Jo ?_|fail
        exact RetR.ret rfl ⟨_,rfl,rfl,by rw [← hgo];exact decide_eq_true (by omega)⟩
    · have e : i = l.length := by omega
      subst e
      rw [List.drop_length] at hgo
      have hlx:=Zt (l.length:Int) (l.length:Int)
      rw [decide_eq_false (by omega)] at hlx
      repeat' first|refine Ji ?_|refine Jo ?_|fail
      exact RetR.ret rfl ⟨_,rfl,rfl,by rw [← hgo];rfl⟩
 obtain ⟨r,H1,h1,z,rfl,rfl,h2⟩:=key
 exact ⟨z,h1,h2⟩
theorem ZrM (hlen:l.length≤1000000) (hM:Mut 5 bx v (pwL l)):CallOk E0 Tryz.prog 197 [v,.fn 198 []] ⟨bx,0,[],0⟩ (.bool (l.any (fun x=>Z9 x.2 1000))) ⟨bx,0,[],0⟩:=by
 obtain ⟨r,hc,e⟩:=ixP hlen hM
 have hge:=UT r 0
 rw [e] at hge
 generalize l.any (fun x=>Z9 x.2 1000)=A at hge ⊢
 clear e
 cases A
 all_goals
  refine YG (own:=fun _=>false) tOk fe197.ok ?_
  refine Wp.seq ?_
  repeat' first|refine Jc hc ?_|refine Ji ?_|refine Jt ?_|refine Jo ?_|fail
  all_goals exact RetE.ret rfl rfl rfl
theorem ZsS (hlen:l.length≤1000000) (hM:Mut 5 bx v (pwL l)):∃ v',CallOk E0 Tryz.prog 163 [v] ⟨bx,0,[],0⟩ (.tup [v',.int .i64 (Zf3 l).2]) ⟨bx,0,[],0⟩∧Mut 5 bx v' (pwL (Zf3 l).1):=by
 have hc:=ZrM hlen hM
 have hgt:=Xw (l.length:Int) 200
 unfold Zf3
 generalize l.any (fun x=>Z9 x.2 1000)=A at hc ⊢
 cases A
 · rw [if_neg (by decide)]
   by_cases h:200<l.length
   · rw [if_pos h]
     rw [decide_eq_true (by omega)] at hgt
     refine ⟨.nils,?_,.nil⟩
     rcases WB hM with ⟨rfl,rfl⟩|⟨k,rfl,hk⟩
     · simp at h
     refine YG (own:=fun _=>false) tOk fe163.ok ?_
     refine Wp.seq ?_
     repeat' first|refine Jc hc ?_|refine Ji ?_|refine Jo ?_|fail
     all_goals exact RetE.ret rfl rfl rfl
   · rw [if_neg h]
     rw [decide_eq_false (by omega)] at hgt
     refine ⟨v,?_,hM⟩
     refine YG (own:=fun _=>false) tOk fe163.ok ?_
     refine Wp.seq ?_
     rcases WB hM with ⟨rfl,rfl⟩|⟨k,rfl,hk⟩
     all_goals
      repeat' first|refine Jc hc ?_|refine Ji ?_|refine Jo ?_|fail
      all_goals exact RetE.ret rfl rfl rfl
 · rw [if_pos rfl]
   refine ⟨.nils,?_,.nil⟩
   refine YG (own:=fun _=>false) tOk fe163.ok ?_
   refine Wp.seq ?_
   repeat' first|refine Jc hc ?_|refine Jo ?_|fail
   all_goals exact RetE.ret rfl rfl rfl
theorem Zk8 {ba bb:Bool} {e:Int} (he:e≠0) (h:(∀ H,CallOk E0 Tryz.prog 120 [slV ba 5 (pwL a)] H (.int .i64 e) H)∨((∀ H,CallOk E0 Tryz.prog 120 [slV ba 5 (pwL a)] H (.int .i64 0) H)∧∀ H,CallOk E0 Tryz.prog 120 [slV bb 5 (pwL b)] H (.int .i64 e) H)):∃ f,∀ H,CallOk E0 Tryz.prog 124 [slV ba 5 (pwL a),slV bb 5 (pwL b)] H (.tup [slV f 5 (pwL []),.int .i64 e]) H:=by
 have hnil:slV true 5 (pwL [])= .nils:=Zh 5
 refine ⟨true,?_⟩
 rw [hnil]
 have hne:=YQ he
 refine Jw tOk fe124.ok rfl ?_
 rcases h with hVa|⟨hVa,hVb⟩
 · have hVb := hVa
   repeat' first|refine Jc (hVa _) ?_|refine Ji ?_|refine Jo ?_|fail
   all_goals rfl
 repeat' first|refine Jc (hVa _) ?_|refine Jc (hVb _) ?_|refine Ji ?_|refine Jt ?_|refine Jo ?_|fail
 all_goals rfl
theorem Zsz (ha:∀ x,x∈a→x.1.Ok∧x.1.size≤100000) (hb':∀ x,x∈b→x.1.Ok∧x.1.size≤100000) (hla:a.length≤100000) (hlb:b.length≤100000) (ba bb:Bool):∃ f,∀ H,CallOk E0 Tryz.prog 124 [slV ba 5 (pwL a),slV bb 5 (pwL b)] H (.tup [slV f 5 (pwL (Vp a b).1),.int .i64 (Vp a b).2]) H:=by
 have hVa:=Zpw ha (by omega) ba
 have hVb:=Zpw hb' (by omega) bb
 unfold Vp Zlu
 by_cases hP1:pvG a≠0
 · rw [if_pos hP1]
   exact Zk8 hP1 (.inl hVa)
 rw [if_neg hP1]
 have hP1:=Classical.not_not.1 hP1
 rw [hP1] at hVa
 by_cases hP2:pvG b≠0
 · rw [if_pos hP2]
   exact Zk8 hP2 (.inr ⟨hVa,hVb⟩)
 rw [if_neg hP2]
 have hP2:=Classical.not_not.1 hP2
 rw [hP2] at hVb
 have hb200:=Vs hP2
 have ha200:=Vs hP1
 have hpl:=ZO b
 obtain ⟨aA, -⟩:=UA hP1
 obtain ⟨-,bN⟩:=UA hP2
 have hPa:PwB 1000 a:=fun x hx=>⟨ha x hx,by have:=ZbB hP1 x hx;omega,by have:=ZbB hP1 x hx;omega⟩
 have hPb:PwB 1000 b:=fun x hx=>⟨hb' x hx,by have:=ZbB hP2 x hx;omega,by have:=ZbB hP2 x hx;omega⟩
 have hfacts:∀ i,i≤b.length→Vb (insF a (b.take i))∧PwB (1000+i*1000) (insF a (b.take i))∧(insF a (b.take i)).length≤a.length+i:=fun i hi=>by
  obtain ⟨q1,q2⟩:=Zha (B:=1000) (by decide) (b.take i) (l:=a) (C:=1000) (by decide) hPa fun x hx=>hPb x (List.mem_of_mem_take hx)
  rw [List.length_take,Nat.min_eq_left hi] at q1 q2
  exact ⟨ZfK _ aA fun x hx=>bN x (List.mem_of_mem_take hx),q1,q2⟩
 obtain ⟨v0,bx0,hcp,hM0⟩:=ZsF ha (by omega) ba
 obtain ⟨-, -,hfl⟩:=hfacts b.length (Nat.le_refl _)
 rw [List.take_length] at hfl
 have key:∃ r H1,CallOk E0 Tryz.prog 124 [slV ba 5 (pwL a),slV bb 5 (pwL b)] hNil r H1∧∃ v' bx,r= .tup [v',.int .i64 (Zf3 (insF a b)).2]∧H1=⟨bx,0,[],0⟩∧Mut 5 bx v' (pwL (Zf3 (insF a b)).1):=by
  refine ZY (own:=fun _=>false) tOk fe124.ok ?_
  refine Wp.seq ?_
  repeat' first|(apply qCl;rfl;rfl;rfl;rfl;first|exact hVa _|exact hVb _|exact hcp)|refine Jl ?_|refine Jt ?_|refine Jo ?_|fail
  refine Wp.while (fun m tm H => ∃ (i : Nat) (base : TM) (v : PV) (bx : List Box), i + m = b.length ∧ Mut 5 bx v (pwL (insF a (b.take i))) ∧
    tm=ovr base [(8,v),(23,slV bb 5 (pwL b)),(24,.int .i64 (b.length:Int)),(25,.int .i64 (i:Int))]∧H=⟨bx,0,[],0⟩)
   (fun m tm H hI=>?_) b.length _ _ ⟨0,_,_,_,by omega,hM0,Zf ⟨rfl,rfl,Zd (by rw [hpl]),rfl,trivial⟩,rfl⟩
  clear hM0 hcp hVa hVb
  obtain ⟨i,base,v,bx,hi,hM,rfl,rfl⟩:=hI
  by_cases hlt:i<b.length
  · obtain ⟨x, hx⟩ : ∃ x, b[i]? = some x := ⟨b[i], by simp⟩
    have hxs:=hPb x (List.mem_of_getElem? hx)
    obtain ⟨fA,fP,fL⟩:=hfacts i (by omega)
    have hlx:=Zt (i:Int) (b.length:Int)
    rw [decide_eq_true (by omega)] at hlx
    have hal:∀ ρ,aOp E0 false ρ (.alloc 157) ⟨bx,0,[],0⟩=some (.ptr bx.length 5 0 0,⟨bx++ [.cells 5 [zcP]],0,[],0⟩):=fun ρ=>rfl
    have hwr:=ZiD bx x
    have hld:=Zl8 bx x
    obtain ⟨v',B',hc,hM', -⟩:=ZiS (H:=⟨bx++ [.cells 5 [pwC x]],0,[],0⟩) (n:=x.2) fA (fP.mono (by omega)) hxs.1 (by omega) (by omega) rfl (ZaZ (ext:=[.cells 5 [pwC x]]) hM)
    rw [← Zh7 a hx] at hM'
    have hj:=Xb hx
    obtain ⟨⟨k',nm',s',b',kz'⟩,xn⟩:=x
    simp only [pwC,Tm.cells,List.cons_append,List.nil_append] at hc hld hwr hj
    clear hM fA fP fL
    repeat' first|refine Jc hc ?_|(apply RegQ.rAl;rfl;rfl;assumption)|refine Ji ?_|(apply qLd;rfl;rfl;rfl;assumption;exact IsV.any _)|refine Jx ?_|refine Jo ?_|fail
    exact LoopI.go (m-1) (by omega) ⟨i+1,_,_,_,by omega,hM',Zf ⟨rfl,rfl,rfl,Zd (Zc (n:=i+1) (by omega)),trivial⟩,rfl⟩
  · have e : i = b.length := by omega
    subst e
    rw [List.take_length] at hM
    have hlx:=Zt (b.length:Int) (b.length:Int)
    rw [decide_eq_false (by omega)] at hlx
    obtain ⟨v',hR,hMR⟩:=ZsS (by omega) hM
    repeat' first|refine Jc hR ?_|refine Ji ?_|refine Jo ?_|fail
    exact RetR.ret rfl ⟨_,_,rfl,rfl,hMR⟩
 obtain ⟨r,H1,h1,v',bx,rfl,rfl,h2⟩:=key
 obtain ⟨F,hF⟩:=ZiT (Y4 _) h2
 exact ⟨F,fun H=>Wt h1 (by simp only [ZM,YP]) (hF _) H⟩
