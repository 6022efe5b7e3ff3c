/-
  Powers: what a product leads to (exponent.result), and products (exponent.Mul).
-/
import Derived.Test.YtnnfkocifnflgaaGreatDoorOr
set_option maxHeartbeats 0
set_option maxRecDepth 100000
namespace Go.Vm
variable {l:List Pw} {i:Nat} {x:Pw}
theorem Zfg (h:l[i]? = some x):(l.drop i).any (fun x=>Z4 x.2 1000)=(Z4 x.2 1000||(l.drop (i+1)).any (fun x=>Z4 x.2 1000)):=by
 rw [ZL h];rfl
theorem Zf4:∀ (p:Option Tm) (l:List Pw),pvL p l=0→∀ x,x∈l→ -1000≤x.2∧x.2≤1000
 |p,[],h=>fun x hx=>absurd hx (by simp)
 | p, x :: r, h => by
   simp only [pvL] at h
   split at h
   · rename_i h1;exact absurd h h1
   split at h
   · exact absurd h (by decide)
   split at h
   · exact absurd h (by decide)
   rename_i h3
   split at h
   · exact absurd h (by decide)
   intro y hy
   rcases List.mem_cons.1 hy with rfl|hy
   · simp only [Z4, Bool.or_eq_true, decide_eq_true_eq] at h3
     omega
   · exact Zf4 _ r h y hy
theorem Za4 (h:pvG l=0):∀ x,x∈l→ -1000≤x.2∧x.2≤1000:=by
 unfold pvG at h
 split at h
 · exact absurd h (by decide)
 exact Zf4 none l h
theorem ZdX:∀ (b:List Pw) {l:List Pw},W3 l→(∀ x,x∈b→x.2≠0)→W3 (insF l b)
 | [],_,h,_=>h
 |x::r,l,h,hb=>ZdX r (l:=Wh l x.1 x.2) (US h (hb x List.mem_cons_self)) fun y hy=>hb y (List.mem_cons_of_mem _ hy)
theorem ZfE {b:List Pw} (a:List Pw) (h:b[i]? = some x):insF a (b.take (i+1))=Wh (insF a (b.take i)) x.1 x.2:=XZ (f:=fun l (x:Pw)=>Wh l x.1 x.2) h
end Go.Vm
namespace Go.Vm.Seat
variable {a b l:List Pw} {v:PV} {bx:List Box}
open Go.Proofs
theorem ZoP (x:Pw):∀ H,CallOk E0 Tryz.prog 188 [.agg (pwC x)] H (.bool (Z4 x.2 1000)) H:=by
 have hL:=Zt x.2 (-1000)
 have hG:=XK x.2 1000
 unfold Z4
 generalize decide (x.2< -1000)=bL at hL ⊢
 generalize decide ((1000:Int)<x.2)=bG at hG ⊢
 obtain ⟨⟨k,nm,s,b,kz⟩,n⟩:=x
 simp only [pwC,Tm.cells,List.cons_append,List.nil_append]
 refine Jw tOk fe188.ok rfl ?_
 cases bL<;>cases bG
 all_goals
  repeat' first|refine Jk ?_|refine Ji ?_|refine Jt ?_|refine Jb ?_ ?_|refine Jo ?_|intro hb
  all_goals rfl
theorem ixP (hlen:l.length≤1000000) (hM:Mut 5 bx v (pwL l)):∃ r:Int,CallOk E0 Tryz.prog 205 [v,.fn 188 []] ⟨bx,0,[],0⟩ (.int .i64 r) ⟨bx,0,[],0⟩∧decide (0≤r)=l.any (fun x=>Z4 x.2 1000):=by
 have key:∃ r H1,CallOk E0 Tryz.prog 205 [v,.fn 188 []] ⟨bx,0,[],0⟩ r H1∧∃ z:Int,r= .int .i64 z∧H1=⟨bx,0,[],0⟩∧decide (0≤z)=l.any (fun x=>Z4 x.2 1000):=by
  obtain ⟨A,hA⟩:∃ A,A=l.any (fun x=>Z4 x.2 1000):=⟨_,rfl⟩
  rw [← hA]
  refine ZW (own:=fun _=>false) tOk fe205.ok ?_
  refine Wp.seq ?_
  rcases Wz hM with ⟨rfl,rfl⟩|⟨k,rfl,hk⟩
  · clear hM
    repeat' first|refine Ji ?_|refine JJ ?_|refine Jl ?_|refine Jx ?_|refine Jt ?_|refine Jb ?_ ?_|(apply qT (ty:=0);rfl;rfl;rfl)|(apply qF (ty:=0);rfl;rfl;rfl)|refine Jz ?_ ?_|refine Jo ?_|intro hb
    refine Wp.loop ?_
    repeat' first|refine Ji ?_|refine JJ ?_|refine Jl ?_|refine Jx ?_|refine Jt ?_|refine Jb ?_ ?_|(apply qT (ty:=0);rfl;rfl;rfl)|(apply qF (ty:=0);rfl;rfl;rfl)|refine Jz ?_ ?_|refine Jo ?_|intro hb
    refine LoopQ.exit ?_
    repeat' first|refine Ji ?_|refine JJ ?_|refine Jl ?_|refine Jx ?_|refine Jt ?_|refine Jb ?_ ?_|(apply qT (ty:=0);rfl;rfl;rfl)|(apply qF (ty:=0);rfl;rfl;rfl)|refine Jz ?_ ?_|refine Jo ?_|intro hb
    exact RetR.ret rfl ⟨_,rfl,rfl,by rw [hA];rfl⟩
  · have hnth : nth bx k = some (.cells 5 (pwL l)) := (Zn _ _).trans hk
    clear hM
    repeat' first|refine Ji ?_|refine JJ ?_|refine Jl ?_|refine Jx ?_|refine Jt ?_|refine Jb ?_ ?_|(apply qT (ty:=0);rfl;rfl;rfl)|(apply qF (ty:=0);rfl;rfl;rfl)|refine Jz ?_ ?_|refine Jo ?_|intro hb
    refine Wp.while (fun m tm H => ∃ (i : Nat) (base : TM), i + m = l.length ∧ (l.drop i).any (fun x => Z4 x.2 1000) = A ∧
      tm=ovr base [(0,.own k 5 0 l.length),(1,.fn 188 []),(7,.int .i64 (l.length:Int)),(8,.int .i64 (i:Int))]∧H=⟨bx,0,[],0⟩)
     (fun m tm H hI=>?_) l.length _ _ ⟨0,_,by omega,by rw [List.drop_zero,hA],Zf ⟨rfl,rfl,rfl,rfl,trivial⟩,rfl⟩
    obtain ⟨i,base,hi,hgo,rfl,rfl⟩:=hI
    clear hA
    by_cases hlt:i<l.length
    · obtain ⟨x, hx⟩ : ∃ x, l[i]? = some x := ⟨l[i], by simp⟩
      have hlx:=Zt (i:Int) (l.length:Int)
      rw [decide_eq_true (by omega)] at hlx
      have hia:=Zhn (id:=k) (ix:=0) hlt
      rw [Nat.zero_add] at hia
      have hld:=Zi7 (H:=⟨bx,0,[],0⟩) hnth hx
      have hc:=ZoP x
      have hd:=Zfg hx
      rw [hd] at hgo
      generalize Z4 x.2 1000=o at hc hgo
      clear hd
      obtain ⟨⟨k',nm',s',b',kz'⟩,xn⟩:=x
      simp only [pwC,Tm.cells,List.cons_append,List.nil_append] at hc hld
      cases o
      · rw [Bool.false_or] at hgo
        repeat' first|refine Jc (hc _) ?_|refine Ji ?_|refine JJ ?_|(apply qLe;rfl;rfl;rfl;assumption;exact IsV.any _)|(apply qLd;rfl;rfl;rfl;assumption;exact IsV.any _)|refine Jl ?_|refine Jx ?_|refine Jt ?_|refine Jb ?_ ?_|(apply qT (ty:=0);rfl;rfl;rfl)|(apply qF (ty:=0);rfl;rfl;rfl)|refine Jz ?_ ?_|refine Jo ?_|intro hb
        exact LoopI.go (m-1) (by omega) ⟨i+1,_,by omega,hgo,Zf ⟨rfl,rfl,rfl,Ze (Zc (n:=i+1) (by omega)),trivial⟩,rfl⟩
      · rw [Bool.true_or] at hgo
        repeat' first|refine Jc (hc _) ?_|refine Ji ?_|refine JJ ?_|(apply qLe;rfl;rfl;rfl;assumption;exact IsV.any _)|(apply qLd;rfl;rfl;rfl;assumption;exact IsV.any _)|refine Jl ?_|refine Jx ?_|refine Jt ?_|refine Jb ?_ ?_|(apply qT (ty:=0);rfl;rfl;rfl)|(apply qF (ty:=0);rfl;rfl;rfl)|refine Jz ?_ ?_|refine Jo ?_|intro hb
        exact RetR.ret rfl ⟨_,rfl,rfl,by rw [← hgo];exact decide_eq_true (by omega)⟩
    · have e : i = l.length := by omega
      subst e
      rw [List.drop_length] at hgo
      have hlx:=Zt (l.length:Int) (l.length:Int)
      rw [decide_eq_false (by omega)] at hlx
      repeat' first|refine Ji ?_|refine JJ ?_|refine Jl ?_|refine Jx ?_|refine Jt ?_|refine Jb ?_ ?_|(apply qT (ty:=0);rfl;rfl;rfl)|(apply qF (ty:=0);rfl;rfl;rfl)|refine Jz ?_ ?_|refine Jo ?_|intro hb
      exact RetR.ret rfl ⟨_,rfl,rfl,by rw [← hgo];rfl⟩
 obtain ⟨r,H1,h1,z,rfl,rfl,h2⟩:=key
 exact ⟨z,h1,h2⟩
theorem Zpj (hlen:l.length≤1000000) (hM:Mut 5 bx v (pwL l)):CallOk E0 Tryz.prog 187 [v,.fn 188 []] ⟨bx,0,[],0⟩ (.bool (l.any (fun x=>Z4 x.2 1000))) ⟨bx,0,[],0⟩:=by
 obtain ⟨r,hc,e⟩:=ixP hlen hM
 have hge:=QI r 0
 rw [e] at hge
 generalize l.any (fun x=>Z4 x.2 1000)=A at hge ⊢
 clear e
 cases A
 all_goals
  refine Yy (own:=fun _=>false) tOk fe187.ok ?_
  refine Wp.seq ?_
  repeat' first|refine Jc hc ?_|refine Ji ?_|refine Jt ?_|refine Jb ?_ ?_|refine Jo ?_|intro hb
  all_goals exact RetE.ret rfl rfl rfl
theorem Zpy (hlen:l.length≤1000000) (hM:Mut 5 bx v (pwL l)):∃ v',CallOk E0 Tryz.prog 158 [v] ⟨bx,0,[],0⟩ (.tup [v',.int .i64 (ZeQ l).2]) ⟨bx,0,[],0⟩∧Mut 5 bx v' (pwL (ZeQ l).1):=by
 have hc:=Zpj hlen hM
 have hgt:=XK (l.length:Int) 200
 unfold ZeQ
 generalize l.any (fun x=>Z4 x.2 1000)=A at hc ⊢
 cases A
 · rw [if_neg (by decide)]
   by_cases h:200<l.length
   · rw [if_pos h]
     rw [decide_eq_true (by omega)] at hgt
     refine ⟨.nils,?_,.nil⟩
     rcases Wz hM with ⟨rfl,rfl⟩|⟨k,rfl,hk⟩
     · simp at h
     refine Yy (own:=fun _=>false) tOk fe158.ok ?_
     refine Wp.seq ?_
     repeat' first|refine Jc hc ?_|refine Ji ?_|refine Jl ?_|refine Jt ?_|refine Jb ?_ ?_|refine Jo ?_|intro hb
     all_goals exact RetE.ret rfl rfl rfl
   · rw [if_neg h]
     rw [decide_eq_false (by omega)] at hgt
     refine ⟨v,?_,hM⟩
     refine Yy (own:=fun _=>false) tOk fe158.ok ?_
     refine Wp.seq ?_
     rcases Wz hM with ⟨rfl,rfl⟩|⟨k,rfl,hk⟩
     all_goals
      repeat' first|refine Jc hc ?_|refine Ji ?_|refine Jl ?_|refine Jt ?_|refine Jb ?_ ?_|refine Jo ?_|intro hb
      all_goals exact RetE.ret rfl rfl rfl
 · rw [if_pos rfl]
   refine ⟨.nils,?_,.nil⟩
   refine Yy (own:=fun _=>false) tOk fe158.ok ?_
   refine Wp.seq ?_
   repeat' first|refine Jc hc ?_|refine Ji ?_|refine Jl ?_|refine Jt ?_|refine Jb ?_ ?_|refine Jo ?_|intro hb
   all_goals exact RetE.ret rfl rfl rfl
theorem ZiV {ba bb:Bool} {e:Int} (he:e≠0) (h:(∀ H,CallOk E0 Tryz.prog 115 [slV ba 5 (pwL a)] H (.int .i64 e) H)∨((∀ H,CallOk E0 Tryz.prog 115 [slV ba 5 (pwL a)] H (.int .i64 0) H)∧∀ H,CallOk E0 Tryz.prog 115 [slV bb 5 (pwL b)] H (.int .i64 e) H)):∃ f,∀ H,CallOk E0 Tryz.prog 119 [slV ba 5 (pwL a),slV bb 5 (pwL b)] H (.tup [slV f 5 (pwL []),.int .i64 e]) H:=by
 have hnil:slV true 5 (pwL [])= .nils:=Zk 5
 refine ⟨true,?_⟩
 rw [hnil]
 have hne:=YK he
 refine Jw tOk fe119.ok rfl ?_
 rcases h with hVa|⟨hVa,hVb⟩
 · have hVb := hVa
   repeat' first|refine Jc (hVa _) ?_|refine Jc (hVb _) ?_|refine Ji ?_|refine JJ ?_|refine Jl ?_|refine Jx ?_|refine Jt ?_|refine Jb ?_ ?_|(apply qT (ty:=0);rfl;rfl;rfl)|(apply qF (ty:=0);rfl;rfl;rfl)|refine Jz ?_ ?_|refine Jo ?_|intro hb
   all_goals rfl
 repeat' first|refine Jc (hVa _) ?_|refine Jc (hVb _) ?_|refine Ji ?_|refine JJ ?_|refine Jl ?_|refine Jx ?_|refine Jt ?_|refine Jb ?_ ?_|(apply qT (ty:=0);rfl;rfl;rfl)|(apply qF (ty:=0);rfl;rfl;rfl)|refine Jz ?_ ?_|refine Jo ?_|intro hb
 all_goals rfl
theorem Zow (ha:∀ x,x∈a→x.1.Ok∧x.1.size≤100000) (hb':∀ x,x∈b→x.1.Ok∧x.1.size≤100000) (hla:a.length≤100000) (hlb:b.length≤100000) (ba bb:Bool):∃ f,∀ H,CallOk E0 Tryz.prog 119 [slV ba 5 (pwL a),slV bb 5 (pwL b)] H (.tup [slV f 5 (pwL (Vd a b).1),.int .i64 (Vd a b).2]) H:=by
 have hVa:=Zma ha (by omega) ba
 have hVb:=Zma hb' (by omega) bb
 unfold Vd Zis
 by_cases hP1:pvG a≠0
 · rw [if_pos hP1]
   exact ZiV hP1 (.inl hVa)
 rw [if_neg hP1]
 have hP1:=Classical.not_not.1 hP1
 rw [hP1] at hVa
 by_cases hP2:pvG b≠0
 · rw [if_pos hP2]
   exact ZiV hP2 (.inr ⟨hVa,hVb⟩)
 rw [if_neg hP2]
 have hP2:=Classical.not_not.1 hP2
 rw [hP2] at hVb
 have hb200:=Ve hP2
 have ha200:=Ve hP1
 have hpl:=ZK b
 obtain ⟨aA, -⟩:=V6 hP1
 obtain ⟨-,bN⟩:=V6 hP2
 have hPa:PwB 1000 a:=fun x hx=>⟨ha x hx,by have:=Za4 hP1 x hx;omega,by have:=Za4 hP1 x hx;omega⟩
 have hPb:PwB 1000 b:=fun x hx=>⟨hb' x hx,by have:=Za4 hP2 x hx;omega,by have:=Za4 hP2 x hx;omega⟩
 have hfacts:∀ i,i≤b.length→W3 (insF a (b.take i))∧PwB (1000+i*1000) (insF a (b.take i))∧(insF a (b.take i)).length≤a.length+i:=fun i hi=>by
  obtain ⟨q1,q2⟩:=Zfv (B:=1000) (by decide) (b.take i) (l:=a) (C:=1000) (by decide) hPa fun x hx=>hPb x (List.mem_of_mem_take hx)
  rw [List.length_take,Nat.min_eq_left hi] at q1 q2
  exact ⟨ZdX _ aA fun x hx=>bN x (List.mem_of_mem_take hx),q1,q2⟩
 obtain ⟨v0,bx0,hcp,hM0⟩:=Zpw ha (by omega) ba
 obtain ⟨-, -,hfl⟩:=hfacts b.length (Nat.le_refl _)
 rw [List.take_length] at hfl
 have key:∃ r H1,CallOk E0 Tryz.prog 119 [slV ba 5 (pwL a),slV bb 5 (pwL b)] hNil r H1∧∃ v' bx,r= .tup [v',.int .i64 (ZeQ (insF a b)).2]∧H1=⟨bx,0,[],0⟩∧Mut 5 bx v' (pwL (ZeQ (insF a b)).1):=by
  refine ZW (own:=fun _=>false) tOk fe119.ok ?_
  refine Wp.seq ?_
  repeat' first|(apply qCl;rfl;rfl;rfl;rfl;first|exact hVa _|exact hVb _|exact hcp)|refine Ji ?_|refine JJ ?_|refine Jl ?_|refine Jx ?_|refine Jt ?_|refine Jb ?_ ?_|(apply qT (ty:=0);rfl;rfl;rfl)|(apply qF (ty:=0);rfl;rfl;rfl)|refine Jz ?_ ?_|refine Jo ?_|intro hb
  refine Wp.while (fun m tm H => ∃ (i : Nat) (base : TM) (v : PV) (bx : List Box), i + m = b.length ∧ Mut 5 bx v (pwL (insF a (b.take i))) ∧
    tm=ovr base [(8,v),(23,slV bb 5 (pwL b)),(24,.int .i64 (b.length:Int)),(25,.int .i64 (i:Int))]∧H=⟨bx,0,[],0⟩)
   (fun m tm H hI=>?_) b.length _ _ ⟨0,_,_,_,by omega,hM0,Zf ⟨rfl,rfl,Ze (by rw [hpl]),rfl,trivial⟩,rfl⟩
  clear hM0 hcp hVa hVb
  obtain ⟨i,base,v,bx,hi,hM,rfl,rfl⟩:=hI
  by_cases hlt:i<b.length
  · obtain ⟨x, hx⟩ : ∃ x, b[i]? = some x := ⟨b[i], by simp⟩
    have hxs:=hPb x (List.mem_of_getElem? hx)
    obtain ⟨fA,fP,fL⟩:=hfacts i (by omega)
    have hlx:=Zt (i:Int) (b.length:Int)
    rw [decide_eq_true (by omega)] at hlx
    have hal:∀ ρ,aOp E0 false ρ (.alloc 146) ⟨bx,0,[],0⟩=some (.ptr bx.length 5 0 0,⟨bx++ [.cells 5 [zcP]],0,[],0⟩):=fun ρ=>rfl
    have hwr:=ZeT bx x
    have hld:=Zj8 bx x
    obtain ⟨v',B',hc,hM', -⟩:=ZgB (H:=⟨bx++ [.cells 5 [pwC x]],0,[],0⟩) (n:=x.2) fA (fP.mono (by omega)) hxs.1 (by omega) (by omega) rfl (Zax (ext:=[.cells 5 [pwC x]]) hM)
    rw [← ZfE a hx] at hM'
    have hj:=YY hx
    obtain ⟨⟨k',nm',s',b',kz'⟩,xn⟩:=x
    simp only [pwC,Tm.cells,List.cons_append,List.nil_append] at hc hld hwr hj
    clear hM fA fP fL
    repeat' first|refine Jc hc ?_|(apply RegQ.rAl;rfl;rfl;assumption)|refine Ji ?_|refine JJ ?_|(apply qLd;rfl;rfl;rfl;assumption;exact IsV.any _)|refine Jl ?_|refine Jx ?_|refine Jt ?_|refine Jb ?_ ?_|(apply qT (ty:=0);rfl;rfl;rfl)|(apply qF (ty:=0);rfl;rfl;rfl)|refine Jz ?_ ?_|refine Jo ?_|intro hb
    exact LoopI.go (m-1) (by omega) ⟨i+1,_,_,_,by omega,hM',Zf ⟨rfl,rfl,rfl,Ze (Zc (n:=i+1) (by omega)),trivial⟩,rfl⟩
  · have e : i = b.length := by omega
    subst e
    rw [List.take_length] at hM
    have hlx:=Zt (b.length:Int) (b.length:Int)
    rw [decide_eq_false (by omega)] at hlx
    obtain ⟨v',hR,hMR⟩:=Zpy (by omega) hM
    repeat' first|refine Jc hR ?_|refine Ji ?_|refine JJ ?_|refine Jl ?_|refine Jx ?_|refine Jt ?_|refine Jb ?_ ?_|(apply qT (ty:=0);rfl;rfl;rfl)|(apply qF (ty:=0);rfl;rfl;rfl)|refine Jz ?_ ?_|refine Jo ?_|intro hb
    exact RetR.ret rfl ⟨_,_,rfl,rfl,hMR⟩
 obtain ⟨r,H1,h1,v',bx,rfl,rfl,h2⟩:=key
 obtain ⟨F,hF⟩:=Zgk (Y0 _) h2
 exact ⟨F,fun H=>Wd h1 (by simp only [ZP,Xd]) (hF _) H⟩
