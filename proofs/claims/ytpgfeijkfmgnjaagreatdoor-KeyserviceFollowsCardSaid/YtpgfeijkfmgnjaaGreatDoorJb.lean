/-
  A key set among entries, by the program's text.
-/
import Derived.Test.YtpgfeijkfmgnjaaGreatDoorInsU
set_option maxHeartbeats 0
set_option maxRecDepth 100000
namespace Go.Vm.Seat
variable {L M:List En} {a b name:Bs} {H:Heap} {D:List (List PV)} {y:En}
open Go.Proofs
theorem ZtH (name:Bs) (e:En):CallOk E7 Tryz.prog 62 [.agg e.cells,.ptr 0 1 0 0] ⟨[Yg name],0,[],0⟩ (.bool (decide (e.name=name))) ⟨[Yg name],0,[],0⟩:=by
 have he:=Zoi e.name name
 refine Zoy ?_ rfl rfl
 obtain ⟨nm,⟨k,m,s,b,kz⟩,i⟩:=e
 simp only [En.cells,Tm.cells,List.cons_append,List.nil_append] at he ⊢
 generalize decide (nm=name)=D at he ⊢
 unfold Yg
 refine Z4 (own:=fun _=>false) WF fe62.ok ?_
 refine Wp.seq ?_
 repeat' first|refine Ji ?_|refine Jt ?_|refine Jo ?_|fail
 all_goals exact RetR.ret rfl ⟨rfl,_,rfl⟩
theorem ZqM (name:Bs) (e:En) (ext:List Box):CallOk E7 Tryz.prog 62 [.agg e.cells,.ptr 0 1 0 0] ⟨Yg name::ext,0,[],0⟩ (.bool (decide (e.name=name))) ⟨Yg name::ext,0,[],0⟩:=
 (ZtH name e).ext (ext := ext) rfl (by
   have h:ZI 1 e.cells=true:=Zca 1 e
   show (ZI 1 e.cells&&(Nat.blt 0 1&&true))=true
   rw [h]
   rfl) rfl (Nat.zero_le _)
def ZY (name:Bs) (L:List En):Option En:=L.find? fun e=>decide (e.name=name)
theorem Zfw (name:Bs):∀ (L:List En) (k:Nat),(ixN name L k= -1∧ZY name L=none)∨∃ i e,ixN name L k=((k+i:Nat):Int)∧L[i]? = some e∧ZY name L=some e
 | [],k=> .inl ⟨rfl,rfl⟩
 | e :: r, k => by
   by_cases he:e.name=name
   · exact .inr ⟨0,e,by simp [ixN,he],rfl,by simp [ZY,he]⟩
   · rcases Zfw name r (k + 1) with ⟨h1, h2⟩ | ⟨i, u, h1, h2, h3⟩
     · refine .inl ⟨by simp only [ixN, decide_eq_true_eq, if_neg he, h1], ?_⟩
       rw [ZY,List.find?_cons_of_neg (by simpa using he)]
       exact h2
     · refine .inr ⟨i + 1, u, ?_, by simpa using h2, ?_⟩
       · simp only [ixN, decide_eq_true_eq, if_neg he, h1]
         omega
       · rw [ZY, List.find?_cons_of_neg (by simpa using he)]
         exact h3
theorem ixF (hlen:L.length≤1000) (b:Bool) (name:Bs) (B:Box):CallOk E7 Tryz.prog 61 [slV b 6 (enC L),.fn 62 [.ptr 0 1 0 0]] ⟨[Yg name,B],0,[],0⟩ (.int .i64 (ixN name L 0)) ⟨[Yg name,B],0,[],0⟩:=by
 suffices h:∃ r H',CallOk E7 Tryz.prog 61 [slV b 6 (enC L),.fn 62 [.ptr 0 1 0 0]] ⟨[Yg name,B],0,[],0⟩ r H'∧(r= .int .i64 (ixN name L 0)∧H'=⟨[Yg name,B],0,[],0⟩) by
  obtain ⟨r,H',h1,rfl,rfl⟩:=h
  exact h1
 refine Z4 (own:=fun _=>false) WF fe61.ok ?_
 refine Wp.seq ?_
 repeat' first|refine Jl ?_|refine Jo ?_|fail
 refine Wp.while (fun m tm H=>∃ (i:Nat) (base:TM),i+m=L.length∧ixN name L 0=ixN name (L.drop i) i∧tm=ovr base [(0,slV b 6 (enC L)),(1,.fn 62 [.ptr 0 1 0 0]),(7,.int .i64 (L.length:Int)),(8,.int .i64 (i:Int))]∧H=⟨[Yg name,B],0,[],0⟩)
  (fun m tm H hI=>?_) L.length _ _ ⟨0,_,by omega,by simp,Zi ⟨rfl,rfl,Zj (by rw [Yj]),rfl,trivial⟩,rfl⟩
 obtain ⟨i,base,hi,hgo,rfl,rfl⟩:=hI
 by_cases hlt:i<L.length
 · obtain ⟨e, he⟩ : ∃ e, L[i]? = some e := ⟨L[i], by simp⟩
   have hlx:ZP E7 .lss 3 (.int .i64 (i:Int)) (.int .i64 (L.length:Int))=some (.bool true):=X3 (by omega)
   have hj:=WC he
   have hc:=ZqM name e [B]
   rw [Zgd he] at hgo
   generalize decide (e.name=name)=D at hc hgo
   obtain ⟨nm,⟨k',m',s',b',kz'⟩,x⟩:=e
   simp only [En.cells,Tm.cells,List.cons_append,List.nil_append] at hc hj
   cases D with
   | true =>
     rw [if_pos rfl] at hgo
     repeat' first|refine Jc hc ?_|refine Ji ?_|refine Jx ?_|refine Jo ?_|fail
     all_goals exact RetR.ret rfl ⟨by rw [hgo];rfl,rfl⟩
   | false =>
     rw [if_neg (by simp)] at hgo
     repeat' first|refine Jc hc ?_|refine Ji ?_|refine Jx ?_|refine Jo ?_|fail
     exact LoopI.go (m-1) (by omega) ⟨i+1,_,by omega,hgo,Zi ⟨rfl,rfl,rfl,Zj (Zg (n:=i+1) (by omega)),trivial⟩,rfl⟩
 · have e : i = L.length := by omega
   subst e
   have hlx:ZP E7 .lss 3 (.int .i64 (L.length:Int)) (.int .i64 (L.length:Int))=some (.bool false):=Xo (by omega)
   rw [List.drop_length] at hgo
   repeat' first|refine Ji ?_|refine Jo ?_|fail
   all_goals exact RetR.ret rfl ⟨by rw [hgo];rfl,rfl⟩
def enZero:En:=⟨[],.zero,0⟩
theorem VA:enZero.cells= [.str [],.int .i64 0,.str [],.int .i64 0,.nils,.int .i64 0]:=by
 simp only [enZero,En.cells,Zk]
 rfl
theorem Zge (m:Nat) (H:Heap) (e:En) (b:Bool):frz3 m H (.tup [.agg e.cells,.bool b])=some (.tup [.agg e.cells,.bool b]):=by
 obtain ⟨nm,⟨k,mm,s,tb,kz⟩,i⟩:=e
 have h1:frz3 m H (.agg (En.mk nm (.mk k mm s tb kz) i).cells)=some (.agg (En.mk nm (.mk k mm s tb kz) i).cells):=by
  rw [Ws]
  simp only [En.cells,Tm.cells,List.cons_append,List.nil_append,Qf,U0]
  rfl
 have h:frz2 m H (.agg (En.mk nm (.mk k mm s tb kz) i).cells)=some (.agg (En.mk nm (.mk k mm s tb kz) i).cells):=h1
 show (match YR m H [.agg (En.mk nm (.mk k mm s tb kz) i).cells,.bool b] with|some vs'=>some (PV.tup vs')|none=>none)=_
 simp only [YR,h]
 rfl
theorem c25 (hlen:L.length≤1000) (b:Bool) (name:Bs):∀ H,CallOk E0 Tryz.prog 25 [slV b 6 (enC L),.str name] H (.tup [.agg ((ZY name L).getD enZero).cells,.bool (ZY name L).isSome]) H:=by
 have hix:=ixF hlen b name (.cells 6 [enZero.cells])
 have hfr:=Zge 0 hNil ((ZY name L).getD enZero) (ZY name L).isSome
 rw [VA] at hix
 unfold Yg at hix
 rcases Zfw name L 0 with ⟨h1,h2⟩|⟨i,e,h1,h2,h3⟩
 · rw [h1] at hix
   rw [h2] at hfr ⊢
   simp only [Option.getD_none,Option.isSome_none,VA] at hfr ⊢
   refine Zef ?_
   refine Jw WF fe25.ok hfr ?_
   have b0:ZP E7 .lss 3 (.int .i64 (-1)) (.int .i64 0)=some (.bool true):=rfl
   repeat' first|refine Jc hix ?_|refine Ji ?_|refine Jt ?_|refine Jo ?_|fail
   all_goals rfl
 · rw [h1, Nat.zero_add] at hix
   rw [h3] at hfr ⊢
   simp only [Option.getD_some,Option.isSome_some] at hfr ⊢
   have hft:=fun m H=>Zge m H e true
   have hj:=WC h2
   have b0:ZP E7 .lss 3 (.int .i64 (i:Int)) (.int .i64 0)=some (.bool false):=Xo (by omega)
   obtain ⟨nm,⟨k',m',s',b',kz'⟩,x⟩:=e
   simp only [En.cells,Tm.cells,List.cons_append,List.nil_append] at hfr hft hj ⊢
   refine Zef ?_
   refine Jw WF fe25.ok hfr ?_
   repeat' first|refine Jc hix ?_|refine Ji ?_|refine Jx ?_|refine Jt ?_|refine Jo ?_|fail
   all_goals exact hft _ _
theorem Zsu (e:En) (s:Bs):∀ H,CallOk E7 Tryz.prog 124 [.agg e.cells,.str s] H (.int .i64 (Xx e.name s)) H:=by
 have hc:=fun H=>Zfh (Zlw (ZsF e.name s H))
 obtain ⟨nm,⟨k,m,z,b,kz⟩,i⟩:=e
 simp only [En.cells,Tm.cells,List.cons_append,List.nil_append] at hc ⊢
 generalize Xx nm s=C at hc ⊢
 refine Jw WF fe124.ok rfl ?_
 repeat' first|refine Jc (hc _) ?_|refine Jo ?_|fail
 all_goals rfl
def UH (M:List En):Prop:=∀ (i j:Nat) (a b:En),i<j→M[i]? = some a→M[j]? = some b→Xx a.name b.name<0
theorem Qd:Xx a b<0↔Op.bytesLess a b=true:=by
 unfold Xx
 split
 · simp_all
 · split<;>simp_all
theorem WL {c:Bs} (h1:Xx a b<0) (h2:Xx b c≤0):Xx a c<0:=cmpB_on.strict1 trivial trivial trivial h1 h2
theorem ZnK {p:Nat} (hp:p≤M.length) (h1:∀ (k:Nat) (e:En),k<p→M[k]? = some e→Xx e.name name<0) (h2:∀ (k:Nat) (e:En),p≤k→M[k]? = some e→¬ Xx e.name name<0):WE name M=p:=by
 have e1:(M.take p).filter (fun e=>Op.bytesLess e.name name)=M.take p:=by
  rw [List.filter_eq_self]
  intro e he
  obtain ⟨k,hk,rfl⟩:=List.mem_iff_getElem.1 he
  have hk2:k<p:=by simp at hk;omega
  exact Qd.1 (h1 k _ hk2 (by rw [List.getElem_take];exact List.getElem?_eq_getElem _))
 have e2:(M.drop p).filter (fun e=>Op.bytesLess e.name name)= []:=by
  rw [List.filter_eq_nil_iff]
  intro e he hb
  obtain ⟨k,hk,rfl⟩:=List.mem_iff_getElem.1 he
  exact h2 (p+k) _ (by omega) (by rw [List.getElem_drop];exact List.getElem?_eq_getElem _) (Qd.2 hb)
 have e3:M.filter (fun e=>Op.bytesLess e.name name)=M.take p:=by
  conv=>lhs;rw [← List.take_append_drop p M]
  rw [List.filter_append,e1,e2,List.append_nil]
 rw [WE,e3,List.length_take]
 omega
theorem ZlA {id j:Nat} {e:En} (hb:nth H.bx id=some (.cells 6 (enC L++D))) (hj:L[j]? = some e):YO E7 69 (.ptr id 6 j 0) H=some (.agg e.cells):=by
 have hlt:=ZK hj
 have h:(enC L++D)[j]? = some e.cells:=by rw [List.getElem?_append_left (by rw [Yj];exact hlt)];exact WC hj
 obtain ⟨nm,⟨k,m,s,b,kz⟩,i⟩:=e
 exact ZaO rfl rfl hb ((ZA _ _).trans h) rfl
theorem ZtG {K A:Box} (hlen:M.length≤1000) (hO:UH M) (name:Bs):∃ f,CallOk E7 Tryz.prog 123 [.own 2 6 0 M.length,.str name,.fn 124 []] ⟨[K,A,.cells 6 (enC M++D)],0,[],0⟩ (.tup [.int .i64 (WE name M:Int),.bool f]) ⟨[K,A,.cells 6 (enC M++D)],0,[],0⟩:=by
 suffices h:∃ r H',CallOk E7 Tryz.prog 123 [.own 2 6 0 M.length,.str name,.fn 124 []] ⟨[K,A,.cells 6 (enC M++D)],0,[],0⟩ r H'∧(∃ f,r= .tup [.int .i64 (WE name M:Int),.bool f]∧H'=⟨[K,A,.cells 6 (enC M++D)],0,[],0⟩) by
  obtain ⟨r,H',h1,f,rfl,rfl⟩:=h
  exact ⟨f,h1⟩
 have hnb:nth [K,A,.cells 6 (enC M++D)] 2=some (.cells 6 (enC M++D)):=rfl
 refine Z4 (own:=fun _=>false) WF fe123.ok ?_
 refine Wp.seq ?_
 repeat' first|refine Jt ?_|refine Jo ?_|fail
 refine Wp.while (fun m tm H => ∃ (i : Nat) (base : TM), i + m ≤ M.length ∧ (∀ (k : Nat) (e : En), k < i → M[k]? = some e → Xx e.name name < 0) ∧ (∀ (k : Nat) (e : En), i + m ≤ k → M[k]? = some e → ¬ Xx e.name name < 0) ∧
   tm=ovr base [(0,.own 2 6 0 M.length),(1,.str name),(2,.fn 124 []),(8,.int .i64 (M.length:Int)),(9,.int .i64 (i:Int)),(10,.int .i64 ((i+m:Nat):Int))]∧H=⟨[K,A,.cells 6 (enC M++D)],0,[],0⟩)
  (fun m tm H hI=>?_) M.length _ _ ⟨0,_,by omega,fun k e h=>absurd h (by omega),fun k e h h'=>absurd (ZK h') (by omega),Zi ⟨rfl,rfl,rfl,rfl,rfl,Zj (by rw [Nat.zero_add];rfl),trivial⟩,rfl⟩
 obtain ⟨i,base,hi,h1,h2,rfl,rfl⟩:=hI
 by_cases hm:0<m
 · have hlx : ZP E7 .lss 3 (.int .i64 (i : Int)) (.int .i64 ((i + m : Nat) : Int)) = some (.bool true) := X3 (by omega)
   obtain ⟨p,hp⟩:∃ p,p=(i+(i+m)) / 2:=⟨_,rfl⟩
   have hpl:p<M.length:=by omega
   obtain ⟨e,he⟩:∃ e,M[p]? = some e:=⟨M[p],by simp⟩
   have b1:ZP E7 .add 3 (.int .i64 (i:Int)) (.int .i64 ((i+m:Nat):Int))=some (.int .i64 ((i+(i+m):Nat):Int)):=by
    show some (PV.int .i64 (IntKind.i64.wrap ((i:Int)+((i+m:Nat):Int))))=_
    rw [IntWalk.i64_in _ (by omega)]
    congr 2
   have k1:Zdg E7 3 180 (.int .i64 ((i+(i+m):Nat):Int))=some (.int .u64 ((i+(i+m):Nat):Int)):=by
    show some (PV.int .u64 (IntKind.u64.wrap ((i+(i+m):Nat):Int)))=_
    rw [IntWalk.u64_in _ (by omega)]
   have b2:∀ c,(c:PV)= .int .i64 1∨c= .int .u64 1→ZP E7 .shr 180 (.int .u64 ((i+(i+m):Nat):Int)) c=some (.int .u64 (p:Int)):=fun c hc=>by
    rcases hc with rfl|rfl
    all_goals
     show some (PV.int .u64 (Int.fdiv ((i+(i+m):Nat):Int) (2 ^ (min (Int.toNat 1) 64))))=_
     congr 2
     rw [hp]
     show Int.fdiv _ 2=_
     rw [Int.fdiv_eq_ediv_of_nonneg _ (by decide)]
     omega
   have b3:=b2 (.int .i64 1) (.inl rfl)
   have b4:=b2 (.int .u64 1) (.inr rfl)
   have k2:Zdg E7 180 3 (.int .u64 (p:Int))=some (.int .i64 (p:Int)):=by
    show some (PV.int .i64 (IntKind.i64.wrap (p:Int)))=_
    rw [IntWalk.i64_in _ (by omega)]
   have hia:=Zir (id:=2) (ix:=0) hpl
   have hld:YO E7 69 (.ptr 2 6 (0+p) 0) ⟨[K,A,.cells 6 (enC M++D)],0,[],0⟩=some (.agg e.cells):=by rw [Nat.zero_add];exact ZlA rfl he
   have hc:=Zsu e name
   have hcm:ZP E7 .lss 3 (.int .i64 (Xx e.name name)) (.int .i64 0)=some (.bool (decide (Xx e.name name<0))):=rfl
   by_cases hlt:Xx e.name name<0
   · rw [decide_eq_true hlt] at hcm
     have g1:∀ (k:Nat) (u:En),k<p+1→M[k]? = some u→Xx u.name name<0:=fun k u hk hu=>by
      rcases Nat.lt_or_ge k p with h|h
      · exact WL (hO k p u e h hu he) (by omega)
      · obtain rfl : k = p := by omega
        rw [he] at hu;cases hu;exact hlt
     generalize Xx e.name name=C at hc hcm
     repeat' first|refine Jc (hc _) ?_|refine Ji ?_|(apply qCv;rfl;rfl;rfl;assumption;exact IsV.any _)|refine JJ ?_|(apply qLd;rfl;rfl;rfl;assumption;exact IsV.any _)|refine Jo ?_|fail
     exact LoopI.go (i+m-(p+1)) (by omega) ⟨p+1,_,by omega,g1,fun k u hk hu=>h2 k u (by omega) hu,Zi ⟨rfl,rfl,rfl,rfl,Zj (Zg (n:=p+1) (by omega)),Zj (by congr 1;omega),trivial⟩,rfl⟩
   · rw [decide_eq_false hlt] at hcm
     have g2:∀ (k:Nat) (u:En),p≤k→M[k]? = some u→¬ Xx u.name name<0:=fun k u hk hu hn=>by
      rcases Nat.lt_or_ge p k with h|h
      · exact hlt (WL (hO p k e u h he hu) (by omega))
      · obtain rfl : k = p := by omega
        rw [he] at hu;cases hu;exact hlt hn
     generalize Xx e.name name=C at hc hcm
     repeat' first|refine Jc (hc _) ?_|refine Ji ?_|(apply qCv;rfl;rfl;rfl;assumption;exact IsV.any _)|refine JJ ?_|(apply qLd;rfl;rfl;rfl;assumption;exact IsV.any _)|refine Jo ?_|fail
     exact LoopI.go (p-i) (by omega) ⟨i,_,by omega,h1,fun k u hk hu=>g2 k u (by omega) hu,Zi ⟨rfl,rfl,rfl,rfl,rfl,Zj (by congr 1;omega),trivial⟩,rfl⟩
 · obtain rfl : m = 0 := by omega
   have hlx:ZP E7 .lss 3 (.int .i64 (i:Int)) (.int .i64 ((i+0:Nat):Int))=some (.bool false):=Xo (by omega)
   have hb:=ZnK (p:=i) (name:=name) (M:=M) (by omega) h1 (fun k e hk he=>h2 k e (by omega) he)
   rw [hb]
   by_cases hil:i<M.length
   · obtain ⟨e, he⟩ : ∃ e, M[i]? = some e := ⟨M[i], by simp⟩
     have hly:ZP E7 .lss 3 (.int .i64 (i:Int)) (.int .i64 (M.length:Int))=some (.bool true):=X3 (by omega)
     have hia:=Zir (id:=2) (ix:=0) hil
     have hld:YO E7 69 (.ptr 2 6 (0+i) 0) ⟨[K,A,.cells 6 (enC M++D)],0,[],0⟩=some (.agg e.cells):=by rw [Nat.zero_add];exact ZlA rfl he
     have hc:=Zsu e name
     generalize Xx e.name name=C at hc
     have hcm:ZP E7 .eql 3 (.int .i64 C) (.int .i64 0)=some (.bool (decide (C=0))):=Zo6 C 0
     repeat' first|refine Jc (hc _) ?_|refine Ji ?_|refine JJ ?_|(apply qLd;rfl;rfl;rfl;assumption;exact IsV.any _)|refine Jt ?_|refine Jo ?_|fail
     all_goals exact RetR.ret rfl ⟨_,rfl,rfl⟩
   · have hly : ZP E7 .lss 3 (.int .i64 (i : Int)) (.int .i64 (M.length : Int)) = some (.bool false) := Xo (by omega)
     repeat' first|refine Jk ?_|refine Ji ?_|refine Jt ?_|refine Jo ?_|fail
     all_goals exact RetR.ret rfl ⟨_,rfl,rfl⟩
def zV:Bool→PV
 |true=> .nils
 |false=> .sl .full 6 []
theorem ZnX (b:Bool) (bx:List Box):CallOk E7 Tryz.prog 121 [slV b 6 []] ⟨bx,0,[],0⟩ (zV b) ⟨bx,0,[],0⟩:=by
 have hap:∀ ro,Yf E7 27 27 (.sl .full 6 []) (.sl .none 6 []) ⟨bx,ro,[],0⟩=some (.sl .full 6 [],⟨bx,ro,[],0⟩):=fun ro=>rfl
 cases b
 · rw [Yd]
   refine Ye (own:=fun _=>false) WF fe121.ok ?_
   refine Wp.seq ?_
   repeat' first|refine Js ?_|refine JA ?_|refine Jt ?_|refine Jo ?_|fail
   all_goals exact RetE.ret rfl rfl rfl
 · rw [Zq]
   refine Ye (own:=fun _=>false) WF fe121.ok ?_
   refine Wp.seq ?_
   repeat' first|refine Jt ?_|refine Jo ?_|fail
   all_goals exact RetE.ret rfl rfl rfl
theorem ixZ (b:Bool) (K:Box) (name:Bs):CallOk E7 Tryz.prog 61 [zV b,.fn 122 [.ptr 1 1 0 0]] ⟨[K,Yg name],0,[],0⟩ (.int .i64 (-1)) ⟨[K,Yg name],0,[],0⟩:=by
 cases b
 all_goals
  unfold zV
  refine Ye (own:=fun _=>false) WF fe61.ok ?_
  refine Wp.seq ?_
  repeat' first|refine Jo ?_|fail
  refine Wp.while (fun _ tm H=>∃ base:TM,tm=ovr base [(7,.int .i64 0),(8,.int .i64 0)]∧H=⟨[K,Yg name],0,[],0⟩)
   (fun m tm H hI=>?_) 0 _ _ ⟨_,Zi ⟨rfl,rfl,trivial⟩,rfl⟩
  obtain ⟨base,rfl,rfl⟩:=hI
  repeat' first|(apply qF (ty:=0);rfl;rfl;rfl)|refine Jo ?_|fail
  all_goals exact RetE.ret rfl rfl rfl
theorem Zvg (b:Bool) (K:Box) (name:Bs):CallOk E7 Tryz.prog 120 [zV b,.fn 122 [.ptr 1 1 0 0]] ⟨[K,Yg name],0,[],0⟩ (zV b) ⟨[K,Yg name],0,[],0⟩:=by
 have hc:=ixZ b K name
 cases b
 all_goals
  unfold zV at hc ⊢
  refine Ye (own:=fun _=>false) WF fe120.ok ?_
  refine Wp.seq ?_
  repeat' first|refine Jc hc ?_|refine Jt ?_|refine Jo ?_|fail
  all_goals exact RetE.ret rfl rfl rfl
theorem Ztj (b:Bool) (K:Box) (name:Bs):CallOk E7 Tryz.prog 84 [slV b 6 [],.str name] ⟨[K],0,[],0⟩ (zV b) ⟨[K,Yg name],0,[],0⟩:=by
 have h1:=ZnX b [K,Yg name]
 have h2:=Zvg b K name
 unfold Yg at h1 h2 ⊢
 generalize zV b=Z at h1 h2 ⊢
 refine Ye (own:=fun _=>false) WF fe84.ok ?_
 refine Wp.seq ?_
 repeat' first|refine Jc h1 ?_|refine Jc h2 ?_|refine Jo ?_|fail
 all_goals exact RetE.ret rfl rfl rfl
theorem ZtS (b:Bool) (name:Bs) (bx:List Box):CallOk E7 Tryz.prog 123 [zV b,.str name,.fn 124 []] ⟨bx,0,[],0⟩ (.tup [.int .i64 0,.bool false]) ⟨bx,0,[],0⟩:=by
 cases b
 all_goals
  unfold zV
  refine Ye (own:=fun _=>false) WF fe123.ok ?_
  refine Wp.seq ?_
  repeat' first|refine Jt ?_|refine Jo ?_|fail
  refine Wp.while (fun _ tm H=>∃ base:TM,tm=ovr base [(8,.int .i64 0),(9,.int .i64 0),(10,.int .i64 0)]∧H=⟨bx,0,[],0⟩)
   (fun m tm H hI=>?_) 0 _ _ ⟨_,Zi ⟨rfl,rfl,rfl,trivial⟩,rfl⟩
  obtain ⟨base,rfl,rfl⟩:=hI
  repeat' first|refine Jk ?_|refine Jt ?_|refine Jo ?_|fail
  all_goals exact RetE.ret rfl rfl rfl
theorem Zp9 {id:Nat} (hb:nth H.bx id=some (.cells 6 [y.cells])) {s:PV} (h1:Vp 6 s=6) (h2:Zl3 s=true):Wl E7 27 27 s (.own id 6 0 1) H=some (6,80,[y.cells]):=by
 have hy:Xm [y.cells]=some [y.cells]:=by
  obtain ⟨nm,⟨k,m,s,tb,kz⟩,i⟩:=y
  simp only [En.cells,Tm.cells,List.cons_append,List.nil_append,Xm,XY,ZD]
  rfl
 have hok:[y.cells].all (fun c=>c.all Z7)=true:=ZaN [y]
 have hx:Xg H (.own id 6 0 1)=some [y.cells]:=by
  simp only [Xg,hb]
  show (if 6=6∧0+1≤1 then Xm [y.cells] else none)=_
  rw [if_pos (by omega),hy]
 have hT:ApT E7 27 27 6 80:=⟨_,_,_,_,_,rfl,rfl,rfl,rfl,rfl,rfl,rfl,by decide,rfl⟩
 obtain ⟨ti,ui,e,f,ei,q1,q2,q3,q4,q5,q6,q7,q8,q9⟩:=hT.h
 have q6':=q6
 have q7':=q7
 simp only [Wl,q1,q3,q5]
 rw [if_pos ⟨q8,q9,by rw [q6'];exact h1,by rw [q6'];rfl⟩,hx]
 simp only [hok,h2,and_self,if_true,q6',q7']
theorem Zt7 (b:Bool) (K A:Box):CallOk E7 Tryz.prog 125 [zV b,.int .i64 0,.own 2 6 0 1] ⟨[K,A,.cells 6 [y.cells]],0,[],0⟩ (.own 3 6 0 1) ⟨[K,A,.cells 6 [y.cells],.cells 6 [y.cells]],0,[],0⟩:=by
 have hap:Z3 E7 27 27 (zV b) (.own 2 6 0 1) ⟨[K,A,.cells 6 [y.cells]],0,[],0⟩=some (.own 3 6 0 1,⟨[K,A,.cells 6 [y.cells],.cells 6 [y.cells]],0,[],0⟩):=by
  cases b
  · have he := Zp9 (y := y) (H := ⟨[K, A, .cells 6 [y.cells]], 0, [], 0⟩) (id := 2) rfl (s := .sl .full 6 []) rfl rfl
    simp only [zV,Z3,he,Xj]
    rfl
  · have he := Zp9 (y := y) (H := ⟨[K, A, .cells 6 [y.cells]], 0, [], 0⟩) (id := 2) rfl (s := .nils) rfl rfl
    simp only [zV,Z3,he,Xj]
    rfl
 cases b
 all_goals
  unfold zV at hap ⊢
  refine Ye (own:=fun d=>Nat.beq d 25) WF fe125.ok ?_
  refine Wp.seq ?_
  repeat' first|refine Jt ?_|refine Jo ?_|fail
  refine Zqo rfl rfl rfl rfl rfl hap ?_
  repeat' first|refine Jo ?_|fail
  all_goals exact RetE.ret rfl rfl rfl
theorem Zas (M:List En):Xm (enC M)=some (enC M):=by
 induction M with
 |nil=>rfl
 | cons a r ih =>
   obtain ⟨nm,⟨k,m,s,b,kz⟩,i⟩:=a
   show Xm ((En.mk nm (.mk k m s b kz) i).cells::enC r)=_
   simp only [Xm,ih,En.cells,Tm.cells,List.cons_append,List.nil_append,XY,ZD]
   rfl
theorem Zlc {id:Nat} (hb:nth H.bx id=some (.cells 6 (enC M++D))):Xg H (.own id 6 0 M.length)=some (enC M):=by
 simp only [Xg,hb]
 rw [if_pos ⟨trivial,by rw [List.length_append,Yj];omega⟩,List.drop_zero,show (enC M++D).take M.length=enC M by rw [← Yj M,List.take_left],Zas]
theorem Zd5 {m:Nat} {id:Nat} (hid:m≤id) (hb:nth H.bx id=some (.cells 6 (enC M))):frz3 m H (.own id 6 0 M.length)=some (.sl .none 6 (enC M)):=by
 show frzC m H (.own id 6 0 M.length)=_
 simp only [frzC,if_neg (Nat.not_lt.2 hid),hb]
 rw [if_pos ⟨trivial,by rw [Yj];omega⟩,List.drop_zero,show (enC M).take M.length=enC M by rw [← Yj M,List.take_length],Zas]
theorem ZvE (K A:Box) (hl:M.length≤1000):CallOk E7 Tryz.prog 125 [.own 2 6 0 M.length,.int .i64 (M.length:Int),.own 3 6 0 1] ⟨[K,A,.cells 6 (enC M++D),.cells 6 [y.cells]],0,[],0⟩ (.own 4 6 0 (M.length+1)) ⟨[K,A,.dead,.cells 6 [y.cells],.cells 6 (enC (M++ [y]))],0,[],0⟩:=by
 have hsl:=Zlz (id:=2) (k:=M.length) (n:=M.length) (Nat.le_refl _)
 have heq:ZP E7 .eql 3 (.int .i64 (M.length:Int)) (.int .i64 (M.length:Int))=some (.bool true):=by
  show some (PV.bool ((M.length:Int)==(M.length:Int)))=_
  simp
 have hs:=Zlc (H:=⟨[K,A,.cells 6 (enC M++D),.cells 6 [y.cells]],0,[],0⟩) (id:=2) (M:=M) (D:=D) rfl
 have he:=Zp9 (y:=y) (H:=⟨[K,A,.cells 6 (enC M++D),.cells 6 [y.cells]],0,[],0⟩) (id:=3) rfl (s:= .own 2 6 0 M.length) rfl rfl
 have hap:Z3 E7 27 27 (.own 2 6 0 M.length) (.own 3 6 0 1) ⟨[K,A,.cells 6 (enC M++D),.cells 6 [y.cells]],0,[],0⟩=some (.own 4 6 0 (M.length+1),⟨[K,A,.dead,.cells 6 [y.cells],.cells 6 (enC (M++ [y]))],0,[],0⟩):=by
  simp only [Z3,he,Xj,Uq,hs]
  rw [if_pos ⟨trivial,Nat.zero_le _,Yj M,ZZ (by rw [Yj];simp;omega) (by decide)⟩,ZaC,Yj]
  rfl
 clear hs he
 generalize enC M++D=L at hap ⊢
 generalize enC (M++ [y])=L2 at hap ⊢
 generalize M.length+1=n1 at hap ⊢
 generalize M.length=n at hap hsl heq ⊢
 refine Ye (own:=fun d=>Nat.beq d 25) WF fe125.ok ?_
 refine Wp.seq ?_
 repeat' first|refine JS ?_|refine Ji ?_|refine Jt ?_|refine Jo ?_|fail
 refine Zqo rfl rfl rfl rfl rfl hap ?_
 repeat' first|refine Jo ?_|fail
 all_goals exact RetE.ret rfl rfl rfl
def Za6 (M:List En) (i:Nat) (e:En):List En:=M.take i++ [e]++M.drop i
theorem Zk0 (M:List En) (i:Nat) (e:En):V6 (enC M) i e.cells=enC (Za6 M i e):=by
 simp only [V6,Za6,ZaC,Zf4,Zft]
 rfl
theorem Zgc {i:Nat} (h:i≤M.length) (e:En):(Za6 M i e).length=M.length+1:=by
 simp only [Za6,List.length_append,List.length_take,List.length_drop,List.length_singleton];omega
def Zad (L:List En) (name:Bs) (key:Tm) (i:Int):List En:=Za6 (L.filter (Yq name)) (WE name (L.filter (Yq name))) ⟨name,key.cl,i⟩
theorem Zot (b:Bool) (L:List (List PV)) (name:Bs) (key:Tm) (i:Int):ZJ [slV b 6 L,.str name,.agg key.cells,.int .i64 i]=some [slV b 6 L,.str name,.agg key.cells,.int .i64 i]:=by
 obtain ⟨k,nm,s,tb,kz⟩:=key
 simp only [Tm.cells,ZJ,Yy]
 simp only [frzG,XY,ZD]
 rfl
theorem c85 (hl:L.length≤900) (hO:UH (L.filter (Yq name))) {key:Tm} (hk:key.Ok) (hks:key.size≤100000) (i:Int) (b:Bool):∀ H,CallOk E0 Tryz.prog 85 [slV b 6 (enC L),.str name,.agg key.cells,.int .i64 i] H (.sl .none 6 (enC (Zad L name key i))) H:=by
 have hcp:=fun H=>Zfh (c20 hk hks H)
 have hbd:=ZhI name key.cl i
 have hbd:Wr E7 69 [(0,.str name),(1,.agg key.cl.cells),(2,.int .i64 i)]=some (.agg (En.mk name key.cl i).cells):=hbd
 have hfz:=Zot b (enC L) name key i
 refine Zef ?_
 have hKU:∀ n,Yw n (.cells 4 [key.cells])=true:=fun n=>by
  obtain ⟨k,nm,s,tb,kz⟩:=key
  show ([[PV.int .i64 k,.str nm,.int .i64 s,slV tb 4 (Za kz)]].all (ZI n))=true
  simp only [List.all_cons,List.all_nil,ZI,under,Zl]
  rfl
 have hce:∃ a c d e f g,(En.mk name key.cl i).cells= [a,c,d,e,f,g]:=by
  generalize key.cl=X
  obtain ⟨k,nm,s,tb,kz⟩:=X
  exact ⟨_,_,_,_,_,_,rfl⟩
 obtain ⟨Y,hY⟩:∃ Y,Y=En.mk name key.cl i:=⟨_,rfl⟩
 have hS:Zad L name key i=Za6 (L.filter (Yq name)) (WE name (L.filter (Yq name))) Y:=by rw [hY];rfl
 rw [hS]
 rw [← hY] at hbd hce
 have hfr:frz3 0 hNil (.sl .none 6 (enC (Za6 (L.filter (Yq name)) (WE name (L.filter (Yq name))) Y)))=some (.sl .none 6 (enC (Za6 (L.filter (Yq name)) (WE name (L.filter (Yq name))) Y))):=rfl
 clear hY hS
 by_cases hL:L= []
 · subst hL
   have k1:=Ztj b (.cells 4 [key.cells]) name
   have k2:=ZtS b name [.cells 4 [key.cells],Yg name]
   have k3:=Zt7 b (.cells 4 [key.cells]) (Yg name) (y:=Y)
   have hfin:=Zd5 (m:=0) (H:=⟨[.cells 4 [key.cells],Yg name,.cells 6 [Y.cells],.cells 6 [Y.cells]],0,[],0⟩) (id:=3) (M:=[Y]) (Nat.zero_le _) rfl
   have hfin:frz3 0 ⟨[.cells 4 [key.cells],Yg name,.cells 6 [Y.cells],.cells 6 [Y.cells]],0,[],0⟩ (.own 3 6 0 1)=some (.sl .none 6 (enC (Za6 (([]:List En).filter (Yq name)) (WE name (([]:List En).filter (Yq name))) Y))):=hfin
   obtain ⟨a,c,d,e,f,g,hce⟩:=hce
   generalize enC (Za6 (([]:List En).filter (Yq name)) (WE name (([]:List En).filter (Yq name))) Y)=R at hfin hfr ⊢
   rw [hce] at hbd k3 hfin
   generalize zV b=Z at k1 k2 k3
   generalize key.cl=X at hcp hbd
   obtain ⟨k,nm,s,tb,kz⟩:=X
   obtain ⟨k',nm',s',tb',kz'⟩:=key
   unfold Yg at k1 k2 k3 hfin
   simp only [Tm.cells,show enC []= [] from rfl] at hcp hbd hfz k1 k2 k3 hfin ⊢
   refine Zm (own:=fun d=>Nat.beq d 27) WF fe85.ok hfz hfr ?_
   refine Wp.seq ?_
   repeat' first|(apply qCl;rfl;rfl;rfl;rfl;first|exact hcp _|exact k1|exact k2|exact k3)|(apply qBd;rfl;rfl;rfl;assumption;exact IsV.aggN)|refine Jt ?_|refine Jo ?_|fail
   all_goals exact hfin
 · obtain ⟨r, H', k1, A, D, rfl, hA, rfl⟩ := ZrV (K := .cells 4 [key.cells]) hKU hL (by omega) b name
   have hMl:(L.filter (Yq name)).length≤900:=Nat.le_trans (List.length_filter_le _ _) hl
   generalize L.filter (Yq name)=M at hO k1 hfr hMl ⊢
   have hbl:=Zfl name M
   obtain ⟨ff,k2⟩:=ZtG (K:= .cells 4 [key.cells]) (A:=A) (M:=M) (D:=D) (by omega) hO name
   obtain ⟨a,c,d,e,f,g,hce⟩:=hce
   by_cases hi:WE name M<M.length
   · have hy6 : Y.cells.all Z7 = true := by
       have:=ZaN [Y]
       simpa [enC] using this
     have k3:=Zfh (Znp (H:=⟨[.cells 4 [key.cells],A,.cells 6 (enC M),.cells 6 [Y.cells]],0,[],0⟩) (id:=2) (id2:=3) (n:=M.length) (i:=WE name M) (el:=enC M) (y:=Y.cells) rfl rfl (Nat.zero_le _) (by decide) (Yj M) hi (by omega) (ZaN M) hy6)
     have k3:=CallOk.trunc (H:=⟨[.cells 4 [key.cells],A,.cells 6 (enC M++D),.cells 6 [Y.cells]],0,[],0⟩) (id:=2) (es:=6) (el:=enC M) (D:=D) rfl rfl k3
     rw [Zk0] at k3
     have hfin:=Zd5 (m:=0) (H:=⟨[.cells 4 [key.cells],A,.dead,.cells 6 [Y.cells],.cells 6 (enC (Za6 M (WE name M) Y))],0,[],0⟩) (id:=4) (M:=Za6 M (WE name M) Y) (Nat.zero_le _) rfl
     rw [Zgc (by omega)] at hfin
     have k3:CallOk E7 Tryz.prog 125 [.own 2 6 0 M.length,.int .i64 (WE name M:Int),.own 3 6 0 1] ⟨[.cells 4 [key.cells],A,.cells 6 (enC M++D),.cells 6 [Y.cells]],0,[],0⟩ (.own 4 6 0 (M.length+1)) ⟨[.cells 4 [key.cells],A,.dead,.cells 6 [Y.cells],.cells 6 (enC (Za6 M (WE name M) Y))],0,[],0⟩:=k3
     generalize enC (Za6 M (WE name M) Y)=R at hfin hfr k3 ⊢
     generalize WE name M=p at k2 k3
     generalize enC M++D=LL at k1 k2 k3
     generalize M.length+1=n1 at k3 hfin
     generalize M.length=n at k1 k2 k3
     rw [hce] at hbd k3 hfin
     generalize key.cl=X at hcp hbd
     generalize enC L=LE at k1 hfz ⊢
     obtain ⟨k,nm,s,tb,kz⟩:=X
     obtain ⟨k',nm',s',tb',kz'⟩:=key
     simp only [Tm.cells] at hcp hbd hfz k1 k2 k3 hfin ⊢
     refine Zm (own:=fun d=>Nat.beq d 27) WF fe85.ok hfz hfr ?_
     refine Wp.seq ?_
     repeat' first|(apply qCl;rfl;rfl;rfl;rfl;first|exact hcp _|exact k1|exact k2|exact k3)|(apply qBd;rfl;rfl;rfl;assumption;exact IsV.aggN)|refine Jt ?_|refine Jb ?_ ?_|refine Jo ?_|intro hb
     all_goals exact hfin
   · have hin : WE name M = M.length := by omega
     have k3:=ZvE (.cells 4 [key.cells]) A (M:=M) (D:=D) (by omega) (y:=Y)
     have hR:Za6 M (WE name M) Y=M++ [Y]:=by
      rw [hin,Za6,List.take_length,List.drop_length,List.append_nil]
     rw [hR] at hfr ⊢
     have hfin:=Zd5 (m:=0) (H:=⟨[.cells 4 [key.cells],A,.dead,.cells 6 [Y.cells],.cells 6 (enC (M++ [Y]))],0,[],0⟩) (id:=4) (M:=M++ [Y]) (Nat.zero_le _) rfl
     rw [show (M++ [Y]).length=M.length+1 by simp] at hfin
     rw [hin] at k2
     generalize enC (M++ [Y])=R at hfin hfr k3 ⊢
     generalize enC M++D=LL at k1 k2 k3
     generalize M.length+1=n1 at k3 hfin
     generalize M.length=n at k1 k2 k3
     rw [hce] at hbd k3 hfin
     generalize key.cl=X at hcp hbd
     generalize enC L=LE at k1 hfz ⊢
     obtain ⟨k,nm,s,tb,kz⟩:=X
     obtain ⟨k',nm',s',tb',kz'⟩:=key
     simp only [Tm.cells] at hcp hbd hfz k1 k2 k3 hfin ⊢
     refine Zm (own:=fun d=>Nat.beq d 27) WF fe85.ok hfz hfr ?_
     refine Wp.seq ?_
     repeat' first|(apply qCl;rfl;rfl;rfl;rfl;first|exact hcp _|exact k1|exact k2|exact k3)|(apply qBd;rfl;rfl;rfl;assumption;exact IsV.aggN)|refine Jt ?_|refine Jb ?_ ?_|refine Jo ?_|intro hb
     all_goals exact hfin
