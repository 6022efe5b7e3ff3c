/-
  Powers: which lists are right (the program's text).
-/
import Derived.Test.YtcopccjkfbmpcaaGreatDoorNz
set_option maxHeartbeats 0
set_option maxRecDepth 100000
namespace Go.Vm
variable {l:List Pw}
theorem Zcx {M:Nat}:∀ {l:List Tm},(∀ x,x∈l→x.size≤M)→Zl l≤l.length*M
 | [],_=>by simp [Zl]
 | x :: r, h => by
   have h1:=h x List.mem_cons_self
   have h2:=Zcx (M:=M) (l:=r) fun y hy=>h y (List.mem_cons_of_mem _ hy)
   rw [Zl,List.length_cons,Nat.add_mul]
   omega
theorem ZfK (h:∀ x,x∈l→x.1.size≤100000):∀ z,z∈Vh l→z.size≤100001:=fun z hz=>by
 rcases List.mem_append.1 hz with hz|hz
 · obtain ⟨x, hx, hz⟩ := List.mem_flatMap.1 hz
   rw [(List.mem_replicate.1 hz).2]
   have:=h x hx
   omega
 · obtain ⟨x, hx, hz⟩ := List.mem_flatMap.1 hz
   rw [(List.mem_replicate.1 hz).2]
   have:=h x hx
   simp only [ZfB,Tm.size,Zl]
   omega
theorem Zb5 (f:Bool) (l:List Tm):(prodT f l).size≤1+Zl l:=by
 match l with
 | []=>simp [prodT,Tm.size,Zl]
 | [x]=>simp only [prodT,Zl];omega
 |x::y::r=>simp only [prodT,Tm.size];omega
def Zl0 (l:List Pw):Int:=if l.any (fun x=>Yi x.2 1000)=true then 7 else if 200<l.length then 3 else 0
theorem ZjQ (l:List Pw):Zhf l=(if Zl0 l≠0 then [] else l,Zl0 l):=by
 unfold Zhf Zl0
 split
 · rfl
 · split<;>rfl
theorem ZlG {i:Nat} {x:Pw} (h:l[i]? = some x):(l.drop i).any (fun x=>Yi x.2 1000)=(Yi x.2 1000||(l.drop (i+1)).any (fun x=>Yi x.2 1000)):=by
 rw [Zy h];rfl
end Go.Vm
namespace Go.Vm.Seat
variable {l:List Pw}
open Go.Proofs
theorem Ztt (hl:PwB 1000000000 l) (hlen:l.length≤100000) (b:Bool):∀ H,CallOk E0 Tryz.prog 182 [slV b 5 (pwL l)] H (.tup [.agg (Wr false l).1.cells,.int .i64 (Wr false l).2]) H:=by
 have hV:=Ztp (fun x hx=>(hl x hx).1) (by omega) b
 have hO:=Zv4 (fun x hx=>(hl x hx).2) (by omega) b
 unfold Wr
 by_cases h1:pvG l≠0
 · rw [if_pos h1]
   generalize pvG l=v at hV h1 ⊢
   clear hO
   simp only [Zr]
   refine Jw tOk fe182.ok (Yl _ _ _) ?_
   repeat' first|refine Jc (hV _) ?_|refine Jb ?_ ?_|refine Jo ?_|intro hb
   all_goals first
    | (exfalso;simp at hb;exact h1 hb)
    | rfl
 · rw [if_neg h1]
   have h1:=Classical.not_not.1 h1
   rw [h1] at hV
   have hOm:∀ z,z∈(Vh l).take 9→z.Ok∧z.size≤100001:=fun z hz=>⟨cls_ok.ops (fun x hx=>(hl x hx).1.1) z (List.mem_of_mem_take hz),ZfK (fun x hx=>(hl x hx).1.2) z (List.mem_of_mem_take hz)⟩
   have hO9:((Vh l).take 9).length≤9:=by rw [List.length_take];omega
   have hPV:=ZnJ (t:=prodT false ((Vh l).take 9)) (cls_ok.prodT (fun x hx=>(hOm x hx).1) (by omega)) (by
    have h2:=Zb5 false ((Vh l).take 9)
    have h3:=Zcx (M:=100001) fun x hx=>(hOm x hx).2
    have h4:=Nat.mul_le_mul_right 100001 hO9
    omega)
   have hone:=Zmd Uj (l:=[]) (by decide) true
   have hmul:=Zmd Uc (l:=(Vh l).take 9) (by omega) true
   generalize (Vh l).take 9=O at hO hO9 hPV hmul ⊢
   have hlO:=Zb O
   clear hOm
   simp only [Tm.cells,Za,Zg,ZC,Uj] at hone
   by_cases h8:8<O.length
   · rw [if_pos h8]
     simp only [Zr]
     refine Jw tOk fe182.ok (Yl _ _ _) ?_
     repeat' first|refine Jc (hV _) ?_|refine Jc (hO _) ?_|refine Jl ?_|refine Jt ?_|refine Jb ?_ ?_|refine Jo ?_|intro hb
     all_goals first
      | (exfalso;rw [hlO] at hb;simp only [decide_eq_false_iff_not] at hb;omega)
      | rfl
   · rw [if_neg h8]
     obtain ⟨U,hU⟩:∃ U,U=prodT false O:=⟨_,rfl⟩
     rw [← hU] at hPV ⊢
     obtain ⟨v,hv⟩:∃ v,v=U.valid:=⟨_,rfl⟩
     rw [← hv] at hPV ⊢
     clear hv
     obtain ⟨R,e,hRe,hU1,hU2⟩:∃ (R:Tm) (e:Int),(if v≠0 then (Tm.zero,v) else (U,0))=(R,e)∧(v≠0→R= .zero∧e=v)∧(v=0→R=U∧e=0):=by
      by_cases h:v≠0
      · exact ⟨_,_,by rw [if_pos h],fun _=>⟨rfl,rfl⟩,fun h'=>absurd h' h⟩
      · exact ⟨_,_,by rw [if_neg h],fun h'=>absurd h' h,fun _=>⟨rfl,rfl⟩⟩
     rw [hRe]
     clear hRe
     show ∀ H,CallOk E0 Tryz.prog 182 _ H (.tup [.agg R.cells,.int .i64 e]) H
     have hfr:=ZU 0 hNil R e
     refine Jw tOk fe182.ok hfr ?_
     have hg8:=Xt (O.length:Int) 8
     rw [decide_eq_false (by omega)] at hg8
     match O,hO,hmul,hU,h8,hg8 with
     | [], hO, hmul, hU, h8, hg8 =>
       subst hU
       simp only [prodT,Tm.cells,Za,Zg,ZC,Uc,Uj] at hO hmul hPV hU2
       by_cases hv:v≠0
       · obtain ⟨rfl, rfl⟩ := hU1 hv
         repeat' first|(apply qCl;rfl;rfl;rfl;rfl;first|exact hV _|exact hO _|exact hmul _|exact hone _|exact hPV _)|refine Jt ?_|refine Jb ?_ ?_|refine Jo ?_|intro hb
         all_goals first
          | (exfalso;simp at hb;exact hv hb)
          | (simp only [Zr];rfl)
       · obtain ⟨rfl, rfl⟩ := hU2 (Classical.not_not.1 hv)
         repeat' first|(apply qCl;rfl;rfl;rfl;rfl;first|exact hV _|exact hO _|exact hmul _|exact hone _|exact hPV _)|refine Jt ?_|refine Jb ?_ ?_|refine Jo ?_|intro hb
         all_goals first
          | (exfalso;simp at hb;exact hv hb)
          | (simp only [Tm.cells,Za,ZC];rfl)
     | [x], hO, hmul, hU, h8, hg8 =>
       have hU:U=x:=hU
       rw [hU] at hPV hU2
       simp only [Za,Zm,Tm.cells,Uc] at hO hmul
       by_cases hv:v≠0
       · obtain ⟨rfl, rfl⟩ := hU1 hv
         obtain ⟨k',nm',s',b',kz'⟩:=x
         simp only [Tm.cells] at hO hmul hPV
         repeat' first|(apply qCl;rfl;rfl;rfl;rfl;first|exact hV _|exact hO _|exact hmul _|exact hPV _)|refine Jt ?_|refine Jb ?_ ?_|refine Jo ?_|intro hb
         all_goals first
          | (exfalso;simp at hb;exact hv hb)
          | (simp only [Zr];rfl)
       · obtain ⟨hR, rfl⟩ := hU2 (Classical.not_not.1 hv)
         subst hR
         have hfx:=fun m H=>ZU m H R 0
         obtain ⟨k',nm',s',b',kz'⟩:=R
         simp only [Tm.cells] at hO hmul hPV hfx ⊢
         repeat' first|(apply qCl;rfl;rfl;rfl;rfl;first|exact hV _|exact hO _|exact hmul _|exact hPV _)|refine Jt ?_|refine Jb ?_ ?_|refine Jo ?_|intro hb
         all_goals first
          | (exfalso;simp at hb;exact hv hb)
          | exact hfx _ _
     | x :: y :: r, hO, hmul, hU, h8, hg8 =>
       subst hU
       have e2:slV true 4 (Za (x::y::r))= .sl .none 4 (x.cells::y.cells::Za r):=Zm _ _ _ _
       have e3:slV false 4 (Za (x::y::r))= .sl .none 4 (x.cells::y.cells::Za r):=Zm _ _ _ _
       have hE:(x.cells::y.cells::Za r).length=r.length+2:=by simp [Zb]
       simp only [prodT,Tm.cells,Uc] at hPV hmul
       rw [e2] at hO hmul
       rw [e3] at hPV hmul
       have hx1:Xo E0 .eql 3 (.int .i64 (Int.ofNat (x.cells::y.cells::Za r).length)) (.int .i64 0)=some (.bool false):=by
        show some (PV.bool (decide (_=_)))=_
        rw [decide_eq_false (by simp;omega)]
       have hx2:Xo E0 .eql 3 (.int .i64 (Int.ofNat (x.cells::y.cells::Za r).length)) (.int .i64 1)=some (.bool false):=by
        show some (PV.bool (decide (_=_)))=_
        rw [decide_eq_false (by simp;omega)]
       have hx3:Xo E0 .gtr 3 (.int .i64 (Int.ofNat (x.cells::y.cells::Za r).length)) (.int .i64 8)=some (.bool false):=by
        show some (PV.bool (decide (_<_)))=_
        rw [decide_eq_false (by rw [hE];simp only [List.length_cons] at h8;simp;omega)]
       by_cases hv:v≠0
       · obtain ⟨rfl, rfl⟩ := hU1 hv
         repeat' first|(apply qCl;rfl;rfl;rfl;rfl;first|exact hV _|exact hO _|exact hmul _|exact hPV _)|refine Ji ?_|refine Jb ?_ ?_|refine Jo ?_|intro hb
         all_goals first
          | (exfalso;simp at hb;exact hv hb)
          | (simp only [Zr];rfl)
       · obtain ⟨rfl, rfl⟩ := hU2 (Classical.not_not.1 hv)
         repeat' first|(apply qCl;rfl;rfl;rfl;rfl;first|exact hV _|exact hO _|exact hmul _|exact hPV _)|refine Ji ?_|refine Jb ?_ ?_|refine Jo ?_|intro hb
         all_goals first
          | (exfalso;simp at hb;exact hv hb)
          | (simp only [prodT,Tm.cells,e3];rfl)
theorem Zuh (b:Bool) (hlen:l.length≤1000000):∀ H,CallOk E0 Tryz.prog 201 [slV b 5 (pwL l)] H (.int .i64 (Zl0 l)) H:=by
 have hpl:=Z0 l
 unfold Zl0
 refine Jw tOk fe201.ok rfl ?_
 repeat' first|refine Jo ?_|fail
 refine Wp.while (fun m tm H => ∃ (i : Nat) (base : TM), i + m = l.length ∧ l.any (fun x => Yi x.2 1000) = (l.drop i).any (fun x => Yi x.2 1000) ∧
   tm=ovr base [(0,slV b 5 (pwL l)),(3,.int .i64 (i:Int))]∧H=hNil)
  (fun m tm H hI=>?_) l.length _ _ ⟨0,_,by omega,by rw [List.drop_zero],Zf ⟨rfl,rfl,trivial⟩,rfl⟩
 obtain ⟨i,base,hi,hgo,rfl,rfl⟩:=hI
 rw [hgo]
 by_cases hlt:i<l.length
 · obtain ⟨x, hx⟩ : ∃ x, l[i]? = some x := ⟨l[i], by simp⟩
   have hd:=ZlG hx
   have hlx:=Zq (i:Int) ((pwL l).length:Int)
   rw [decide_eq_true (by rw [hpl];omega)] at hlx
   have hL:=Zq x.2 (-1000)
   have hG:=Xt x.2 1000
   have hj:=Xh hx
   unfold Yi at hd hgo ⊢
   generalize decide (x.2< -1000)=bL at hL hd
   generalize decide ((1000:Int)<x.2)=bG at hG hd
   obtain ⟨⟨k',nm',s',b',kz'⟩,xn⟩:=x
   simp only [pwC,Tm.cells,List.cons_append,List.nil_append] at hj
   rw [hd]
   cases bL<;>cases bG
   · rw [Bool.false_or, Bool.false_or]
     repeat' first|refine Ji ?_|refine Jl ?_|refine Jx ?_|refine Jt ?_|refine Jo ?_|fail
     all_goals exact LoopI.go (m-1) (by omega) ⟨i+1,_,by omega,rfl,Zf ⟨rfl,Ze (Zd (n:=i+1) (by omega)),trivial⟩,rfl⟩
   all_goals
    rw [if_pos (by simp)]
    repeat' first|refine Jk ?_|refine Ji ?_|refine Jl ?_|refine Jx ?_|refine Jt ?_|refine Jo ?_|fail
    all_goals rfl
 · have e : i = l.length := by omega
   subst e
   have hlx:=Zq (l.length:Int) ((pwL l).length:Int)
   rw [decide_eq_false (by rw [hpl];omega)] at hlx
   rw [List.drop_length,if_neg (by simp)]
   by_cases h2:200<l.length
   · rw [if_pos h2]
     repeat' first|refine Ji ?_|refine Jl ?_|refine Jb ?_ ?_|refine Jo ?_|intro hb
     all_goals first
      | (exfalso;rw [hpl] at hb;simp only [decide_eq_false_iff_not] at hb;omega)
      | rfl
   · rw [if_neg h2]
     repeat' first|refine Ji ?_|refine Jl ?_|refine Jb ?_ ?_|refine Jo ?_|intro hb
     all_goals first
      | (exfalso;rw [hpl] at hb;simp only [decide_eq_true_eq] at hb;omega)
      | rfl
end Go.Vm.Seat
namespace Go.Vm
theorem ZjB {B:Int} (hB:0≤B):∀ (b:List Pw) {l:List Pw} {C:Int},0≤C→PwB C l→PwB B b→PwB (C+b.length*B) (insF l b)∧(insF l b).length≤l.length+b.length
 | [],l,C,hC,hl,_=>⟨by simpa [insF] using hl,by simp [insF]⟩
 | x :: r, l, C, hC, hl, hb => by
   have hx:=hb x List.mem_cons_self
   have h1:=hl.ins (t:=x.1) (n:=x.2) (c:=B) hx.1 hx.2 hC hB
   obtain ⟨h2,h3⟩:=ZjB hB r (l:=Vf l x.1 x.2) (C:=C+B) (by omega) h1 hb.tail
   have h4:=ZcA l x.1 x.2
   refine ⟨?_,?_⟩
   · have e : C + ((x :: r).length : Int) * B = C + B + (r.length : Int) * B := by
       rw [List.length_cons]
       push_cast
       rw [Int.add_mul]
       omega
     rw [e]
     exact h2
   · show (insF (Vf l x.1 x.2) r).length ≤ _
     rw [List.length_cons]
     omega
theorem Zjh {b:List Pw} {i:Nat} {x:Pw} (a:List Pw) (h:b[i]? = some x):Zbe a (b.take (i+1))=ZkS (Zbe a (b.take i)) x.1 x.2:=XR (f:=fun l (x:Pw)=>ZkS l x.1 x.2) h
theorem Zbq {a b:List Pw} {B:Int} (hB:0≤B) (ha:PwB B a) (hb:PwB B b) (h1:pvG a=0) (h2:pvG b=0) (i:Nat) (hi:i≤b.length):PwB (B+i*B) (Zbe a (b.take i))∧(Zbe a (b.take i)).length≤a.length+i:=by
 rw [Zck _ _ (Qq h1).1 fun x hx=>(Qq h2).2 x (List.mem_of_mem_take hx)]
 have h:=ZjB hB (b.take i) (l:=a) (C:=B) hB ha fun x hx=>hb x (List.mem_of_mem_take hx)
 rw [List.length_take,Nat.min_eq_left hi] at h
 exact h
theorem Uo {l:List Pw} (h:pvG l=0):l.length≤200:=by
 unfold pvG at h
 split at h
 · exact absurd h (by decide)
 · omega
end Go.Vm
namespace Go.Vm.Seat
open Go.Proofs
theorem Y3 {v:Int} (h:v≠0):Xo E0 .neq 30 (.int .i64 v) (.int .i64 0)=some (.bool true):=by
 show some (PV.bool (!(v==0)))=_
 simp [h]
theorem Zuv {a b:List Pw} (ha:PwB 1000000 a) (hb':PwB 1000000 b) (hla:a.length≤100000) (hlb:b.length≤100000) (ba bb:Bool):∃ f,∀ H,CallOk E0 Tryz.prog 183 [slV ba 5 (pwL a),slV bb 5 (pwL b)] H (.tup [slV f 5 (pwL (Zc8 a b).1),.int .i64 (Zc8 a b).2]) H:=by
 have hVa:=Ztp (fun x hx=>(ha x hx).1) (by omega) ba
 have hVb:=Ztp (fun x hx=>(hb' x hx).1) (by omega) bb
 have hnil:slV true 5 (pwL [])= .nils:=Zg 5
 unfold Zc8 ZmK
 by_cases hP1:pvG a≠0
 · rw [if_pos hP1]
   refine ⟨true,?_⟩
   rw [hnil]
   generalize pvG a=v at hVa hP1 ⊢
   refine Jw tOk fe183.ok rfl ?_
   have hne:=Y3 hP1
   repeat' first|refine Jc (hVa _) ?_|refine Ji ?_|refine Jo ?_|fail
   all_goals rfl
 rw [if_neg hP1]
 have hP1:=Classical.not_not.1 hP1
 rw [hP1] at hVa
 by_cases hP2:pvG b≠0
 · rw [if_pos hP2]
   refine ⟨true,?_⟩
   rw [hnil]
   generalize pvG b=v at hVb hP2 ⊢
   refine Jw tOk fe183.ok rfl ?_
   have hne:=Y3 hP2
   repeat' first|refine Jc (hVa _) ?_|refine Jc (hVb _) ?_|refine Ji ?_|refine Jt ?_|refine Jo ?_|fail
   all_goals rfl
 rw [if_neg hP2]
 have hP2:=Classical.not_not.1 hP2
 rw [hP2] at hVb
 have hb200:=Uo hP2
 have ha200:=Uo hP1
 have hpl:=Z0 b
 have hfacts:=Zbq (by decide) ha hb' hP1 hP2
 rw [ZjQ]
 have hA0:ApV false 5 [] (.sl .full 5 []) [] 0:= .full [] _ _ rfl rfl
 obtain ⟨out',lv',nt',hap,hA', -⟩:=hA0.app apT_pw (.slV ba 5 (pwL a)) (ZaY _) (ZD (by simp only [Z0,List.length_nil];omega) (by decide)) (Zkb _)
 rw [List.nil_append] at hA'
 obtain ⟨tl,rfl⟩:=Zav hA'
 obtain ⟨hfN1,hfN2⟩:=hfacts b.length (Nat.le_refl _)
 rw [List.take_length] at hfN1 hfN2
 have hR:=Zuh (l:=Zbe a b) (!b.isEmpty) (by omega)
 have hRt:b= []→∀ H,CallOk E0 Tryz.prog 201 [.sl tl 5 (pwL a)] H (.int .i64 (Zl0 (Zbe a b))) H:=fun e H=>by
  have:=Zuh (l:=a) false (by omega) H
  rw [Yb] at this
  rw [e]
  exact Zs this rfl
 generalize Zl0 (Zbe a b)=R at hR hRt ⊢
 obtain ⟨f,hf⟩:∃ f,f=if R≠0 then true else !b.isEmpty:=⟨_,rfl⟩
 obtain ⟨M,hM⟩:∃ M,M=if R≠0 then [] else Zbe a b:=⟨_,rfl⟩
 refine ⟨f,?_⟩
 rw [← hM]
 refine Jw tOk fe183.ok (ZaP _ _ _ _ _) ?_
 repeat' first|refine Jc (hVa _) ?_|refine Jc (hVb _) ?_|refine Js ?_|refine JA ?_|refine Jt ?_|refine Jo ?_|fail
 refine Wp.while (fun m tm H => ∃ (i : Nat) (base : TM) (V : PV), i + m = b.length ∧ (i = 0 ∧ V = .sl tl 5 (pwL a) ∨ 0 < i ∧ V = slV true 5 (pwL (Zbe a (b.take i)))) ∧
   tm=ovr base [(8,V),(1,slV bb 5 (pwL b)),(9,.int .i64 (i:Int))]∧H=⟨[],0,lv',nt'⟩)
  (fun m tm H hI=>?_) b.length _ _ ⟨0,_,_,by omega,.inl ⟨rfl,rfl⟩,Zf ⟨rfl,rfl,rfl,trivial⟩,rfl⟩
 obtain ⟨i,base,V,hi,hV,rfl,rfl⟩:=hI
 clear hap
 by_cases hlt:i<b.length
 · obtain ⟨x, hx⟩ : ∃ x, b[i]? = some x := ⟨b[i], by simp⟩
   have hxs:=hb' x (List.mem_of_getElem? hx)
   have hsn:=Zjh a hx
   obtain ⟨gA,gB⟩:=hfacts i (by omega)
   have hlx:=Zq (i:Int) ((pwL b).length:Int)
   rw [decide_eq_true (by rw [hpl];omega)] at hlx
   have hct:=ZtW (l:=Zbe a (b.take i)) (t:=x.1) (n:=x.2) (gA.mono (by omega)) hxs.1 (by omega) (by omega)
   rw [← hsn] at hct
   have hj:=Xh hx
   clear hR hRt hVa hVb
   rcases hV with ⟨hI0,rfl⟩|⟨hI0,rfl⟩
   · have hct1 := hct false
     have e0:Zbe a (b.take i)=a:=by rw [hI0];rfl
     rw [e0,Yb] at hct1
     have hct2:∀ H,CallOk E0 Tryz.prog 200 [.sl tl 5 (pwL a),.agg x.1.cells,.int .i64 x.2] H (slV true 5 (pwL (Zbe a (b.take (i+1))))) H:=fun H=>by
      have:=hct1 H
      obtain ⟨⟨k',nm',s',b',kz'⟩,xn⟩:=x
      simp only [Tm.cells] at this ⊢
      exact Zs this (by simp only [Zx,frzG,XM,ZE];rfl)
     obtain ⟨⟨k',nm',s',b',kz'⟩,xn⟩:=x
     simp only [pwC,Tm.cells,List.cons_append,List.nil_append] at hj hct1 hct2
     clear gA gB
     repeat' first|refine Ji ?_|refine Jl ?_|refine Jo ?_|refine Jd (hct2 _) ?_|refine JI ?_|refine Jh ?_|(apply Wp.draw tOk follows;kernel_rfl)|fail
     all_goals exact LoopI.go (m-1) (by omega) ⟨i+1,_,_,by omega,.inr ⟨by omega,rfl⟩,Zf ⟨rfl,rfl,Ze (Zd (n:=i+1) (by omega)),trivial⟩,rfl⟩
   · have hct1 := hct true
     obtain ⟨⟨k',nm',s',b',kz'⟩,xn⟩:=x
     simp only [pwC,Tm.cells,List.cons_append,List.nil_append] at hj hct1
     clear gA gB
     repeat' first|refine Ji ?_|refine Jl ?_|refine Jo ?_|refine Jd (hct1 _) ?_|refine JI ?_|refine Jh ?_|(apply Wp.draw tOk follows;kernel_rfl)|fail
     all_goals exact LoopI.go (m-1) (by omega) ⟨i+1,_,_,by omega,.inr ⟨by omega,rfl⟩,Zf ⟨rfl,rfl,Ze (Zd (n:=i+1) (by omega)),trivial⟩,rfl⟩
 · have e : i = b.length := by omega
   subst e
   have hlx:=Zq (b.length:Int) ((pwL b).length:Int)
   rw [decide_eq_false (by rw [hpl];omega)] at hlx
   rw [List.take_length] at hV
   rcases hV with ⟨hI0,rfl⟩|⟨hI0,rfl⟩
   · have e0 := List.length_eq_zero_iff.1 hI0
     have hRt:=hRt e0
     have hRt2:∀ H,CallOk E0 Tryz.prog 201 [.sl .none 5 (pwL a)] H (.int .i64 R) H:=fun H=>by
      have:=hR H
      rw [e0] at this
      rw [show slV (![].isEmpty) 5 (pwL (Zbe a []))= .sl .none 5 (pwL a) from Yb _ _] at this
      exact this
     by_cases hRz:R≠0
     · rw [if_pos hRz] at hf hM
       rw [hf,hM,hnil]
       have hne:=Y3 hRz
       repeat' first|refine Jc (hRt _) ?_|refine Ji ?_|refine Jl ?_|refine Jo ?_|fail
       all_goals rfl
     · have hRz := Classical.not_not.1 hRz
       subst hRz
       rw [if_neg (by simp)] at hf hM
       rw [hf,hM,e0,show slV (![].isEmpty) 5 (pwL (Zbe a []))= .sl .none 5 (pwL a) from Yb _ _]
       repeat' first|refine Jc (hRt _) ?_|refine Jl ?_|refine Jt ?_|refine Jo ?_|fail
       all_goals rfl
   · have hbe : (!b.isEmpty) = true := by
       cases b with
       | nil=>exact absurd hI0 (by simp)
       | cons y r=>rfl
     rw [hbe] at hR hf
     by_cases hRz:R≠0
     · rw [if_pos hRz] at hf hM
       rw [hf,hM,hnil]
       have hne:=Y3 hRz
       repeat' first|refine Jc (hR _) ?_|refine Ji ?_|refine Jl ?_|refine Jo ?_|fail
       all_goals rfl
     · have hRz := Classical.not_not.1 hRz
       subst hRz
       rw [if_neg (by simp)] at hf hM
       rw [hf,hM]
       repeat' first|refine Jc (hR _) ?_|refine Ji ?_|refine Jl ?_|refine Jt ?_|refine Jo ?_|fail
       all_goals exact ZaP _ _ _ _ _
theorem ZsI {l:List Pw} (hl:∀ x,x∈l→x.1.Ok∧x.1.size≤100000) (hlen:l.length≤1000000) (b:Bool):∀ H,CallOk E0 Tryz.prog 219 [slV b 5 (pwL l)] H (.int .i64 (pvG l)) H:=by
 have hpl:=Z0 l
 unfold pvG
 refine Jw tOk fe219.ok rfl ?_
 by_cases h2:200<l.length
 · rw [if_pos h2]
   repeat' first|refine Jl ?_|refine Jb ?_ ?_|refine Jo ?_|intro hb
   all_goals first
    | rfl
    | (exfalso;rw [hpl] at hb;simp only [decide_eq_false_iff_not] at hb;omega)
 · rw [if_neg h2]
   repeat' first|refine Jl ?_|refine Jb ?_ ?_|refine Jo ?_|intro hb
   · exfalso;rw [hpl] at hb;simp only [decide_eq_true_eq] at hb;omega
   refine Wp.while (fun m tm H => ∃ (i : Nat) (base : TM), i + m = l.length ∧ pvL none l = pvL (VG l i) (l.drop i) ∧
     tm=ovr base [(0,slV b 5 (pwL l)),(9,slV b 5 (pwL l)),(10,.int .i64 (l.length:Int)),(11,.int .i64 (i:Int))]∧H=hNil)
    (fun m tm H hI=>Wp.drop ?_) l.length _ _ ⟨0,_,by omega,by rw [List.drop_zero];rfl,Zf ⟨rfl,rfl,Ze (by rw [hpl]),rfl,trivial⟩,rfl⟩
   obtain ⟨i,base,hi,hgo,rfl,rfl⟩:=hI
   rw [hgo]
   clear hb hgo
   by_cases hlt:i<l.length
   · obtain ⟨x, hx⟩ : ∃ x, l[i]? = some x := ⟨l[i], by simp⟩
     have hxs:=hl x (List.mem_of_getElem? hx)
     have hV:=c46 hxs.1 (by have:=hxs.2;omega)
     have hsp:=ZtK x.1
     have hd:=Zgb hx
     have hlx:=Zq (i:Int) (l.length:Int)
     rw [decide_eq_true (by omega)] at hlx
     have hZ:=Z6 x.2 0
     have hL:=Zq x.2 (-1000)
     have hG:=Xt x.2 1000
     have hC:∀ (j:Nat) (y:Pw),l[j]? = some y→∃ c,(∀ H,CallOk E0 Tryz.prog 28 [.agg y.1.cells,.agg x.1.cells] H (.int .i64 c) H)∧(i=j+1→Qa (VG l i) x.1=decide (0≤c)):=fun j y hy=>⟨_,Zrz (hl y (List.mem_of_getElem? hy)) hxs,fun e=>by rw [e,Zby hy];rfl⟩
     have hC0:i=0→Qa (VG l i) x.1=false:=fun e=>by rw [e];rfl
     have hj:=Xh hx
     unfold Yi at hd
     generalize pvL (VG l i) (l.drop i)=R at hd ⊢
     generalize Qa (VG l i) x.1=LB at hd hC hC0
     generalize decide (x.2=0)=bZ at hZ hd
     generalize decide (x.2< -1000)=bL at hL hd
     generalize decide ((1000:Int)<x.2)=bG at hG hd
     generalize x.1.valid=v at hV hd
     generalize x.1.sym=sy at hsp hd
     obtain ⟨⟨k',nm',s',b',kz'⟩,xn⟩:=x
     simp only [pwC,Tm.cells,List.cons_append,List.nil_append] at hV hsp hj hC
     by_cases hv:v≠0
     · rw [if_pos hv] at hd
       have hne:=Y3 hv
       repeat' first|refine Jc (hV _) ?_|refine Ji ?_|refine Jx ?_|refine Jo ?_|fail
       all_goals rw [hd]
     have hv:=Classical.not_not.1 hv
     subst hv
     rw [if_neg (by simp)] at hd
     cases sy
     rotate_left
     · rw [if_pos rfl] at hd
       repeat' first|refine Jc (hV _) ?_|refine Jc (hsp _) ?_|refine Ji ?_|refine Jx ?_|refine Jt ?_|refine Jo ?_|fail
       all_goals rw [hd]
     rw [if_neg (by decide)] at hd
     by_cases hbad:(bZ||(bL||bG))=true
     · rw [if_pos hbad] at hd
       cases bZ<;>cases bL<;>cases bG<;>first|(exact absurd hbad (by decide))|skip
       all_goals
        repeat' first|refine Jk ?_|refine Jc (hV _) ?_|refine Jc (hsp _) ?_|refine Ji ?_|refine Jx ?_|refine Jt ?_|refine Jo ?_|fail
        all_goals rw [hd]
     · rw [if_neg hbad] at hd
       obtain rfl:bZ=false:=by cases bZ<;>simp_all
       obtain rfl:bL=false:=by cases bL<;>simp_all
       obtain rfl:bG=false:=by cases bG<;>simp_all
       match i,hi,hlt,hx,hj,hC0,hC,hlx with
       | 0, hi, hlt, hx, hj, hC0, hC, hlx =>
         rw [hC0 rfl,if_neg (by decide)] at hd
         repeat' first|refine Jc (hV _) ?_|refine Jc (hsp _) ?_|refine Ji ?_|refine Jx ?_|refine Jt ?_|refine Jo ?_|(apply dK;rfl;rfl;rfl)|(apply dF (ty:=4);rfl;rfl;rfl;rfl)|refine Jh ?_|(apply Wp.draw tOk follows;kernel_rfl)|fail
         all_goals
          refine DropQ.go [(0,slV b 5 (pwL l)),(9,slV b 5 (pwL l)),(10,.int .i64 (l.length:Int)),(11,.int .i64 ((0+1:Nat):Int))] ?_ ?_ rfl rfl ?_
          · exact ⟨rfl,rfl,rfl,Ze (Zd (n:=0+1) (by omega)),trivial⟩
          · simp [Zh,under]
          · exact LoopI.go (m-1) (by omega) ⟨0+1,_,by omega,by rw [hd],rfl,rfl⟩
       | j + 1, hi, hlt, hx, hj, hC0, hC, hlx =>
         obtain ⟨y,hy⟩:∃ y,l[j]? = some y:=⟨l[j],by simp⟩
         obtain ⟨c,hCy,hLB⟩:=hC j y hy
         have hLB:=hLB rfl
         have hg0:=Xt ((j+1:Nat):Int) 0
         rw [decide_eq_true (by omega)] at hg0
         have hsb:Xo E0 .sub 3 (.int .i64 ((j+1:Nat):Int)) (.int .i64 1)=some (.int .i64 (j:Int)):=by
          rw [Zq1 (by omega) (by omega)]
          congr 2
          omega
         have hjy:=Xh hy
         have hge:=Y0 c 0
         rw [← hLB] at hge
         obtain ⟨⟨k2,nm2,s2,b2,kz2⟩,yn⟩:=y
         simp only [pwC,Tm.cells,List.cons_append,List.nil_append] at hCy hjy
         cases LB
         · rw [if_neg (by decide)] at hd
           repeat' first|refine Jc (hV _) ?_|refine Jc (hsp _) ?_|refine Ji ?_|refine Jx ?_|refine Jt ?_|refine Jo ?_|refine Jd (hCy _) ?_|refine JD ?_|refine JI ?_|(apply dT (ty:=4);rfl;rfl;rfl;rfl)|(apply dF (ty:=4);rfl;rfl;rfl;rfl)|refine Jh ?_|(apply Wp.draw tOk follows;kernel_rfl)|fail
           all_goals
            refine DropQ.go [(0,slV b 5 (pwL l)),(9,slV b 5 (pwL l)),(10,.int .i64 (l.length:Int)),(11,.int .i64 ((j+1+1:Nat):Int))] ?_ ?_ rfl rfl ?_
            · exact ⟨rfl,rfl,rfl,Ze (Zd (n:=j+1+1) (by omega)),trivial⟩
            · simp [Zh,under]
            · exact LoopI.go (m-1) (by omega) ⟨j+1+1,_,by omega,by rw [hd],rfl,rfl⟩
         · rw [if_pos rfl] at hd
           repeat' first|refine Jc (hV _) ?_|refine Jc (hsp _) ?_|refine Ji ?_|refine Jx ?_|refine Jt ?_|refine Jo ?_|refine Jd (hCy _) ?_|refine JD ?_|refine JI ?_|(apply dT (ty:=4);rfl;rfl;rfl;rfl)|refine Jh ?_|(apply Wp.draw tOk follows;kernel_rfl)|fail
           all_goals rw [hd]
   · have e : i = l.length := by omega
     subst e
     have hlx:=Zq (l.length:Int) (l.length:Int)
     rw [decide_eq_false (by omega)] at hlx
     repeat' first|refine Ji ?_|refine Jo ?_|fail
     rw [List.drop_length]
     rfl
