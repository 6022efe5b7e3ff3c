/-
  What is declared: the reference's text; the scope of a narration.
-/
import Derived.Test.YtgnklbkmfeafaaaGreatDoorUt
set_option maxHeartbeats 0
set_option maxRecDepth 100000
namespace Go.Vm
variable {i:Nat} {R seen:List Zg} {x:Zg} {n:Na}
theorem Zgi {E : Env} {t e : TypeId} {ti ei : TI} {es : Nat} (hT : E.T t = some ti) (hk : ti.tk = .slice e) (he : E.T e = some ei) (hes : ei.size = es) (b : Bool) {L : List (List PV)} (hne : L ≠ []) {k : Nat} (hl : k ≤ L.length) :
  YY E t (slV b es L) none (some (.int .i64 (k:Int))) none=some (slV false es (L.take k)):=by
 have hn:nat? (.int .i64 (k:Int))=some k:=by simp [nat?]
 obtain ⟨c,r,rfl⟩:∃ c r,L=c::r:=by cases L with
  | nil=>exact absurd rfl hne
  | cons c r=>exact ⟨c,r,rfl⟩
 rw [Zx,Up]
 simp only [YY,hT,hk,he,hes,if_true,ZbC,XL,hn]
 rw [if_pos (by simpa using hl)]
 simp [Zc5]
theorem Zgw (l:List Zg) (k:Nat):(Zi l).take k=Zi (l.take k):=by simp [Zi]
theorem ZgF {α:Type} {l:List α} {x:α} (h:l[i]? = some x):l.take (i+1)=l.take i++ [x]:=by rw [List.take_add_one,h];rfl
theorem QE {N : List Zg} {IT : List (Zg × Option Zg)} {o : Option Zg} (hx : N[i]? = some x) (hi : IT[i]? = some (x, o)) {e : Int} (he : itE R (N.take i) (x, o) = e) :
  itL R (N.take i) (IT.drop i)=if e≠0 then e else itL R (N.take (i+1)) (IT.drop (i+1)):=by
 rw [ZA hi,ZgF hx, ← he];rfl
theorem Zf8 (n:Na):n.items.length=n.nms.length:=by simp [Na.items,Na.nms]
theorem ZiU (h:n.nms[i]? = some x) (hi:i<n.roles.length):n.items[i]? = some (x,none):=by
 rw [Na.nms,List.getElem?_append_left hi] at h
 rw [Na.items,List.getElem?_append_left (by simpa using hi),List.getElem?_map,h];rfl
theorem ZiF {f:Fr} (h:n.fresh[i]? = some f):n.nms[n.roles.length+i]? = some f.name∧n.items[n.roles.length+i]? = some (f.name,some f.role):=by
 have hi:i<n.fresh.length:=(List.getElem?_eq_some_iff.1 h).1
 constructor
 · rw [Na.nms,List.getElem?_append_right (by omega),Nat.add_sub_cancel_left,List.getElem?_append_left (by simpa using hi),List.getElem?_map,h];rfl
 · rw [Na.items,List.getElem?_append_right (by simp),List.length_map,Nat.add_sub_cancel_left,List.getElem?_append_left (by simpa using hi),List.getElem?_map,h];rfl
theorem ZiY (h:n.nms[i]? = some x) (hi:n.roles.length+n.fresh.length≤i):n.items[i]? = some (x,none):=by
 rw [Na.nms,List.getElem?_append_right (by omega),List.getElem?_append_right (by simp;omega),List.length_map] at h
 rw [Na.items,List.getElem?_append_right (by simp;omega),List.length_map,List.getElem?_append_right (by simp;omega),List.length_map,List.getElem?_map,h];rfl
theorem VU:itE R seen (x,none)=if x.contains 35=true then 2 else if ZU seen x=true then 5 else 0:=by
 unfold itE
 by_cases h1:x.contains 35=true
 · rw [if_pos h1,if_pos h1]
 · rw [if_neg h1,if_neg h1,if_neg (fun h=>h.1 rfl)]
theorem Zb4 {r:Zg}:itE R seen (x,some r)=if x.contains 35=true then 2 else if x= [101]∨x= [103] then 1 else if ZU seen x=true then 5 else if ZU R r=true then 0 else 13:=by
 unfold itE
 by_cases h1:x.contains 35=true
 · rw [if_pos h1,if_pos h1]
 · rw [if_neg h1, if_neg h1]
   by_cases h2:x= [101]∨x= [103]
   · rw [if_pos h2,if_pos ⟨by simp,h2⟩]
   · rw [if_neg h2,if_neg (fun h=>h2 h.2)]
end Go.Vm
namespace Go.Vm.Seat
open Go.Proofs
theorem Zin (b:Bool) {l:List Zg} {i:Nat} (h:i<l.length):YY E0 22 (slV b 1 (Zi l)) none (some (.int .i64 (i:Int))) none=some (slV false 1 (Zi (l.take i))):=by
 rw [← Zgw]
 have hl:=ZC l
 exact Zgi (E:=E0) (t:=22) (L:=Zi l) (es:=1) rfl rfl rfl rfl b (fun h2=>by rw [h2] at hl;simp at hl;omega) (by omega)
theorem ZjM {n:Na} (h:n.Sm):∀ H,CallOk E0 Tryz.prog 113 [.agg n.cells] H (.int .i64 n.dec) H:=by
 obtain ⟨so,cN⟩:=c74 h
 have hl:∀ s,s∈n.nms→s.length≤1048600:=by
  intro s hs
  rcases List.mem_append.1 hs with hs|hs
  · exact h.rs s hs
  rcases List.mem_append.1 hs with hs|hs
  · obtain ⟨f, hf, rfl⟩ := List.mem_map.1 hs
    exact (h.fs f hf).2
  · exact h.ts s hs
 have hrl:=h.rl
 have hfl:=h.fl
 have hNl:n.nms.length≤120:=by
  have h3:=h.tl
  simp only [Na.nms,List.length_append,List.length_map];omega
 clear h
 have hi1:=fun i x=>ZiU (n:=n) (i:=i) (x:=x)
 have hi2:=fun i f=>ZiF (n:=n) (i:=i) (f:=f)
 have hi3:=fun i x=>ZiY (n:=n) (i:=i) (x:=x)
 have hil:=Zf8 n
 have cR:=fun v=>ZgZ (l:=n.roles) (by omega) v n.rn
 rw [Na.dec]
 generalize n.items=IT at hi1 hi2 hi3 hil ⊢
 generalize n.nms=N at cN hl hNl hi1 hi2 hi3 hil
 obtain ⟨nm,rn,rs,fn,fr,tn,ts,sn,ss,gn,gs⟩:=n
 simp only [Na.cells] at cN hrl hfl hi1 hi2 hi3 cR ⊢
 have e1:=ZC rs
 have e2:=YI fr
 have e3:=ZC N
 have hadd:=Zy (a:=((Zi rs).length:Int)) (b:=((frC fr).length:Int)) (by omega) (by omega)
 refine Jw tOk fe113.ok rfl ?_ (by simp only [Zt,Zj])
 repeat' first|refine Jk ?_|refine Jc (cN _) ?_|refine JS ?_|refine JX ?_|refine Ji ?_|refine JJ ?_|refine Jl ?_|refine Jx ?_|refine Jt ?_|refine Jb ?_ ?_|refine Jo ?_|(apply dK;rfl;rfl;rfl)|refine Jd (cN _) ?_|(apply dSl;rfl;rfl;rfl;rfl;rfl;rfl;assumption;exact IsV.any _;rfl)|(apply dXi;rfl;rfl;rfl;rfl;assumption;exact IsV.any _;rfl)|refine JD ?_|refine JK ?_|(apply dLn;rfl;rfl;rfl;rfl;rfl)|refine JI ?_|(apply dT (ty:=4);rfl;rfl;rfl;rfl)|(apply dF (ty:=4);rfl;rfl;rfl;rfl)|(apply dB (ty:=4);rfl;rfl;rfl;rfl)|refine Jh ?_|(apply Wp.draw tOk follows;kernel_rfl)|intro hb
 clear cN
 refine Wp.while (fun m2 tm H=>∃ (i:Nat) (base:TM),i+m2=N.length∧itL rs [] IT=itL rs (N.take i) (IT.drop i)∧tm=ovr base [(1,.ptr 0 6 0 0),(3,slV true 1 (Zi N)),(5,.int .i64 (i:Int))]∧H=⟨[naB nm rn rs fn fr tn ts sn ss gn gs],0,[],0⟩)
  (fun m2 tm H hI=>?_) N.length _ _ ⟨0,_,by omega,by simp,Zf ⟨rfl,rfl,rfl,trivial⟩,rfl⟩
 obtain ⟨i,base,hi,hgo,rfl,rfl⟩:=hI
 rw [hgo]
 clear hgo
 have hlx:=Zn (i:Int) ((Zi N).length:Int)
 by_cases hlt:i<N.length
 case neg=>
  have e:i=N.length:=by omega
  subst e
  rw [decide_eq_false (by omega)] at hlx
  rw [List.drop_of_length_le (by omega)]
  repeat' first|refine Jk ?_|refine JS ?_|refine JX ?_|refine Ji ?_|refine JJ ?_|refine Jl ?_|refine Jx ?_|refine Jt ?_|refine Jb ?_ ?_|refine Jo ?_|(apply dK;rfl;rfl;rfl)|(apply dSl;rfl;rfl;rfl;rfl;rfl;rfl;assumption;exact IsV.any _;rfl)|(apply dXi;rfl;rfl;rfl;rfl;assumption;exact IsV.any _;rfl)|refine JD ?_|refine JK ?_|(apply dLn;rfl;rfl;rfl;rfl;rfl)|refine JI ?_|(apply dT (ty:=4);rfl;rfl;rfl;rfl)|(apply dF (ty:=4);rfl;rfl;rfl;rfl)|(apply dB (ty:=4);rfl;rfl;rfl;rfl)|refine Jh ?_|(apply Wp.draw tOk follows;kernel_rfl)|intro hb
  all_goals rfl
 rw [decide_eq_true (by omega)] at hlx
 obtain ⟨x,hx⟩:∃ x,N[i]? = some x:=⟨N[i],by simp⟩
 have hxl:=hl x (List.mem_of_getElem? hx)
 have hj:=Yf hx
 have hii:=Zy (a:=(i:Int)) (b:=1) (by omega) (by omega)
 rw [show (i:Int)+1=((i+1:Nat):Int) by omega] at hii
 have hge:=Us (i:Int) ((Zi rs).length:Int)
 have hls:=Zn (i:Int) (((Zi rs).length:Int)+((frC fr).length:Int))
 have hsl:=Zin true hlt
 have cS:=ZgZ (l:=N.take i) (by rw [List.length_take];omega) x false
 have gS:=Us (XS (isR x) (N.take i) 0) 0
 rw [ZgB] at gS
 generalize XS (isR x) (N.take i) 0=FS at cS gS
 by_cases d1:i<rs.length
 · rw [decide_eq_false (by omega)] at hge
   clear cR
   rw [QE hx (hi1 i x hx d1) rfl]
   have hE1:x.contains 35=true→itE rs (N.take i) (x,none)=2:=fun h=>by rw [VU,if_pos h]
   have hE2:x.contains 35=false→itE rs (N.take i) (x,none)=if ZU (N.take i) x=true then 5 else 0:=fun h=>by rw [VU,if_neg (by rw [h];simp)]
   generalize itE rs (N.take i) (x,none)=e at hE1 hE2 ⊢
   repeat' first|refine Jk ?_|refine JS ?_|refine JX ?_|refine Ji ?_|refine JJ ?_|refine Jl ?_|refine Jx ?_|refine Jt ?_|refine Jb ?_ ?_|refine Jo ?_|(apply dK;rfl;rfl;rfl)|(apply dSl;rfl;rfl;rfl;rfl;rfl;rfl;assumption;exact IsV.any _;rfl)|(apply dXi;rfl;rfl;rfl;rfl;assumption;exact IsV.any _;rfl)|refine JD ?_|refine JK ?_|(apply dLn;rfl;rfl;rfl;rfl;rfl)|refine JI ?_|(apply dT (ty:=4);rfl;rfl;rfl;rfl)|(apply dF (ty:=4);rfl;rfl;rfl;rfl)|(apply dB (ty:=4);rfl;rfl;rfl;rfl)|refine Jh ?_|(apply Wp.draw tOk follows;kernel_rfl)|intro hb
   refine Wp.while (fun m3 tm H=>∃ (k:Nat) (base:TM),k+m3=x.length∧x.contains 35=(x.drop k).contains 35∧tm=ovr base [(1,.ptr 0 6 0 0),(3,slV true 1 (Zi N)),(5,.int .i64 (i:Int)),(6,.bool false),(7,.int .i64 (k:Int))]∧H=⟨[naB nm rn rs fn fr tn ts sn ss gn gs],0,[],0⟩)
    (fun m3 tm H hI=>?_) x.length _ _ ⟨0,_,by omega,by simp,Zf ⟨rfl,rfl,rfl,rfl,rfl,trivial⟩,rfl⟩
   obtain ⟨k,base2,hk,hct,rfl,rfl⟩:=hI
   have hlk:=Zn (k:Int) (x.length:Int)
   by_cases hlt2:k<x.length
   · rw [decide_eq_true (by omega)] at hlk
     obtain ⟨d,hd⟩:∃ d,x[k]? = some d:=⟨x[k],by simp⟩
     have hjd:=Vi hd
     have h35:=X6 (d.toNat:Int) 35
     have hik:=Zy (a:=(k:Int)) (b:=1) (by omega) (by omega)
     rw [show (k:Int)+1=((k+1:Nat):Int) by omega] at hik
     by_cases c35:d=35
     · rw [decide_eq_true ((Zbt d).2 c35)] at h35
       have hE:=hE1 (by rw [hct,ZA hd,c35];simp)
       rw [hE,if_pos (by decide)]
       repeat' first|refine Jk ?_|refine JS ?_|refine JX ?_|refine Ji ?_|refine JJ ?_|refine Jl ?_|refine Jx ?_|refine Jt ?_|refine Jb ?_ ?_|refine Jo ?_|(apply dK;rfl;rfl;rfl)|(apply dSl;rfl;rfl;rfl;rfl;rfl;rfl;assumption;exact IsV.any _;rfl)|(apply dXi;rfl;rfl;rfl;rfl;assumption;exact IsV.any _;rfl)|refine JD ?_|refine JK ?_|(apply dLn;rfl;rfl;rfl;rfl;rfl)|refine JI ?_|(apply dT (ty:=4);rfl;rfl;rfl;rfl)|(apply dF (ty:=4);rfl;rfl;rfl;rfl)|(apply dB (ty:=4);rfl;rfl;rfl;rfl)|refine Jh ?_|(apply Wp.draw tOk follows;kernel_rfl)|intro hb
       all_goals rfl
     · rw [decide_eq_false (fun h => c35 ((Zbt d).1 h))] at h35
       repeat' first|refine Jk ?_|refine JS ?_|refine JX ?_|refine Ji ?_|refine JJ ?_|refine Jl ?_|refine Jx ?_|refine Jt ?_|refine Jb ?_ ?_|refine Jo ?_|(apply dK;rfl;rfl;rfl)|(apply dSl;rfl;rfl;rfl;rfl;rfl;rfl;assumption;exact IsV.any _;rfl)|(apply dXi;rfl;rfl;rfl;rfl;assumption;exact IsV.any _;rfl)|refine JD ?_|refine JK ?_|(apply dLn;rfl;rfl;rfl;rfl;rfl)|refine JI ?_|(apply dT (ty:=4);rfl;rfl;rfl;rfl)|(apply dF (ty:=4);rfl;rfl;rfl;rfl)|(apply dB (ty:=4);rfl;rfl;rfl;rfl)|refine Jh ?_|(apply Wp.draw tOk follows;kernel_rfl)|intro hb
       exact LoopI.go (m3-1) (by omega) ⟨k+1,_,by omega,by rw [hct,ZA hd,List.contains_cons];simp [Ne.symm c35],Zf ⟨rfl,rfl,rfl,rfl,rfl,trivial⟩,rfl⟩
   have ek:k=x.length:=by omega
   subst ek
   rw [decide_eq_false (by omega)] at hlk
   rw [List.drop_length] at hct
   have hE:=hE2 hct
   clear hE1 hE2 hct hk hlt2
   rw [hE]
   generalize ZU (N.take i) x=B at gS ⊢
   cases B with
   | true =>
     rw [if_pos rfl,if_pos (by decide)]
     repeat' first|refine Jk ?_|refine Jc (cS _) ?_|refine JS ?_|refine JX ?_|refine Ji ?_|refine JJ ?_|refine Jl ?_|refine Jx ?_|refine Jt ?_|refine Jb ?_ ?_|refine Jo ?_|(apply dK;rfl;rfl;rfl)|refine Jd (cS _) ?_|(apply dSl;rfl;rfl;rfl;rfl;rfl;rfl;assumption;exact IsV.any _;rfl)|(apply dXi;rfl;rfl;rfl;rfl;assumption;exact IsV.any _;rfl)|refine JD ?_|refine JK ?_|(apply dLn;rfl;rfl;rfl;rfl;rfl)|refine JI ?_|(apply dT (ty:=4);rfl;rfl;rfl;rfl)|(apply dF (ty:=4);rfl;rfl;rfl;rfl)|(apply dB (ty:=4);rfl;rfl;rfl;rfl)|refine Jh ?_|(apply Wp.draw tOk follows;kernel_rfl)|intro hb
     all_goals rfl
   | false =>
     rw [if_neg (show ¬ (false=true) by simp),if_neg (by decide)]
     repeat' first|refine Jk ?_|refine Jc (cS _) ?_|refine JS ?_|refine JX ?_|refine Ji ?_|refine JJ ?_|refine Jl ?_|refine Jx ?_|refine Jt ?_|refine Jb ?_ ?_|refine Jo ?_|(apply dK;rfl;rfl;rfl)|refine Jd (cS _) ?_|(apply dSl;rfl;rfl;rfl;rfl;rfl;rfl;assumption;exact IsV.any _;rfl)|(apply dXi;rfl;rfl;rfl;rfl;assumption;exact IsV.any _;rfl)|refine JD ?_|refine JK ?_|(apply dLn;rfl;rfl;rfl;rfl;rfl)|refine JI ?_|(apply dT (ty:=4);rfl;rfl;rfl;rfl)|(apply dF (ty:=4);rfl;rfl;rfl;rfl)|(apply dB (ty:=4);rfl;rfl;rfl;rfl)|refine Jh ?_|(apply Wp.draw tOk follows;kernel_rfl)|intro hb
     exact LoopI.go (m2-1) (by omega) ⟨i+1,_,by omega,rfl,Zf ⟨rfl,rfl,rfl,trivial⟩,rfl⟩
 rw [decide_eq_true (by omega)] at hge
 by_cases d2:i<rs.length+fr.length
 · rw [decide_eq_true (by omega)] at hls
   obtain ⟨f,hf⟩:∃ f,fr[i-rs.length]? = some f:=⟨fr[i-rs.length],by rw [List.getElem?_eq_getElem (by omega)]⟩
   have h2:=hi2 _ f hf
   rw [show rs.length+(i-rs.length)=i by omega] at h2
   have hxn:x=f.name:=Option.some.inj (hx.symm.trans h2.1)
   have hit:=h2.2
   rw [← hxn] at hit
   rw [QE hx hit rfl]
   have hE1:x.contains 35=true→itE rs (N.take i) (x,some f.role)=2:=fun h=>by rw [Zb4,if_pos h]
   have hE2:x.contains 35=false→itE rs (N.take i) (x,some f.role)=if x= [101]∨x= [103] then 1 else if ZU (N.take i) x=true then 5 else if ZU rs f.role=true then 0 else 13:=fun h=>by rw [Zb4,if_neg (by rw [h];simp)]
   generalize itE rs (N.take i) (x,some f.role)=e at hE1 hE2 ⊢
   have hfj:=Wb hf
   have hsb:=ZgD (a:=(i:Int)) (b:=((Zi rs).length:Int)) (by omega) (by omega)
   rw [show (i:Int)-((Zi rs).length:Int)=((i-rs.length:Nat):Int) by omega] at hsb
   have cF:=cR f.role
   have gF:=Zn (XS (isR f.role) rs 0) 0
   rw [Zfh] at gF
   generalize XS (isR f.role) rs 0=FF at cF gF
   have wE:=Y1 x [101]
   have wG:=Y1 x [103]
   clear h2 hit hxn cR
   repeat' first|refine Jk ?_|refine JS ?_|refine JX ?_|refine Ji ?_|refine JJ ?_|refine Jl ?_|refine Jx ?_|refine Jt ?_|refine Jb ?_ ?_|refine Jo ?_|(apply dK;rfl;rfl;rfl)|(apply dSl;rfl;rfl;rfl;rfl;rfl;rfl;assumption;exact IsV.any _;rfl)|(apply dXi;rfl;rfl;rfl;rfl;assumption;exact IsV.any _;rfl)|refine JD ?_|refine JK ?_|(apply dLn;rfl;rfl;rfl;rfl;rfl)|refine JI ?_|(apply dT (ty:=4);rfl;rfl;rfl;rfl)|(apply dF (ty:=4);rfl;rfl;rfl;rfl)|(apply dB (ty:=4);rfl;rfl;rfl;rfl)|refine Jh ?_|(apply Wp.draw tOk follows;kernel_rfl)|intro hb
   refine Wp.while (fun m3 tm H=>∃ (k:Nat) (base:TM),k+m3=x.length∧x.contains 35=(x.drop k).contains 35∧tm=ovr base [(1,.ptr 0 6 0 0),(3,slV true 1 (Zi N)),(5,.int .i64 (i:Int)),(6,.bool true),(7,.int .i64 (k:Int))]∧H=⟨[naB nm rn rs fn fr tn ts sn ss gn gs],0,[],0⟩)
    (fun m3 tm H hI=>?_) x.length _ _ ⟨0,_,by omega,by simp,Zf ⟨rfl,rfl,rfl,rfl,rfl,trivial⟩,rfl⟩
   obtain ⟨k,base2,hk,hct,rfl,rfl⟩:=hI
   have hlk:=Zn (k:Int) (x.length:Int)
   by_cases hlt2:k<x.length
   · rw [decide_eq_true (by omega)] at hlk
     obtain ⟨d,hd⟩:∃ d,x[k]? = some d:=⟨x[k],by simp⟩
     have hjd:=Vi hd
     have h35:=X6 (d.toNat:Int) 35
     have hik:=Zy (a:=(k:Int)) (b:=1) (by omega) (by omega)
     rw [show (k:Int)+1=((k+1:Nat):Int) by omega] at hik
     by_cases c35:d=35
     · rw [decide_eq_true ((Zbt d).2 c35)] at h35
       have hE:=hE1 (by rw [hct,ZA hd,c35];simp)
       rw [hE,if_pos (by decide)]
       repeat' first|refine Jk ?_|refine JS ?_|refine JX ?_|refine Ji ?_|refine JJ ?_|refine Jl ?_|refine Jx ?_|refine Jt ?_|refine Jb ?_ ?_|refine Jo ?_|(apply dK;rfl;rfl;rfl)|(apply dSl;rfl;rfl;rfl;rfl;rfl;rfl;assumption;exact IsV.any _;rfl)|(apply dXi;rfl;rfl;rfl;rfl;assumption;exact IsV.any _;rfl)|refine JD ?_|refine JK ?_|(apply dLn;rfl;rfl;rfl;rfl;rfl)|refine JI ?_|(apply dT (ty:=4);rfl;rfl;rfl;rfl)|(apply dF (ty:=4);rfl;rfl;rfl;rfl)|(apply dB (ty:=4);rfl;rfl;rfl;rfl)|refine Jh ?_|(apply Wp.draw tOk follows;kernel_rfl)|intro hb
       all_goals rfl
     · rw [decide_eq_false (fun h => c35 ((Zbt d).1 h))] at h35
       repeat' first|refine Jk ?_|refine JS ?_|refine JX ?_|refine Ji ?_|refine JJ ?_|refine Jl ?_|refine Jx ?_|refine Jt ?_|refine Jb ?_ ?_|refine Jo ?_|(apply dK;rfl;rfl;rfl)|(apply dSl;rfl;rfl;rfl;rfl;rfl;rfl;assumption;exact IsV.any _;rfl)|(apply dXi;rfl;rfl;rfl;rfl;assumption;exact IsV.any _;rfl)|refine JD ?_|refine JK ?_|(apply dLn;rfl;rfl;rfl;rfl;rfl)|refine JI ?_|(apply dT (ty:=4);rfl;rfl;rfl;rfl)|(apply dF (ty:=4);rfl;rfl;rfl;rfl)|(apply dB (ty:=4);rfl;rfl;rfl;rfl)|refine Jh ?_|(apply Wp.draw tOk follows;kernel_rfl)|intro hb
       exact LoopI.go (m3-1) (by omega) ⟨k+1,_,by omega,by rw [hct,ZA hd,List.contains_cons];simp [Ne.symm c35],Zf ⟨rfl,rfl,rfl,rfl,rfl,trivial⟩,rfl⟩
   have ek:k=x.length:=by omega
   subst ek
   rw [decide_eq_false (by omega)] at hlk
   rw [List.drop_length] at hct
   have hE:=hE2 hct
   clear hE1 hE2 hct hk hlt2
   rw [hE]
   by_cases c1:x= [101]
   · rw [decide_eq_true c1] at wE
     rw [if_pos (show x= [101]∨x= [103] from .inl c1),if_pos (by decide)]
     repeat' first|refine Jk ?_|refine JS ?_|refine JX ?_|refine Ji ?_|refine JJ ?_|refine Jl ?_|refine Jx ?_|refine Jt ?_|refine Jb ?_ ?_|refine Jo ?_|(apply dK;rfl;rfl;rfl)|(apply dSl;rfl;rfl;rfl;rfl;rfl;rfl;assumption;exact IsV.any _;rfl)|(apply dXi;rfl;rfl;rfl;rfl;assumption;exact IsV.any _;rfl)|refine JD ?_|refine JK ?_|(apply dLn;rfl;rfl;rfl;rfl;rfl)|refine JI ?_|(apply dT (ty:=4);rfl;rfl;rfl;rfl)|(apply dF (ty:=4);rfl;rfl;rfl;rfl)|(apply dB (ty:=4);rfl;rfl;rfl;rfl)|refine Jh ?_|(apply Wp.draw tOk follows;kernel_rfl)|intro hb
     all_goals rfl
   rw [decide_eq_false c1] at wE
   by_cases c2:x= [103]
   · rw [decide_eq_true c2] at wG
     rw [if_pos (show x= [101]∨x= [103] from .inr c2),if_pos (by decide)]
     repeat' first|refine Jk ?_|refine JS ?_|refine JX ?_|refine Ji ?_|refine JJ ?_|refine Jl ?_|refine Jx ?_|refine Jt ?_|refine Jb ?_ ?_|refine Jo ?_|(apply dK;rfl;rfl;rfl)|(apply dSl;rfl;rfl;rfl;rfl;rfl;rfl;assumption;exact IsV.any _;rfl)|(apply dXi;rfl;rfl;rfl;rfl;assumption;exact IsV.any _;rfl)|refine JD ?_|refine JK ?_|(apply dLn;rfl;rfl;rfl;rfl;rfl)|refine JI ?_|(apply dT (ty:=4);rfl;rfl;rfl;rfl)|(apply dF (ty:=4);rfl;rfl;rfl;rfl)|(apply dB (ty:=4);rfl;rfl;rfl;rfl)|refine Jh ?_|(apply Wp.draw tOk follows;kernel_rfl)|intro hb
     all_goals rfl
   rw [decide_eq_false c2] at wG
   rw [if_neg (show ¬ (x= [101]∨x= [103]) from fun h=>h.elim c1 c2)]
   generalize ZU (N.take i) x=B at gS ⊢
   generalize ZU rs f.role=D at gF ⊢
   cases B with
   | true =>
     rw [if_pos rfl,if_pos (by decide)]
     repeat' first|refine Jk ?_|refine Jc (cS _) ?_|refine JS ?_|refine JX ?_|refine Ji ?_|refine JJ ?_|refine Jl ?_|refine Jx ?_|refine Jt ?_|refine Jb ?_ ?_|refine Jo ?_|(apply dK;rfl;rfl;rfl)|refine Jd (cS _) ?_|(apply dSl;rfl;rfl;rfl;rfl;rfl;rfl;assumption;exact IsV.any _;rfl)|(apply dXi;rfl;rfl;rfl;rfl;assumption;exact IsV.any _;rfl)|refine JD ?_|refine JK ?_|(apply dLn;rfl;rfl;rfl;rfl;rfl)|refine JI ?_|(apply dT (ty:=4);rfl;rfl;rfl;rfl)|(apply dF (ty:=4);rfl;rfl;rfl;rfl)|(apply dB (ty:=4);rfl;rfl;rfl;rfl)|refine Jh ?_|(apply Wp.draw tOk follows;kernel_rfl)|intro hb
     all_goals rfl
   | false =>
     rw [if_neg (show ¬ (false=true) by simp)]
     cases D with
     | true =>
       rw [if_pos rfl,if_neg (by decide)]
       repeat' first|refine Jk ?_|refine Jc (cS _) ?_|refine Jc (cF _) ?_|refine JS ?_|refine JX ?_|refine Ji ?_|refine JJ ?_|refine Jl ?_|refine Jx ?_|refine Jt ?_|refine Jb ?_ ?_|refine Jo ?_|(apply dK;rfl;rfl;rfl)|refine Jd (cS _) ?_|refine Jd (cF _) ?_|(apply dSl;rfl;rfl;rfl;rfl;rfl;rfl;assumption;exact IsV.any _;rfl)|(apply dXi;rfl;rfl;rfl;rfl;assumption;exact IsV.any _;rfl)|refine JD ?_|refine JK ?_|(apply dLn;rfl;rfl;rfl;rfl;rfl)|refine JI ?_|(apply dT (ty:=4);rfl;rfl;rfl;rfl)|(apply dF (ty:=4);rfl;rfl;rfl;rfl)|(apply dB (ty:=4);rfl;rfl;rfl;rfl)|refine Jh ?_|(apply Wp.draw tOk follows;kernel_rfl)|intro hb
       exact LoopI.go (m2-1) (by omega) ⟨i+1,_,by omega,rfl,Zf ⟨rfl,rfl,rfl,trivial⟩,rfl⟩
     | false =>
       rw [if_neg (show ¬ (false=true) by simp),if_pos (by decide)]
       repeat' first|refine Jk ?_|refine Jc (cS _) ?_|refine Jc (cF _) ?_|refine JS ?_|refine JX ?_|refine Ji ?_|refine JJ ?_|refine Jl ?_|refine Jx ?_|refine Jt ?_|refine Jb ?_ ?_|refine Jo ?_|(apply dK;rfl;rfl;rfl)|refine Jd (cS _) ?_|refine Jd (cF _) ?_|(apply dSl;rfl;rfl;rfl;rfl;rfl;rfl;assumption;exact IsV.any _;rfl)|(apply dXi;rfl;rfl;rfl;rfl;assumption;exact IsV.any _;rfl)|refine JD ?_|refine JK ?_|(apply dLn;rfl;rfl;rfl;rfl;rfl)|refine JI ?_|(apply dT (ty:=4);rfl;rfl;rfl;rfl)|(apply dF (ty:=4);rfl;rfl;rfl;rfl)|(apply dB (ty:=4);rfl;rfl;rfl;rfl)|refine Jh ?_|(apply Wp.draw tOk follows;kernel_rfl)|intro hb
       all_goals rfl
 · rw [decide_eq_false (by omega)] at hls
   clear cR
   rw [QE hx (hi3 i x hx (by omega)) rfl]
   have hE1:x.contains 35=true→itE rs (N.take i) (x,none)=2:=fun h=>by rw [VU,if_pos h]
   have hE2:x.contains 35=false→itE rs (N.take i) (x,none)=if ZU (N.take i) x=true then 5 else 0:=fun h=>by rw [VU,if_neg (by rw [h];simp)]
   generalize itE rs (N.take i) (x,none)=e at hE1 hE2 ⊢
   repeat' first|refine Jk ?_|refine JS ?_|refine JX ?_|refine Ji ?_|refine JJ ?_|refine Jl ?_|refine Jx ?_|refine Jt ?_|refine Jb ?_ ?_|refine Jo ?_|(apply dK;rfl;rfl;rfl)|(apply dSl;rfl;rfl;rfl;rfl;rfl;rfl;assumption;exact IsV.any _;rfl)|(apply dXi;rfl;rfl;rfl;rfl;assumption;exact IsV.any _;rfl)|refine JD ?_|refine JK ?_|(apply dLn;rfl;rfl;rfl;rfl;rfl)|refine JI ?_|(apply dT (ty:=4);rfl;rfl;rfl;rfl)|(apply dF (ty:=4);rfl;rfl;rfl;rfl)|(apply dB (ty:=4);rfl;rfl;rfl;rfl)|refine Jh ?_|(apply Wp.draw tOk follows;kernel_rfl)|intro hb
   refine Wp.while (fun m3 tm H=>∃ (k:Nat) (base:TM),k+m3=x.length∧x.contains 35=(x.drop k).contains 35∧tm=ovr base [(1,.ptr 0 6 0 0),(3,slV true 1 (Zi N)),(5,.int .i64 (i:Int)),(6,.bool false),(7,.int .i64 (k:Int))]∧H=⟨[naB nm rn rs fn fr tn ts sn ss gn gs],0,[],0⟩)
    (fun m3 tm H hI=>?_) x.length _ _ ⟨0,_,by omega,by simp,Zf ⟨rfl,rfl,rfl,rfl,rfl,trivial⟩,rfl⟩
   obtain ⟨k,base2,hk,hct,rfl,rfl⟩:=hI
   have hlk:=Zn (k:Int) (x.length:Int)
   by_cases hlt2:k<x.length
   · rw [decide_eq_true (by omega)] at hlk
     obtain ⟨d,hd⟩:∃ d,x[k]? = some d:=⟨x[k],by simp⟩
     have hjd:=Vi hd
     have h35:=X6 (d.toNat:Int) 35
     have hik:=Zy (a:=(k:Int)) (b:=1) (by omega) (by omega)
     rw [show (k:Int)+1=((k+1:Nat):Int) by omega] at hik
     by_cases c35:d=35
     · rw [decide_eq_true ((Zbt d).2 c35)] at h35
       have hE:=hE1 (by rw [hct,ZA hd,c35];simp)
       rw [hE,if_pos (by decide)]
       repeat' first|refine Jk ?_|refine JS ?_|refine JX ?_|refine Ji ?_|refine JJ ?_|refine Jl ?_|refine Jx ?_|refine Jt ?_|refine Jb ?_ ?_|refine Jo ?_|(apply dK;rfl;rfl;rfl)|(apply dSl;rfl;rfl;rfl;rfl;rfl;rfl;assumption;exact IsV.any _;rfl)|(apply dXi;rfl;rfl;rfl;rfl;assumption;exact IsV.any _;rfl)|refine JD ?_|refine JK ?_|(apply dLn;rfl;rfl;rfl;rfl;rfl)|refine JI ?_|(apply dT (ty:=4);rfl;rfl;rfl;rfl)|(apply dF (ty:=4);rfl;rfl;rfl;rfl)|(apply dB (ty:=4);rfl;rfl;rfl;rfl)|refine Jh ?_|(apply Wp.draw tOk follows;kernel_rfl)|intro hb
       all_goals rfl
     · rw [decide_eq_false (fun h => c35 ((Zbt d).1 h))] at h35
       repeat' first|refine Jk ?_|refine JS ?_|refine JX ?_|refine Ji ?_|refine JJ ?_|refine Jl ?_|refine Jx ?_|refine Jt ?_|refine Jb ?_ ?_|refine Jo ?_|(apply dK;rfl;rfl;rfl)|(apply dSl;rfl;rfl;rfl;rfl;rfl;rfl;assumption;exact IsV.any _;rfl)|(apply dXi;rfl;rfl;rfl;rfl;assumption;exact IsV.any _;rfl)|refine JD ?_|refine JK ?_|(apply dLn;rfl;rfl;rfl;rfl;rfl)|refine JI ?_|(apply dT (ty:=4);rfl;rfl;rfl;rfl)|(apply dF (ty:=4);rfl;rfl;rfl;rfl)|(apply dB (ty:=4);rfl;rfl;rfl;rfl)|refine Jh ?_|(apply Wp.draw tOk follows;kernel_rfl)|intro hb
       exact LoopI.go (m3-1) (by omega) ⟨k+1,_,by omega,by rw [hct,ZA hd,List.contains_cons];simp [Ne.symm c35],Zf ⟨rfl,rfl,rfl,rfl,rfl,trivial⟩,rfl⟩
   have ek:k=x.length:=by omega
   subst ek
   rw [decide_eq_false (by omega)] at hlk
   rw [List.drop_length] at hct
   have hE:=hE2 hct
   clear hE1 hE2 hct hk hlt2
   rw [hE]
   generalize ZU (N.take i) x=B at gS ⊢
   cases B with
   | true =>
     rw [if_pos rfl,if_pos (by decide)]
     repeat' first|refine Jk ?_|refine Jc (cS _) ?_|refine JS ?_|refine JX ?_|refine Ji ?_|refine JJ ?_|refine Jl ?_|refine Jx ?_|refine Jt ?_|refine Jb ?_ ?_|refine Jo ?_|(apply dK;rfl;rfl;rfl)|refine Jd (cS _) ?_|(apply dSl;rfl;rfl;rfl;rfl;rfl;rfl;assumption;exact IsV.any _;rfl)|(apply dXi;rfl;rfl;rfl;rfl;assumption;exact IsV.any _;rfl)|refine JD ?_|refine JK ?_|(apply dLn;rfl;rfl;rfl;rfl;rfl)|refine JI ?_|(apply dT (ty:=4);rfl;rfl;rfl;rfl)|(apply dF (ty:=4);rfl;rfl;rfl;rfl)|(apply dB (ty:=4);rfl;rfl;rfl;rfl)|refine Jh ?_|(apply Wp.draw tOk follows;kernel_rfl)|intro hb
     all_goals rfl
   | false =>
     rw [if_neg (show ¬ (false=true) by simp),if_neg (by decide)]
     repeat' first|refine Jk ?_|refine Jc (cS _) ?_|refine JS ?_|refine JX ?_|refine Ji ?_|refine JJ ?_|refine Jl ?_|refine Jx ?_|refine Jt ?_|refine Jb ?_ ?_|refine Jo ?_|(apply dK;rfl;rfl;rfl)|refine Jd (cS _) ?_|(apply dSl;rfl;rfl;rfl;rfl;rfl;rfl;assumption;exact IsV.any _;rfl)|(apply dXi;rfl;rfl;rfl;rfl;assumption;exact IsV.any _;rfl)|refine JD ?_|refine JK ?_|(apply dLn;rfl;rfl;rfl;rfl;rfl)|refine JI ?_|(apply dT (ty:=4);rfl;rfl;rfl;rfl)|(apply dF (ty:=4);rfl;rfl;rfl;rfl)|(apply dB (ty:=4);rfl;rfl;rfl;rfl)|refine Jh ?_|(apply Wp.draw tOk follows;kernel_rfl)|intro hb
     exact LoopI.go (m2-1) (by omega) ⟨i+1,_,by omega,rfl,Zf ⟨rfl,rfl,rfl,trivial⟩,rfl⟩
