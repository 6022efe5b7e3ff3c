/-
  Terms that bytes describe.
-/
import Derived.Test.YtfiflgphoepgeaaGreatDoorQg
import Derived.Test.YtfiflgphoepgeaaGreatDoorFj
set_option maxHeartbeats 0
set_option maxRecDepth 100000
namespace Go.Vm
variable {e s:Bool} {p:List Mo} {i:Nat} {m x:Mo}
theorem Zni {E : Env} {t e : TypeId} {ti ei : TI} {es : Nat} (hT : E.T t = some ti) (hk : ti.tk = .slice e) (he : E.T e = some ei) (hes : ei.size = es) (b : Bool) {L : List (List PV)} (hne : L ≠ []) {k : Nat} (hl : k ≤ L.length) :
  YJ E t (slV b es L) none (some (.int .i64 (k:Int))) none=some (slV false es (L.take k)):=by
 have hn:nat? (.int .i64 (k:Int))=some k:=by simp [nat?]
 obtain ⟨c,r,rfl⟩:∃ c r,L=c::r:=by cases L with
  | nil=>exact absurd rfl hne
  | cons c r=>exact ⟨c,r,rfl⟩
 rw [Zm,Z3]
 simp only [YJ,hT,hk,he,hes,if_true,Zbo,XV,hn]
 rw [if_pos (by simpa using hl)]
 simp [Zbq]
theorem Zj0 (l:List Mo) (k:Nat):(moC l).take k=moC (l.take k):=by simp [moC]
theorem Q5 (h:p[i]? = some x) (m:Mo) (s e:Bool):Wy (p.drop i) m s e=if m.kind=6∧x.kind=6∧x.hd=m.hd then 5 else if x.num=m.num then Wy (p.drop (i+1)) m (s||decide (x.kind=1)) (e||decide (x.kind=7)) else Wy (p.drop (i+1)) m s e:=by
 rw [ZC h];rfl
theorem ZsD (h:p[i]? = some x) (h1:m.kind=6) (h2:x.kind=6) (h3:x.hd=m.hd):Wy (p.drop i) m s e=5:=by
 rw [Q5 h,if_pos ⟨h1,h2,h3⟩]
theorem Zrn (h:p[i]? = some x) (h1:¬ (m.kind=6∧x.kind=6∧x.hd=m.hd)) (h2:x.num=m.num):Wy (p.drop i) m s e=Wy (p.drop (i+1)) m (s||decide (x.kind=1)) (e||decide (x.kind=7)):=by
 rw [Q5 h,if_neg h1,if_pos h2]
theorem Zrg (h:p[i]? = some x) (h1:¬ (m.kind=6∧x.kind=6∧x.hd=m.hd)) (h2:¬ x.num=m.num):Wy (p.drop i) m s e=Wy (p.drop (i+1)) m s e:=by
 rw [Q5 h,if_neg h1,if_neg h2]
theorem ZiG {l:List Mo} (h:l[i]? = some m):Zgl p (l.drop i)=if m.alone≠0 then ((p.length:Int),m.alone) else if Wy p m false false≠0 then ((p.length:Int),Wy p m false false) else Zgl (p++ [m]) (l.drop (i+1)):=by
 rw [ZC h];rfl
end Go.Vm
namespace Go.Vm.Seat
variable {l:List Mo} {b:List Nat} {i:Nat}
open Go.Proofs
theorem c43 {p : List Mo} (hp : p.length ≤ 1000) {m : Mo} (h6 : m.kind = 6 → ∃ a, m.agents = [a]) (hp6 : ∀ x, x ∈ p → x.kind = 6 → ∃ a, x.agents = [a]) (b : Bool) :
  ∀ H,CallOk E0 Tryz.prog 43 [slV b 6 (moC p),.agg m.cells] H (.int .i64 (Wy p m false false)) H:=by
 have hcl:=XE p
 obtain ⟨kd,nu,ro,an,ag,go,tn,te⟩:=m
 simp only [Mo.cells] at h6 ⊢
 refine Jw tOk fe43.ok rfl ?_ (by simp only [ZM,YP];simp only [frzG,UU,YI];rfl)
 repeat' first|refine Jt ?_|refine Jo ?_|fail
 have K6:=YB kd 6
 refine Wp.while (fun m2 tm H=>∃ (i:Nat) (base:TM) (s e:Bool),i+m2=p.length∧Wy p ⟨kd,nu,ro,an,ag,go,tn,te⟩ false false=Wy (p.drop i) ⟨kd,nu,ro,an,ag,go,tn,te⟩ s e∧tm=ovr base [(0,slV b 6 (moC p)),(3,.ptr 0 6 0 0),(5,.bool s),(6,.bool e),(7,.int .i64 (i:Int))]∧H=⟨[.cells 6 [[.int .i64 kd,.int .i64 nu,.int .i64 ro,slV an 1 (Y1 ag),.int .i64 go,slV tn 4 (Za te)]]],0,[],0⟩)
  (fun m2 tm H hI=>?_) p.length _ _ ⟨0,_,false,false,by omega,by simp,Zf ⟨rfl,rfl,rfl,rfl,rfl,trivial⟩,rfl⟩
 obtain ⟨i,base,s,e,hi,hgo,rfl,rfl⟩:=hI
 rw [hgo]
 clear hgo
 by_cases hlt:i<p.length
 · obtain ⟨x, hx⟩ : ∃ x, p[i]? = some x := ⟨p[i], by simp⟩
   have hj:=WH hx
   have hx6:=hp6 x (List.mem_of_getElem? hx)
   have hlx:=Zt (i:Int) ((moC p).length:Int)
   rw [decide_eq_true (by omega)] at hlx
   obtain ⟨kd2,nu2,ro2,an2,ag2,go2,tn2,te2⟩:=x
   simp only [Mo.cells] at hj
   have J6:=YB kd2 6
   have W1:=YB kd2 1
   have W7:=YB kd2 7
   have N1:=YB nu2 nu
   simp only at hx6
   by_cases hk:kd=6∧kd2=6
   · obtain ⟨a, rfl⟩ := h6 hk.1
     obtain ⟨a2,rfl⟩:=hx6 hk.2
     have ha:=UZ (l:=[a]) (i:=0) rfl
     have ha2:=UZ (l:=[a2]) (i:=0) rfl
     have S3:=ZiI a2 a
     rw [decide_eq_true hk.1] at K6
     rw [decide_eq_true hk.2] at J6
     by_cases hs:a2=a
     · rw [decide_eq_true hs] at S3
       have hE:Wy (p.drop i) ⟨kd,nu,ro,an,[a],go,tn,te⟩ s e=5:=ZsD hx hk.1 hk.2 hs
       rw [hE]
       repeat' first|refine Ji ?_|refine Jl ?_|refine Jo ?_|refine JD ?_|refine JI ?_|(apply dT (ty:=4);rfl;rfl;rfl;rfl)|refine Jh ?_|(apply Wp.draw tOk follows;kernel_rfl)|fail
       all_goals rfl
     rw [decide_eq_false hs] at S3
     by_cases hN:nu2=nu
     · rw [decide_eq_true hN] at N1
       have hE:Wy (p.drop i) ⟨kd,nu,ro,an,[a],go,tn,te⟩ s e=Wy (p.drop (i+1)) ⟨kd,nu,ro,an,[a],go,tn,te⟩ (s||decide (kd2=1)) (e||decide (kd2=7)):=Zrn hx (fun h=>hs h.2.2) hN
       rw [hE]
       generalize decide (kd2=1)=w1 at W1 ⊢
       generalize decide (kd2=7)=w7 at W7 ⊢
       clear hE
       cases s<;>cases e
       all_goals
        repeat' first|refine Jk ?_|refine Ji ?_|refine Jl ?_|refine Jx ?_|refine Jt ?_|refine Jo ?_|refine JD ?_|refine JI ?_|(apply dT (ty:=4);rfl;rfl;rfl;rfl)|(apply dF (ty:=4);rfl;rfl;rfl;rfl)|refine Jh ?_|(apply Wp.draw tOk follows;kernel_rfl)|fail
        exact LoopI.go (m2-1) (by omega) ⟨i+1,_,_,_,by omega,rfl,Zf ⟨rfl,rfl,rfl,rfl,Zd (Zc (n:=i+1) (by omega)),trivial⟩,rfl⟩
     · rw [decide_eq_false hN] at N1
       have hE:Wy (p.drop i) ⟨kd,nu,ro,an,[a],go,tn,te⟩ s e=Wy (p.drop (i+1)) ⟨kd,nu,ro,an,[a],go,tn,te⟩ s e:=Zrg hx (fun h=>hs h.2.2) hN
       rw [hE]
       repeat' first|refine Ji ?_|refine Jl ?_|refine Jo ?_|refine JD ?_|refine JI ?_|(apply dT (ty:=4);rfl;rfl;rfl;rfl)|(apply dF (ty:=4);rfl;rfl;rfl;rfl)|refine Jh ?_|(apply Wp.draw tOk follows;kernel_rfl)|fail
       exact LoopI.go (m2-1) (by omega) ⟨i+1,_,_,_,by omega,rfl,Zf ⟨rfl,rfl,rfl,rfl,Zd (Zc (n:=i+1) (by omega)),trivial⟩,rfl⟩
   · clear h6 hx6
     have hor:decide (kd=6)=false∨(decide (kd=6)=true∧decide (kd2=6)=false):=by
      by_cases h:kd=6
      · right
        exact ⟨decide_eq_true h,decide_eq_false fun h2=>hk ⟨h,h2⟩⟩
      · exact .inl (decide_eq_false h)
     generalize decide (kd=6)=D6 at K6 hor
     generalize decide (kd2=6)=E6 at J6 hor
     by_cases hN:nu2=nu
     · rw [decide_eq_true hN] at N1
       have hE:Wy (p.drop i) ⟨kd,nu,ro,an,ag,go,tn,te⟩ s e=Wy (p.drop (i+1)) ⟨kd,nu,ro,an,ag,go,tn,te⟩ (s||decide (kd2=1)) (e||decide (kd2=7)):=Zrn hx (fun h=>hk ⟨h.1,h.2.1⟩) hN
       rw [hE]
       generalize decide (kd2=1)=w1 at W1 ⊢
       generalize decide (kd2=7)=w7 at W7 ⊢
       clear hE
       rcases hor with rfl|⟨rfl,rfl⟩<;>cases s<;>cases e
       all_goals
        repeat' first|refine Jk ?_|refine Ji ?_|refine Jl ?_|refine Jx ?_|refine Jt ?_|refine Jo ?_|(apply dK;rfl;rfl;rfl)|refine JD ?_|refine JI ?_|(apply dT (ty:=4);rfl;rfl;rfl;rfl)|(apply dF (ty:=4);rfl;rfl;rfl;rfl)|refine Jh ?_|(apply Wp.draw tOk follows;kernel_rfl)|fail
        exact LoopI.go (m2-1) (by omega) ⟨i+1,_,_,_,by omega,rfl,Zf ⟨rfl,rfl,rfl,rfl,Zd (Zc (n:=i+1) (by omega)),trivial⟩,rfl⟩
     · rw [decide_eq_false hN] at N1
       have hE:Wy (p.drop i) ⟨kd,nu,ro,an,ag,go,tn,te⟩ s e=Wy (p.drop (i+1)) ⟨kd,nu,ro,an,ag,go,tn,te⟩ s e:=Zrg hx (fun h=>hk ⟨h.1,h.2.1⟩) hN
       rw [hE]
       rcases hor with rfl|⟨rfl,rfl⟩
       all_goals
        repeat' first|refine Ji ?_|refine Jl ?_|refine Jo ?_|(apply dK;rfl;rfl;rfl)|refine JD ?_|refine JI ?_|(apply dT (ty:=4);rfl;rfl;rfl;rfl)|(apply dF (ty:=4);rfl;rfl;rfl;rfl)|refine Jh ?_|(apply Wp.draw tOk follows;kernel_rfl)|fail
        exact LoopI.go (m2-1) (by omega) ⟨i+1,_,_,_,by omega,rfl,Zf ⟨rfl,rfl,rfl,rfl,Zd (Zc (n:=i+1) (by omega)),trivial⟩,rfl⟩
 · have ei : i = p.length := by omega
   subst ei
   have hlx:=Zt (p.length:Int) ((moC p).length:Int)
   rw [decide_eq_false (by omega)] at hlx
   rw [List.drop_length]
   simp only [Wy]
   have Q1:=YB kd 1
   have P1:=Ux kd 1
   have P6:=Ux kd 6
   generalize decide (kd=1)=B1 at Q1 P1 ⊢
   generalize decide (kd=6)=B6 at P6 K6 ⊢
   cases B1<;>cases B6<;>cases s<;>cases e
   all_goals
    repeat' first|refine Jk ?_|refine Ji ?_|refine Jl ?_|refine Jt ?_|refine Jo ?_|fail
    all_goals rfl
theorem c22 (hl:TrS l) (b:Bool):∀ H,CallOk E0 Tryz.prog 22 [slV b 6 (moC l)] H (.tup [.int .i64 (QY l).1,.int .i64 (QY l).2]) H:=by
 obtain ⟨hl,hm⟩:=hl
 have hcl:=XE l
 have gq:=Xw ((moC l).length:Int) 400
 unfold QY
 refine Jw tOk fe22.ok rfl ?_
 by_cases h:400<l.length
 · rw [decide_eq_true (by omega)] at gq
   rw [if_pos h]
   repeat' first|refine Ji ?_|refine Jl ?_|refine Jo ?_|fail
   all_goals rfl
 rw [decide_eq_false (by omega)] at gq
 rw [if_neg h]
 repeat' first|refine Ji ?_|refine Jl ?_|refine Jo ?_|fail
 refine Wp.while (fun m2 tm H=>∃ (i:Nat) (base:TM),i+m2=l.length∧(∀ x,x∈l.take i→x.alone=0)∧Zgl [] l=Zgl (l.take i) (l.drop i)∧tm=ovr base [(0,slV b 6 (moC l)),(4,.int .i64 (i:Int))]∧H=⟨[],0,[],0⟩)
  (fun m2 tm H hI=>?_) l.length _ _ ⟨0,_,by omega,by simp,by simp,Zf ⟨rfl,rfl,trivial⟩,rfl⟩
 obtain ⟨i,base,hi,hal,hgo,rfl,rfl⟩:=hI
 rw [hgo]
 by_cases hlt:i<l.length
 · obtain ⟨m, hx⟩ : ∃ m, l[i]? = some m := ⟨l[i], by simp⟩
   have hj:=WH hx
   have hA:=c42 (hm m (List.mem_of_getElem? hx))
   have hlx:=Zt (i:Int) ((moC l).length:Int)
   rw [decide_eq_true (by omega)] at hlx
   have htk:l.take (i+1)=l.take i++ [m]:=by rw [List.take_add_one,hx];rfl
   have hsl:YJ E0 27 (slV b 6 (moC l)) none (some (.int .i64 (i:Int))) none=some (slV false 6 (moC (l.take i))):=by
    rw [← Zj0]
    exact Zni (E:=E0) (t:=27) (L:=moC l) (es:=6) rfl rfl rfl rfl b (fun h=>by rw [h] at hcl;simp at hcl;omega) (by omega)
   rw [ZiG hx,List.length_take,show min i l.length=i by omega]
   have n1:=Zie m.alone 0
   by_cases c1:m.alone=0
   · have hB := c43 (p := l.take i) (by rw [List.length_take]; omega) (Zly c1) (fun x hx => Zly (hal x hx)) false
     have hal2:∀ x,x∈l.take (i+1)→x.alone=0:=fun x hx=>by
      rw [htk] at hx
      rcases List.mem_append.1 hx with h|h
      · exact hal x h
      · rw [List.mem_singleton.1 h];exact c1
     rw [decide_eq_true c1] at n1
     rw [if_neg (by omega:¬ m.alone≠0)]
     rw [c1] at hA n1
     have n2:=Zie (Wy (l.take i) m false false) 0
     rw [← htk]
     generalize Wy (l.take i) m false false=B at hB n2 ⊢
     obtain ⟨kd,nu,ro,an,ag,go,tn,te⟩:=m
     simp only [Mo.cells] at hA hB hj
     by_cases c2:B=0
     · rw [decide_eq_true c2] at n2
       rw [if_neg (by omega)]
       repeat' first|refine Jc (hA _) ?_|refine Ji ?_|refine Jl ?_|refine Jx ?_|refine Jo ?_|refine Jd (hB _) ?_|(apply dSl;rfl;rfl;rfl;rfl;rfl;rfl;assumption;exact IsV.any _;rfl)|refine JI ?_|refine Jh ?_|(apply Wp.draw tOk follows;kernel_rfl)|fail
       exact LoopI.go (m2-1) (by omega) ⟨i+1,_,by omega,hal2,rfl,Zf ⟨rfl,Zd (Zc (n:=i+1) (by omega)),trivial⟩,rfl⟩
     · rw [decide_eq_false c2] at n2
       rw [if_pos c2]
       repeat' first|refine Jc (hA _) ?_|refine Ji ?_|refine Jl ?_|refine Jx ?_|refine Jo ?_|refine Jd (hB _) ?_|(apply dSl;rfl;rfl;rfl;rfl;rfl;rfl;assumption;exact IsV.any _;rfl)|refine JI ?_|refine Jh ?_|(apply Wp.draw tOk follows;kernel_rfl)|fail
       all_goals rfl
   · rw [decide_eq_false c1] at n1
     rw [if_pos c1]
     generalize m.alone=e at hA n1 ⊢
     obtain ⟨kd,nu,ro,an,ag,go,tn,te⟩:=m
     simp only [Mo.cells] at hA hj
     repeat' first|refine Jc (hA _) ?_|refine Ji ?_|refine Jl ?_|refine Jx ?_|refine Jo ?_|fail
     all_goals rfl
 · have e : i = l.length := by omega
   subst e
   have hlx:=Zt (l.length:Int) ((moC l).length:Int)
   rw [decide_eq_false (by omega)] at hlx
   rw [List.drop_length]
   repeat' first|refine Ji ?_|refine Jl ?_|refine Jo ?_|fail
   all_goals rfl
theorem c10 (hl:TrS l) (b:Bool):∀ H,CallOk E0 Tryz.prog 10 [slV b 6 (moC l)] H (.int .i64 (ZQ l).2) H:=by
 have hc:=c22 hl b
 rw [ZaU]
 generalize QY l=f at hc ⊢
 obtain ⟨f1,f2⟩:=f
 refine Jw tOk fe10.ok rfl ?_
 repeat' first|refine Jc (hc _) ?_|refine Jo ?_|fail
 all_goals rfl
theorem Y8 (m:Nat) (H:Heap) (k:Int) (nm:Bs) (s:Int) (b:Bool) (l:List (List PV)) (x:Int):frz3 m H (.tup [.agg [.int .i64 k,.str nm,.int .i64 s,slV b 4 l],.int .i64 x])=some (.tup [.agg [.int .i64 k,.str nm,.int .i64 s,slV b 4 l],.int .i64 x]):=by
 rw [Xx]
 simp only [Vq,frz2,Wf,Wl]
 rfl
theorem Zkq (nm:Bs) (x y:Tm):∀ H,CallOk E0 Tryz.prog 104 [.str nm,.sl .full 4 [x.cells,y.cells]] H (.agg (Tm.mk 3 nm 0 true [x,y]).cells) H:=fun H=>by
 have:=Zlt nm (l:=[x,y]) (by simp) true H
 simp only [Tm.cells,Za,Zm] at this ⊢
 exact Zr this rfl
theorem Ztx:Vk E0 200 100 ⟨68,[],slV false 4 (Za lvs)⟩=true:=by kernel_rfl
theorem c68:∀ H,CallOk E0 Tryz.prog 68 [] H (slV false 4 (Za lvs)) H:=XK tOk follows fOk zOk Ztx
theorem Zgb (k m:Nat) (hm:m≠0):Y2 E0 .rem 3 (.int .i64 (k:Int)) (.int .i64 (m:Int))=some (.int .i64 ((k % m:Nat):Int)):=by
 show (if (m:Int)=0 then none else some (PV.int .i64 ((k:Int).tmod (m:Int))))=_
 rw [if_neg (by omega)]
 rfl
theorem ZoN (k m:Nat) (hk:k<100000) (hm:m≠0):Y2 E0 .quo 3 (.int .i64 (k:Int)) (.int .i64 (m:Int))=some (.int .i64 ((k / m:Nat):Int)):=by
 show (if (m:Int)=0 then none else some (PV.int .i64 (IntKind.i64.wrap ((k:Int).tdiv (m:Int)))))=_
 rw [if_neg (by omega)]
 have:((k:Int).tdiv (m:Int))=((k / m:Nat):Int):=rfl
 rw [this,Zc (by have:=Nat.div_le_self k m;omega)]
theorem Za9 (k:Nat) (hk:k<256):Uw E0 5 3 (.int .u8 (k:Int))=some (.int .i64 (k:Int)):=by
 show some (PV.int .i64 (IntKind.i64.wrap (k:Int)))=_
 rw [Zc (by omega)]
theorem Zra (a b:Nat):Y2 E0 .eql 3 (.int .i64 (a:Int)) (.int .i64 (b:Int))=some (.bool (decide (a=b))):=by
 rw [YB]
 congr 2
 rw [decide_eq_decide];omega
theorem Zds (a b:Nat) (h:a+b<100000):Y2 E0 .add 3 (.int .i64 (a:Int)) (.int .i64 (b:Int))=some (.int .i64 ((a+b:Nat):Int)):=by
 show some (PV.int .i64 (IntKind.i64.wrap ((a:Int)+(b:Int))))=_
 rw [← Int.natCast_add,Zc (by omega)]
theorem Qz (h:i<b.length):(byC b)[i]? = some [.int .u8 ((b.getD i 0:Nat):Int)]:=by
 simp [byC,List.getElem?_eq_getElem h]
theorem VA (b:List Nat):(byC b).length=b.length:=by simp [byC]
theorem ZlT (n:Nat):(Za lvs)[n % 10]? = some (lvT n).cells:=by
 have h:n % 10<10:=Nat.mod_lt _ (by omega)
 unfold lvT
 generalize n % 10=k at h ⊢
 have:k=0∨k=1∨k=2∨k=3∨k=4∨k=5∨k=6∨k=7∨k=8∨k=9:=by omega
 rcases this with rfl|rfl|rfl|rfl|rfl|rfl|rfl|rfl|rfl|rfl<;>rfl
theorem Zlz (hb:∀ x,x∈b→x<256) (bb:Bool) {f:Nat} {d:Nat} (hi:i<10000) (hd:d+f=4) (hc:f=0∨b.getD i 0 % 3=0):∀ H,CallOk E0 Tryz.prog 65 [slV bb 1 (byC b),.int .i64 (i:Int),.int .i64 (d:Int),.bool true] H (.tup [.agg (lvT (b.getD i 0 / 3)).cells,.int .i64 ((i+1:Nat):Int)]) H:=by
 have hl:=c68
 have hlt:b.getD i 0<256:=by
  by_cases h:i<b.length
  · exact hb _ (by simp [h])
  · simp [List.getElem?_eq_none (Nat.not_lt.1 h)]
 have q1:=Zt (i:Int) ((byC b).length:Int)
 have q2:=UT (d:Int) 4
 have q4:=Zds i 1 (by omega)
 have q3:=Zgb (b.getD i 0) 3 (by omega)
 have q5:=Zra (b.getD i 0 % 3) 0
 have q6:=ZoN (b.getD i 0) 3 (by omega) (by omega)
 have q7:Y2 E0 .rem 3 (.int .i64 ((b.getD i 0 / 3:Nat):Int)) (.int .i64 (((Za lvs).length:Nat):Int))=some (.int .i64 ((b.getD i 0 / 3 % 10:Nat):Int)):=Zgb (b.getD i 0 / 3) 10 (by decide)
 have hlv:=ZlT (b.getD i 0 / 3)
 have q8:=Za9 _ hlt
 have hj:i<b.length→_:=Qz (b:=b)
 by_cases h:i<b.length
 · rw [decide_eq_true (by rw [VA]; omega)] at q1
   have hj:=hj h
   clear hb hlt
   generalize b.getD i 0=c at q3 q5 q6 q7 q8 hlv hj hc ⊢
   generalize byC b=B at q1 hj ⊢
   generalize lvT (c / 3)=L at hlv ⊢
   obtain ⟨k1,n1,s1,f1,l1⟩:=L
   simp only [Tm.cells] at hlv ⊢
   by_cases h4:4≤d
   · rw [decide_eq_true (by omega)] at q2
     refine Jw tOk fe65.ok (Y8 _ _ _ _ _ _ _ _) ?_
     repeat' first|refine Jk ?_|refine Jc (hl _) ?_|refine Js ?_|refine Ji ?_|(apply qCv;rfl;rfl;rfl;assumption;exact IsV.any _)|refine JJ ?_|refine Jl ?_|refine Jx ?_|refine Jt ?_|refine Jb ?_ ?_|refine Jo ?_|(apply dK;rfl;rfl;rfl)|refine Jd (hl _) ?_|refine JB ?_|refine JD ?_|(apply dCv;rfl;rfl;rfl;assumption;exact IsV.any _;rfl)|refine JK ?_|(apply dLn;rfl;rfl;rfl;rfl;rfl)|refine JI ?_|(apply dT (ty:=4);rfl;rfl;rfl;rfl)|(apply dF (ty:=4);rfl;rfl;rfl;rfl)|(apply dB (ty:=4);rfl;rfl;rfl;rfl)|refine Jh ?_|(apply Wp.drawS tOk follows;kernel_rfl;rfl)|intro hb
     all_goals exact Y8 _ _ _ _ _ _ _ _
   · rw [decide_eq_false (by omega)] at q2
     rw [decide_eq_true (by omega)] at q5
     refine Jw tOk fe65.ok (Y8 _ _ _ _ _ _ _ _) ?_
     repeat' first|refine Jk ?_|refine Jc (hl _) ?_|refine Js ?_|refine Ji ?_|(apply qCv;rfl;rfl;rfl;assumption;exact IsV.any _)|refine JJ ?_|refine Jl ?_|refine Jx ?_|refine Jt ?_|refine Jb ?_ ?_|refine Jo ?_|(apply dK;rfl;rfl;rfl)|refine Jd (hl _) ?_|refine JB ?_|refine JD ?_|(apply dCv;rfl;rfl;rfl;assumption;exact IsV.any _;rfl)|refine JK ?_|(apply dLn;rfl;rfl;rfl;rfl;rfl)|refine JI ?_|(apply dT (ty:=4);rfl;rfl;rfl;rfl)|(apply dF (ty:=4);rfl;rfl;rfl;rfl)|(apply dB (ty:=4);rfl;rfl;rfl;rfl)|refine Jh ?_|(apply Wp.drawS tOk follows;kernel_rfl;rfl)|intro hb
     all_goals exact Y8 _ _ _ _ _ _ _ _
 · rw [decide_eq_false (by rw [VA]; omega)] at q1
   have e:b.getD i 0=0:=by simp [List.getElem?_eq_none (Nat.not_lt.1 h)]
   rw [e] at q3 q5 q6 q7 hlv ⊢
   clear hb hlt hj hc q8
   generalize byC b=B at q1 ⊢
   generalize lvT (0 / 3)=L at hlv ⊢
   obtain ⟨k1,n1,s1,f1,l1⟩:=L
   simp only [Tm.cells] at hlv ⊢
   by_cases h4:4≤d
   · rw [decide_eq_true (by omega)] at q2
     refine Jw tOk fe65.ok (Y8 _ _ _ _ _ _ _ _) ?_
     repeat' first|refine Jk ?_|refine Jc (hl _) ?_|refine Js ?_|refine Ji ?_|(apply qCv;rfl;rfl;rfl;assumption;exact IsV.any _)|refine JJ ?_|refine Jl ?_|refine Jx ?_|refine Jt ?_|refine Jb ?_ ?_|refine Jo ?_|(apply dK;rfl;rfl;rfl)|refine Jd (hl _) ?_|refine JB ?_|refine JD ?_|(apply dCv;rfl;rfl;rfl;assumption;exact IsV.any _;rfl)|refine JK ?_|(apply dLn;rfl;rfl;rfl;rfl;rfl)|refine JI ?_|(apply dT (ty:=4);rfl;rfl;rfl;rfl)|(apply dF (ty:=4);rfl;rfl;rfl;rfl)|(apply dB (ty:=4);rfl;rfl;rfl;rfl)|refine Jh ?_|(apply Wp.drawS tOk follows;kernel_rfl;rfl)|intro hb
     all_goals exact Y8 _ _ _ _ _ _ _ _
   · rw [decide_eq_false (by omega)] at q2
     refine Jw tOk fe65.ok (Y8 _ _ _ _ _ _ _ _) ?_
     repeat' first|refine Jk ?_|refine Jc (hl _) ?_|refine Js ?_|refine Ji ?_|(apply qCv;rfl;rfl;rfl;assumption;exact IsV.any _)|refine JJ ?_|refine Jl ?_|refine Jx ?_|refine Jt ?_|refine Jb ?_ ?_|refine Jo ?_|(apply dK;rfl;rfl;rfl)|refine Jd (hl _) ?_|refine JB ?_|refine JD ?_|(apply dCv;rfl;rfl;rfl;assumption;exact IsV.any _;rfl)|refine JK ?_|(apply dLn;rfl;rfl;rfl;rfl;rfl)|refine JI ?_|(apply dT (ty:=4);rfl;rfl;rfl;rfl)|(apply dF (ty:=4);rfl;rfl;rfl;rfl)|(apply dB (ty:=4);rfl;rfl;rfl;rfl)|refine Jh ?_|(apply Wp.drawS tOk follows;kernel_rfl;rfl)|intro hb
     all_goals exact Y8 _ _ _ _ _ _ _ _
theorem Zmp {n:Nat} (h:n<11):n=0∨n=1∨n=2∨n=3∨n=4∨n=5∨n=6∨n=7∨n=8∨n=9∨n=10:=by omega
theorem ZiM {b:List Nat} (hb:∀ x,x∈b→x<256) (bb:Bool):∀ (f i d:Nat),d+f=4→i+2 ^ (f+1)<10000→∀ H,CallOk E0 Tryz.prog 65 [slV bb 1 (byC b),.int .i64 (i:Int),.int .i64 (d:Int),.bool true] H (.tup [.agg (grT b f i).1.cells,.int .i64 ((grT b f i).2:Int)]) H
 | 0, i, d, hd, hi => by
   have:=Zlz hb bb (f:=0) (i:=i) (d:=d) (by omega) hd (.inl rfl)
   rw [Zey rfl (.inl rfl)]
   exact this
 | f + 1, i, d, hd, hi => by
   have e2:2 ^ (f+1+1)=2 ^ (f+1)*2:=Nat.pow_succ ..
   have e3:=Nat.one_le_two_pow (n:=f+1)
   by_cases h3:b.getD i 0 % 3=0
   · have := Zlz hb bb (f := f + 1) (i := i) (d := d) (by omega) hd (.inr h3)
     rw [Zey rfl (.inr h3)]
     exact this
   have h1:=ZiM hb bb f (i+1) (d+1) (by omega) (by omega)
   have hle:=Zgs b f (i+1)
   have h2:=ZiM hb bb f (grT b f (i+1)).2 (d+1) (by omega) (by omega)
   have h:i<b.length:=by
    by_cases h:i<b.length
    · exact h
    · exact absurd (by simp [List.getElem?_eq_none (Nat.not_lt.1 h)]) h3
   have hlt:b.getD i 0<256:=hb _ (by simp [h])
   have hl:=c68
   have q1:=Zt (i:Int) ((byC b).length:Int)
   rw [decide_eq_true (by rw [VA];omega)] at q1
   have q2:=UT (d:Int) 4
   rw [decide_eq_false (by omega)] at q2
   have q4:=Zds i 1 (by omega)
   have q0:=Zds d 1 (by omega)
   have q3:=Zgb (b.getD i 0) 3 (by omega)
   have q5:=Zra (b.getD i 0 % 3) 0
   rw [decide_eq_false h3] at q5
   have q6:=ZoN (b.getD i 0) 3 (by omega) (by omega)
   have q7:=Zgb (b.getD i 0 / 3) 11 (by decide)
   have q8:=Za9 _ hlt
   have hj:=Qz h
   have hk:b.getD i 0 / 3 % 11<11:=Nat.mod_lt _ (by omega)
   obtain ⟨c,hc⟩:∃ c,b.getD i 0=c:=⟨_,rfl⟩
   rcases Zmp hk with hk|hk|hk|hk|hk|hk|hk|hk|hk|hk|hk
   · rw [ZpU rfl h3 hk]
     rw [hk] at q7
     rw [hc] at q3 q5 q6 q7 q8 hj
     clear hb hlt hk h3 hc h2
     generalize byC b=B at q1 hj h1 ⊢
     generalize grT b f (i+1)=X at h1 ⊢
     obtain ⟨⟨k1,n1,s1,f1,l1⟩,x2⟩:=X
     have ha:=Zgk Zf9 (.mk k1 n1 s1 f1 l1)
     simp only [Tm.cells,Za,Zf9] at h1 ha ⊢
     refine Jw tOk fe65.ok (Y8 _ _ _ _ _ _ _ _) ?_
     repeat' first|refine Jk ?_|(apply qCl;rfl;rfl;rfl;rfl;first|exact hl _|exact h1 _|exact ha _)|refine Js ?_|refine Ji ?_|(apply qCv;rfl;rfl;rfl;assumption;exact IsV.any _)|refine JJ ?_|refine Jl ?_|refine Jx ?_|refine Jt ?_|refine Jb ?_ ?_|refine Jo ?_|(apply dK;rfl;rfl;rfl)|(apply dCl;rfl;rfl;rfl;rfl;rfl;first|exact hl _|exact h1 _|exact ha _)|refine JB ?_|refine JD ?_|(apply dCv;rfl;rfl;rfl;assumption;exact IsV.any _;rfl)|refine JK ?_|(apply dLn;rfl;rfl;rfl;rfl;rfl)|refine JI ?_|(apply dT (ty:=4);rfl;rfl;rfl;rfl)|(apply dF (ty:=4);rfl;rfl;rfl;rfl)|(apply dB (ty:=4);rfl;rfl;rfl;rfl)|refine Jh ?_|(apply Wp.drawS tOk follows;kernel_rfl;rfl)|intro hb
     all_goals exact Y8 _ _ _ _ _ _ _ _
   · rw [ZpB rfl h3 hk]
     rw [hk] at q7
     rw [hc] at q3 q5 q6 q7 q8 hj
     clear hb hlt hk h3 hc h2
     generalize byC b=B at q1 hj h1 ⊢
     generalize grT b f (i+1)=X at h1 ⊢
     obtain ⟨⟨k1,n1,s1,f1,l1⟩,x2⟩:=X
     have ha:=Zgk pkN (.mk k1 n1 s1 f1 l1)
     simp only [Tm.cells,Za,pkN] at h1 ha ⊢
     refine Jw tOk fe65.ok (Y8 _ _ _ _ _ _ _ _) ?_
     repeat' first|refine Jk ?_|(apply qCl;rfl;rfl;rfl;rfl;first|exact hl _|exact h1 _|exact ha _)|refine Js ?_|refine Ji ?_|(apply qCv;rfl;rfl;rfl;assumption;exact IsV.any _)|refine JJ ?_|refine Jl ?_|refine Jx ?_|refine Jt ?_|refine Jb ?_ ?_|refine Jo ?_|(apply dK;rfl;rfl;rfl)|(apply dCl;rfl;rfl;rfl;rfl;rfl;first|exact hl _|exact h1 _|exact ha _)|refine JB ?_|refine JD ?_|(apply dCv;rfl;rfl;rfl;assumption;exact IsV.any _;rfl)|refine JK ?_|(apply dLn;rfl;rfl;rfl;rfl;rfl)|refine JI ?_|(apply dT (ty:=4);rfl;rfl;rfl;rfl)|(apply dF (ty:=4);rfl;rfl;rfl;rfl)|(apply dB (ty:=4);rfl;rfl;rfl;rfl)|refine Jh ?_|(apply Wp.drawS tOk follows;kernel_rfl;rfl)|intro hb
     all_goals exact Y8 _ _ _ _ _ _ _ _
   all_goals
    rw [ZqY rfl h3 (by omega) (by omega)]
    rw [hk] at q7 ⊢
    rw [hc] at q3 q5 q6 q7 q8 hj
    clear hb hlt hk h3 hc
    generalize byC b=B at q1 hj h1 h2 ⊢
    generalize (grT b f (grT b f (i+1)).2)=Y at h2 ⊢
    generalize grT b f (i+1)=X at h1 h2 ⊢
    obtain ⟨⟨k1,n1,s1,f1,l1⟩,x2⟩:=X
    obtain ⟨⟨k2,n2,s2,f2,l2⟩,y2⟩:=Y
    have a1:=Zkq Zbc (.mk k1 n1 s1 f1 l1) (.mk k2 n2 s2 f2 l2)
    have a2:=Zkq YT (.mk k1 n1 s1 f1 l1) (.mk k2 n2 s2 f2 l2)
    have a3:=Zkq Y0 (.mk k1 n1 s1 f1 l1) (.mk k2 n2 s2 f2 l2)
    have a4:=Zgk pkN (.mk k2 n2 s2 f2 l2)
    have a5:=Zkq Wa (.mk k1 n1 s1 f1 l1) (.mk 3 pkN 0 true [.mk k2 n2 s2 f2 l2])
    simp only [ZlB,Nat.reduceEqDiff,or_true,or_false,if_true,if_false,Tm.cells,Za,pkN,Zbc,YT,Y0,Wa] at h1 h2 a1 a2 a3 a4 a5 ⊢
    refine Jw tOk fe65.ok (Y8 _ _ _ _ _ _ _ _) ?_
    repeat' first|refine Jk ?_|(apply qCl;rfl;rfl;rfl;rfl;first|exact hl _|exact h1 _|exact h2 _|exact a1 _|exact a2 _|exact a3 _|exact a4 _|exact a5 _)|refine Js ?_|refine Ji ?_|(apply qCv;rfl;rfl;rfl;assumption;exact IsV.any _)|refine JJ ?_|refine Jl ?_|refine Jx ?_|refine Jt ?_|refine Jb ?_ ?_|refine Jo ?_|(apply dK;rfl;rfl;rfl)|(apply dCl;rfl;rfl;rfl;rfl;rfl;first|exact hl _|exact h1 _|exact h2 _|exact a1 _|exact a2 _|exact a3 _|exact a4 _|exact a5 _)|refine JB ?_|refine JD ?_|(apply dCv;rfl;rfl;rfl;assumption;exact IsV.any _;rfl)|refine JK ?_|(apply dLn;rfl;rfl;rfl;rfl;rfl)|refine JI ?_|(apply dT (ty:=4);rfl;rfl;rfl;rfl)|(apply dF (ty:=4);rfl;rfl;rfl;rfl)|(apply dB (ty:=4);rfl;rfl;rfl;rfl)|refine Jh ?_|(apply Wp.drawS tOk follows;kernel_rfl;rfl)|intro hb
    all_goals exact Y8 _ _ _ _ _ _ _ _
