/-
  Terms that bytes describe.
-/
import Derived.Test.YtcopccjkfbmpcaaGreatDoorQf
set_option maxHeartbeats 0
set_option maxRecDepth 100000
namespace Go.Vm
variable {S:FSt} {p:List Mo} {m x:Mo} {e s:Bool} {i:Nat}
def Vs:List Mo→Mo→Bool→Bool→Int
 | [],m,s,e=>if (decide (m.kind=1)&&s)=true then 5 else if (!decide (m.kind=1)&&(!decide (m.kind=6)&&(!s||e)))=true then 9 else 0
 |x::r,m,s,e=>if m.kind=6∧x.kind=6∧x.hd=m.hd then 5 else if x.num=m.num then Vs r m (s||decide (x.kind=1)) (e||decide (x.kind=7)) else Vs r m s e
def Zex:List Mo→List Mo→Int×Int
 |_,[]=>(-1,0)
 |p,m::r=>if m.alone≠0 then ((p.length:Int),m.alone) else if Vs p m false false≠0 then ((p.length:Int),Vs p m false false) else Zex (p++ [m]) r
def QG (l:List Mo):Int×Int:=if 400<l.length then (-1,3) else Zex [] l
def Zfg (p:List Mo) (k n:Int):Bool:=p.any fun x=>decide (x.num=n)&&decide (x.kind=k)
def Zez (p:List Mo) (a:Bs):Bool:=p.any fun x=>decide (x.kind=6)&&decide (x.hd=a)
theorem ZeP (m:Mo):∀ (p:List Mo) (s e:Bool),Vs p m s e=if m.kind=6 then (if Zez p m.hd=true then 5 else 0) else if m.kind=1 then (if (s||Zfg p 1 m.num)=true then 5 else 0) else if (!(s||Zfg p 1 m.num)||(e||Zfg p 7 m.num))=true then 9 else 0
 | [], s, e => by
   have a1:¬ Zez [] m.hd=true:=by simp [Zez]
   have a2:∀ k,Zfg [] k m.num=false:=fun _=>rfl
   rw [if_neg a1,a2,a2,Bool.or_false,Bool.or_false]
   simp only [Vs]
   by_cases h6:m.kind=6
   · rw [if_neg (by simp [h6]),if_neg (by simp [h6]),if_pos h6]
   rw [if_neg h6]
   by_cases h1:m.kind=1
   · rw [if_pos h1]
     cases s
     · rw [if_neg (by simp),if_neg (by simp [h1])];rfl
     · rw [if_pos (by simp [h1])];rfl
   rw [if_neg h1,if_neg (by simp [h1])]
   simp only [h1,h6,decide_false,Bool.not_false,Bool.true_and]
 | x :: r, s, e => by
   simp only [Vs]
   have ih:=ZeP m r
   by_cases h6:m.kind=6
   · rw [if_pos h6]
     by_cases hx:x.kind=6∧x.hd=m.hd
     · rw [if_pos ⟨h6, hx⟩, if_pos]
       simp [Zez,hx.1,hx.2]
     · rw [if_neg fun h => hx h.2]
       have e1:Zez (x::r) m.hd=Zez r m.hd:=by
        simp only [Zez,List.any_cons]
        rw [show (decide (x.kind=6)&&decide (x.hd=m.hd))=false by
         cases h:(decide (x.kind=6)&&decide (x.hd=m.hd)) with
         | false=>rfl
         | true=>rw [Bool.and_eq_true,decide_eq_true_eq,decide_eq_true_eq] at h;exact absurd h hx,Bool.false_or]
       rw [e1,ih,ih,if_pos h6,if_pos h6,ite_self]
   · rw [if_neg fun h => h6 h.1, ih, ih, if_neg h6, if_neg h6, if_neg h6]
     have e1:∀ k,Zfg (x::r) k m.num=((decide (x.num=m.num)&&decide (x.kind=k))||Zfg r k m.num):=fun k=>rfl
     rw [e1,e1]
     by_cases hn:x.num=m.num
     · rw [if_pos hn]
       simp only [hn,decide_true,Bool.true_and,Bool.or_assoc]
     · rw [if_neg hn]
       simp only [hn,decide_false,Bool.false_and,Bool.false_or]
structure Kn (S:FSt) (p:List Mo):Prop where
 a:∀ n,lkB n S.a=Zfg p 1 n
 b:∀ n,lkB n S.b=Zfg p 7 n
 r:∀ s,lkB s S.r=Zez p s
theorem ZnI (h:Kn S p) (m:Mo):S.bhd m=Vs p m false false:=by
 rw [ZeP]
 unfold FSt.bhd
 rw [h.a,h.b,h.r,Bool.false_or,Bool.false_or]
 congr 2
 cases Zfg p 1 m.num<;>cases Zfg p 7 m.num<;>simp
theorem WB (p:List Mo) (m:Mo) (k n:Int):Zfg (p++ [m]) k n=(Zfg p k n||(decide (m.num=n)&&decide (m.kind=k))):=by simp [Zfg]
theorem UV (p:List Mo) (m:Mo) (a:Bs):Zez (p++ [m]) a=(Zez p a||(decide (m.kind=6)&&decide (m.hd=a))):=by simp [Zez]
theorem ZqU (h:Kn S p) (hb:S.bhd m=0):Kn (S.nxt m) (p++ [m]):=by
 obtain ⟨h1,h2,h3⟩:=h
 unfold FSt.bhd at hb
 unfold FSt.nxt
 by_cases h6:m.kind=6
 · rw [if_pos h6]
   refine ⟨fun n=>?_,fun n=>?_,fun s=>?_⟩
   · rw [WB,h1,h6];simp
   · rw [WB,h2,h6];simp
   · rw [UV]
     show lkB s (upB m.hd true S.r)=_
     rw [Zk3,h3,h6]
     by_cases e:s=m.hd
     · rw [if_pos e,e];simp
     · rw [if_neg e]
       have:¬ m.hd=s:=fun h=>e h.symm
       simp [this]
 rw [if_neg h6] at hb ⊢
 have hH:∀ s,lkB s S.r=Zez (p++ [m]) s:=fun s=>by rw [UV,h3];simp [h6]
 by_cases e1:m.kind=1
 · rw [if_pos e1]
   refine ⟨fun n=>?_,fun n=>?_,hH⟩
   · rw [WB]
     show lkB n (upB m.num true S.a)=_
     rw [Zk3,h1,e1]
     by_cases e:n=m.num
     · rw [if_pos e,e];simp
     · rw [if_neg e]
       have:¬ m.num=n:=fun h=>e h.symm
       simp [this]
   · rw [WB,h2,e1];simp
 rw [if_neg e1] at hb ⊢
 refine ⟨fun n=>?_,fun n=>?_,hH⟩
 · rw [WB,h1];simp [e1]
 · rw [WB]
   show lkB n (upB m.num (decide (m.kind=7)) S.b)=_
   rw [Zk3,h2]
   by_cases e:n=m.num
   · rw [if_pos e, e]
     have hb2:Zfg p 7 m.num=false:=by
      rw [h1,h2] at hb
      split at hb
      · cases hb
      · rename_i hx
        cases hy:Zfg p 7 m.num with
        | false=>rfl
        | true=>exact absurd (.inr hy) hx
     rw [hb2];simp
   · rw [if_neg e]
     have:¬ m.num=n:=fun h=>e h.symm
     simp [this]
theorem ZfU:∀ (l p:List Mo) (S:FSt),Kn S p→(ZkP S l p.length).2=(Zex p l).2
 | [],p,S,_=>rfl
 | m :: r, p, S, h => by
   simp only [ZkP,Zex]
   by_cases c:m.alone≠0
   · rw [Zkg c,if_pos c,if_pos c]
   have e:S.err m=S.bhd m:=if_neg c
   rw [e,ZnI h,if_neg c]
   by_cases c2:Vs p m false false≠0
   · rw [if_pos c2,if_pos c2]
   rw [if_neg c2,if_neg c2]
   have h2:=ZqU h (m:=m) (by rw [ZnI h];exact Classical.not_not.1 c2)
   have:=ZfU r (p++ [m]) _ h2
   rwa [List.length_append] at this
theorem Qh (l:List Mo):(Zz l).2=(QG l).2:=by
 unfold Zz QG
 split
 · rfl
 · exact ZfU l [] _ ⟨fun _=>rfl,fun _=>rfl,fun _=>rfl⟩
theorem ZiS {E : Env} {t e : TypeId} {ti ei : TI} {es : Nat} (hT : E.T t = some ti) (hk : ti.tk = .slice e) (he : E.T e = some ei) (hes : ei.size = es) (b : Bool) {L : List (List PV)} (hne : L ≠ []) {k : Nat} (hl : k ≤ L.length) :
  Yz E t (slV b es L) none (some (.int .i64 (k:Int))) none=some (slV false es (L.take k)):=by
 have hn:nat? (.int .i64 (k:Int))=some k:=by simp [nat?]
 obtain ⟨c,r,rfl⟩:∃ c r,L=c::r:=by cases L with
  | nil=>exact absurd rfl hne
  | cons c r=>exact ⟨c,r,rfl⟩
 rw [Zm,Yb]
 simp only [Yz,hT,hk,he,hes,if_true,Za6,X4,hn]
 rw [if_pos (by simpa using hl)]
 simp [Zda]
theorem Zgn (l:List Mo) (k:Nat):(moC l).take k=moC (l.take k):=by simp [moC]
theorem ZaT (h:p[i]? = some x) (m:Mo) (s e:Bool):Vs (p.drop i) m s e=if m.kind=6∧x.kind=6∧x.hd=m.hd then 5 else if x.num=m.num then Vs (p.drop (i+1)) m (s||decide (x.kind=1)) (e||decide (x.kind=7)) else Vs (p.drop (i+1)) m s e:=by
 rw [Zy h];rfl
theorem Zvi (h:p[i]? = some x) (h1:m.kind=6) (h2:x.kind=6) (h3:x.hd=m.hd):Vs (p.drop i) m s e=5:=by
 rw [ZaT h,if_pos ⟨h1,h2,h3⟩]
theorem ZtG (h:p[i]? = some x) (h1:¬ (m.kind=6∧x.kind=6∧x.hd=m.hd)) (h2:x.num=m.num):Vs (p.drop i) m s e=Vs (p.drop (i+1)) m (s||decide (x.kind=1)) (e||decide (x.kind=7)):=by
 rw [ZaT h,if_neg h1,if_pos h2]
theorem Zty (h:p[i]? = some x) (h1:¬ (m.kind=6∧x.kind=6∧x.hd=m.hd)) (h2:¬ x.num=m.num):Vs (p.drop i) m s e=Vs (p.drop (i+1)) m s e:=by
 rw [ZaT h,if_neg h1,if_neg h2]
theorem ZjE {l:List Mo} (h:l[i]? = some m):Zex p (l.drop i)=if m.alone≠0 then ((p.length:Int),m.alone) else if Vs p m false false≠0 then ((p.length:Int),Vs p m false false) else Zex (p++ [m]) (l.drop (i+1)):=by
 rw [Zy h];rfl
end Go.Vm
namespace Go.Vm.Seat
variable {l:List Mo} {b:List Nat} {i:Nat}
open Go.Proofs
theorem ZhW (a b:Bs):Xo E0 .eql 9 (.str a) (.str b)=some (.bool (decide (a=b))):=by
 show some (PV.bool (a==b))=_
 by_cases h:a=b<;>simp [h]
theorem c96 {p : List Mo} (hp : p.length ≤ 1000) {m : Mo} (h6 : m.kind = 6 → ∃ a, m.agents = [a]) (hp6 : ∀ x, x ∈ p → x.kind = 6 → ∃ a, x.agents = [a]) (b : Bool) :
  ∀ H,CallOk E0 Tryz.prog 96 [slV b 6 (moC p),.agg m.cells] H (.int .i64 (Vs p m false false)) H:=by
 have hcl:=YH p
 obtain ⟨kd,nu,ro,an,ag,go,tn,te⟩:=m
 simp only [Mo.cells] at h6 ⊢
 refine Jw tOk fe96.ok rfl ?_ (by simp only [Zx,Z5];simp only [frzG,XM,ZE];rfl)
 repeat' first|refine Jt ?_|refine Jo ?_|fail
 have K6:=Z6 kd 6
 refine Wp.while (fun m2 tm H=>∃ (i:Nat) (base:TM) (s e:Bool),i+m2=p.length∧Vs p ⟨kd,nu,ro,an,ag,go,tn,te⟩ false false=Vs (p.drop i) ⟨kd,nu,ro,an,ag,go,tn,te⟩ s e∧tm=ovr base [(0,slV b 6 (moC p)),(3,.ptr 0 6 0 0),(5,.bool s),(6,.bool e),(7,.int .i64 (i:Int))]∧H=⟨[.cells 6 [[.int .i64 kd,.int .i64 nu,.int .i64 ro,slV an 1 (Zp ag),.int .i64 go,slV tn 4 (Za te)]]],0,[],0⟩)
  (fun m2 tm H hI=>?_) p.length _ _ ⟨0,_,false,false,by omega,by simp,Zf ⟨rfl,rfl,rfl,rfl,rfl,trivial⟩,rfl⟩
 obtain ⟨i,base,s,e,hi,hgo,rfl,rfl⟩:=hI
 rw [hgo]
 clear hgo
 by_cases hlt:i<p.length
 · obtain ⟨x, hx⟩ : ∃ x, p[i]? = some x := ⟨p[i], by simp⟩
   have hj:=WV hx
   have hx6:=hp6 x (List.mem_of_getElem? hx)
   have hlx:=Zq (i:Int) ((moC p).length:Int)
   rw [decide_eq_true (by omega)] at hlx
   obtain ⟨kd2,nu2,ro2,an2,ag2,go2,tn2,te2⟩:=x
   simp only [Mo.cells] at hj
   have J6:=Z6 kd2 6
   have W1:=Z6 kd2 1
   have W7:=Z6 kd2 7
   have N1:=Z6 nu2 nu
   simp only at hx6
   by_cases hk:kd=6∧kd2=6
   · obtain ⟨a, rfl⟩ := h6 hk.1
     obtain ⟨a2,rfl⟩:=hx6 hk.2
     have ha:=ZZ (l:=[a]) (i:=0) rfl
     have ha2:=ZZ (l:=[a2]) (i:=0) rfl
     have S3:=ZhW a2 a
     rw [decide_eq_true hk.1] at K6
     rw [decide_eq_true hk.2] at J6
     by_cases hs:a2=a
     · rw [decide_eq_true hs] at S3
       have hE:Vs (p.drop i) ⟨kd,nu,ro,an,[a],go,tn,te⟩ s e=5:=Zvi hx hk.1 hk.2 hs
       rw [hE]
       repeat' first|refine Ji ?_|refine Jl ?_|refine Jo ?_|refine JD ?_|refine JI ?_|(apply dT (ty:=4);rfl;rfl;rfl;rfl)|refine Jh ?_|(apply Wp.draw tOk follows;kernel_rfl)|fail
       all_goals rfl
     rw [decide_eq_false hs] at S3
     by_cases hN:nu2=nu
     · rw [decide_eq_true hN] at N1
       have hE:Vs (p.drop i) ⟨kd,nu,ro,an,[a],go,tn,te⟩ s e=Vs (p.drop (i+1)) ⟨kd,nu,ro,an,[a],go,tn,te⟩ (s||decide (kd2=1)) (e||decide (kd2=7)):=ZtG hx (fun h=>hs h.2.2) hN
       rw [hE]
       generalize decide (kd2=1)=w1 at W1 ⊢
       generalize decide (kd2=7)=w7 at W7 ⊢
       clear hE
       cases s<;>cases e
       all_goals
        repeat' first|refine Jk ?_|refine Ji ?_|refine Jl ?_|refine Jx ?_|refine Jt ?_|refine Jo ?_|refine JD ?_|refine JI ?_|(apply dT (ty:=4);rfl;rfl;rfl;rfl)|(apply dF (ty:=4);rfl;rfl;rfl;rfl)|refine Jh ?_|(apply Wp.draw tOk follows;kernel_rfl)|fail
        exact LoopI.go (m2-1) (by omega) ⟨i+1,_,_,_,by omega,rfl,Zf ⟨rfl,rfl,rfl,rfl,Ze (Zd (n:=i+1) (by omega)),trivial⟩,rfl⟩
     · rw [decide_eq_false hN] at N1
       have hE:Vs (p.drop i) ⟨kd,nu,ro,an,[a],go,tn,te⟩ s e=Vs (p.drop (i+1)) ⟨kd,nu,ro,an,[a],go,tn,te⟩ s e:=Zty hx (fun h=>hs h.2.2) hN
       rw [hE]
       repeat' first|refine Ji ?_|refine Jl ?_|refine Jo ?_|refine JD ?_|refine JI ?_|(apply dT (ty:=4);rfl;rfl;rfl;rfl)|(apply dF (ty:=4);rfl;rfl;rfl;rfl)|refine Jh ?_|(apply Wp.draw tOk follows;kernel_rfl)|fail
       exact LoopI.go (m2-1) (by omega) ⟨i+1,_,_,_,by omega,rfl,Zf ⟨rfl,rfl,rfl,rfl,Ze (Zd (n:=i+1) (by omega)),trivial⟩,rfl⟩
   · clear h6 hx6
     have hor:decide (kd=6)=false∨(decide (kd=6)=true∧decide (kd2=6)=false):=by
      by_cases h:kd=6
      · right
        exact ⟨decide_eq_true h,decide_eq_false fun h2=>hk ⟨h,h2⟩⟩
      · exact .inl (decide_eq_false h)
     generalize decide (kd=6)=D6 at K6 hor
     generalize decide (kd2=6)=E6 at J6 hor
     by_cases hN:nu2=nu
     · rw [decide_eq_true hN] at N1
       have hE:Vs (p.drop i) ⟨kd,nu,ro,an,ag,go,tn,te⟩ s e=Vs (p.drop (i+1)) ⟨kd,nu,ro,an,ag,go,tn,te⟩ (s||decide (kd2=1)) (e||decide (kd2=7)):=ZtG hx (fun h=>hk ⟨h.1,h.2.1⟩) hN
       rw [hE]
       generalize decide (kd2=1)=w1 at W1 ⊢
       generalize decide (kd2=7)=w7 at W7 ⊢
       clear hE
       rcases hor with rfl|⟨rfl,rfl⟩<;>cases s<;>cases e
       all_goals
        repeat' first|refine Jk ?_|refine Ji ?_|refine Jl ?_|refine Jx ?_|refine Jt ?_|refine Jo ?_|(apply dK;rfl;rfl;rfl)|refine JD ?_|refine JI ?_|(apply dT (ty:=4);rfl;rfl;rfl;rfl)|(apply dF (ty:=4);rfl;rfl;rfl;rfl)|refine Jh ?_|(apply Wp.draw tOk follows;kernel_rfl)|fail
        exact LoopI.go (m2-1) (by omega) ⟨i+1,_,_,_,by omega,rfl,Zf ⟨rfl,rfl,rfl,rfl,Ze (Zd (n:=i+1) (by omega)),trivial⟩,rfl⟩
     · rw [decide_eq_false hN] at N1
       have hE:Vs (p.drop i) ⟨kd,nu,ro,an,ag,go,tn,te⟩ s e=Vs (p.drop (i+1)) ⟨kd,nu,ro,an,ag,go,tn,te⟩ s e:=Zty hx (fun h=>hk ⟨h.1,h.2.1⟩) hN
       rw [hE]
       rcases hor with rfl|⟨rfl,rfl⟩
       all_goals
        repeat' first|refine Ji ?_|refine Jl ?_|refine Jo ?_|(apply dK;rfl;rfl;rfl)|refine JD ?_|refine JI ?_|(apply dT (ty:=4);rfl;rfl;rfl;rfl)|(apply dF (ty:=4);rfl;rfl;rfl;rfl)|refine Jh ?_|(apply Wp.draw tOk follows;kernel_rfl)|fail
        exact LoopI.go (m2-1) (by omega) ⟨i+1,_,_,_,by omega,rfl,Zf ⟨rfl,rfl,rfl,rfl,Ze (Zd (n:=i+1) (by omega)),trivial⟩,rfl⟩
 · have ei : i = p.length := by omega
   subst ei
   have hlx:=Zq (p.length:Int) ((moC p).length:Int)
   rw [decide_eq_false (by omega)] at hlx
   rw [List.drop_length]
   simp only [Vs]
   have Q1:=Z6 kd 1
   have P1:=Zbd kd 1
   have P6:=Zbd kd 6
   generalize decide (kd=1)=B1 at Q1 P1 ⊢
   generalize decide (kd=6)=B6 at P6 K6 ⊢
   cases B1<;>cases B6<;>cases s<;>cases e
   all_goals
    repeat' first|refine Jk ?_|refine Ji ?_|refine Jl ?_|refine Jt ?_|refine Jo ?_|fail
    all_goals rfl
theorem c62 (hl:TrS l) (b:Bool):∀ H,CallOk E0 Tryz.prog 62 [slV b 6 (moC l)] H (.tup [.int .i64 (QG l).1,.int .i64 (QG l).2]) H:=by
 obtain ⟨hl,hm⟩:=hl
 have hcl:=YH l
 have gq:=Xt ((moC l).length:Int) 400
 unfold QG
 refine Jw tOk fe62.ok rfl ?_
 by_cases h:400<l.length
 · rw [decide_eq_true (by omega)] at gq
   rw [if_pos h]
   repeat' first|refine Ji ?_|refine Jl ?_|refine Jo ?_|fail
   all_goals rfl
 rw [decide_eq_false (by omega)] at gq
 rw [if_neg h]
 repeat' first|refine Ji ?_|refine Jl ?_|refine Jo ?_|fail
 refine Wp.while (fun m2 tm H=>∃ (i:Nat) (base:TM),i+m2=l.length∧(∀ x,x∈l.take i→x.alone=0)∧Zex [] l=Zex (l.take i) (l.drop i)∧tm=ovr base [(0,slV b 6 (moC l)),(4,.int .i64 (i:Int))]∧H=⟨[],0,[],0⟩)
  (fun m2 tm H hI=>?_) l.length _ _ ⟨0,_,by omega,by simp,by simp,Zf ⟨rfl,rfl,trivial⟩,rfl⟩
 obtain ⟨i,base,hi,hal,hgo,rfl,rfl⟩:=hI
 rw [hgo]
 by_cases hlt:i<l.length
 · obtain ⟨m, hx⟩ : ∃ m, l[i]? = some m := ⟨l[i], by simp⟩
   have hj:=WV hx
   have hA:=c95 (hm m (List.mem_of_getElem? hx))
   have hlx:=Zq (i:Int) ((moC l).length:Int)
   rw [decide_eq_true (by omega)] at hlx
   have htk:l.take (i+1)=l.take i++ [m]:=by rw [List.take_add_one,hx];rfl
   have hsl:Yz E0 25 (slV b 6 (moC l)) none (some (.int .i64 (i:Int))) none=some (slV false 6 (moC (l.take i))):=by
    rw [← Zgn]
    exact ZiS (E:=E0) (t:=25) (L:=moC l) (es:=6) rfl rfl rfl rfl b (fun h=>by rw [h] at hcl;simp at hcl;omega) (by omega)
   rw [ZjE hx,List.length_take,show min i l.length=i by omega]
   have n1:=WM m.alone 0
   by_cases c1:m.alone=0
   · have hB := c96 (p := l.take i) (by rw [List.length_take]; omega) (form_6 c1) (fun x hx => form_6 (hal x hx)) false
     have hal2:∀ x,x∈l.take (i+1)→x.alone=0:=fun x hx=>by
      rw [htk] at hx
      rcases List.mem_append.1 hx with h|h
      · exact hal x h
      · rw [List.mem_singleton.1 h];exact c1
     rw [decide_eq_true c1] at n1
     rw [if_neg (by omega:¬ m.alone≠0)]
     rw [c1] at hA n1
     have n2:=WM (Vs (l.take i) m false false) 0
     rw [← htk]
     generalize Vs (l.take i) m false false=B at hB n2 ⊢
     obtain ⟨kd,nu,ro,an,ag,go,tn,te⟩:=m
     simp only [Mo.cells] at hA hB hj
     by_cases c2:B=0
     · rw [decide_eq_true c2] at n2
       rw [if_neg (by omega)]
       repeat' first|refine Jc (hA _) ?_|refine Ji ?_|refine Jl ?_|refine Jx ?_|refine Jo ?_|refine Jd (hB _) ?_|(apply dSl;rfl;rfl;rfl;rfl;rfl;rfl;assumption;exact IsV.any _;rfl)|refine JI ?_|refine Jh ?_|(apply Wp.draw tOk follows;kernel_rfl)|fail
       exact LoopI.go (m2-1) (by omega) ⟨i+1,_,by omega,hal2,rfl,Zf ⟨rfl,Ze (Zd (n:=i+1) (by omega)),trivial⟩,rfl⟩
     · rw [decide_eq_false c2] at n2
       rw [if_pos c2]
       repeat' first|refine Jc (hA _) ?_|refine Ji ?_|refine Jl ?_|refine Jx ?_|refine Jo ?_|refine Jd (hB _) ?_|(apply dSl;rfl;rfl;rfl;rfl;rfl;rfl;assumption;exact IsV.any _;rfl)|refine JI ?_|refine Jh ?_|(apply Wp.draw tOk follows;kernel_rfl)|fail
       all_goals rfl
   · rw [decide_eq_false c1] at n1
     rw [if_pos c1]
     generalize m.alone=e at hA n1 ⊢
     obtain ⟨kd,nu,ro,an,ag,go,tn,te⟩:=m
     simp only [Mo.cells] at hA hj
     repeat' first|refine Jc (hA _) ?_|refine Ji ?_|refine Jl ?_|refine Jx ?_|refine Jo ?_|fail
     all_goals rfl
 · have e : i = l.length := by omega
   subst e
   have hlx:=Zq (l.length:Int) ((moC l).length:Int)
   rw [decide_eq_false (by omega)] at hlx
   rw [List.drop_length]
   repeat' first|refine Ji ?_|refine Jl ?_|refine Jo ?_|fail
   all_goals rfl
theorem c32 (hl:TrS l) (b:Bool):∀ H,CallOk E0 Tryz.prog 32 [slV b 6 (moC l)] H (.int .i64 (Zz l).2) H:=by
 have hc:=c62 hl b
 rw [Qh]
 generalize QG l=f at hc ⊢
 obtain ⟨f1,f2⟩:=f
 refine Jw tOk fe32.ok rfl ?_
 repeat' first|refine Jc (hc _) ?_|refine Jo ?_|fail
 all_goals rfl
theorem Xk (m:Nat) (H:Heap) (k:Int) (nm:Bs) (s:Int) (b:Bool) (l:List (List PV)) (x:Int):frz3 m H (.tup [.agg [.int .i64 k,.str nm,.int .i64 s,slV b 4 l],.int .i64 x])=some (.tup [.agg [.int .i64 k,.str nm,.int .i64 s,slV b 4 l],.int .i64 x]):=by
 rw [WW]
 simp only [Wn,frz2,WH,VN]
 rfl
theorem ZgB (nm:Bs) (x y:Tm):∀ H,CallOk E0 Tryz.prog 129 [.str nm,.sl .full 4 [x.cells,y.cells]] H (.agg (Tm.mk 3 nm 0 true [x,y]).cells) H:=fun H=>by
 have:=Zmd nm (l:=[x,y]) (by simp) true H
 simp only [Tm.cells,Za,Zm] at this ⊢
 exact Zs this rfl
theorem Zvf:XY E0 200 100 ⟨107,[],slV false 4 (Za lvs)⟩=true:=by kernel_rfl
theorem Zt7:∀ H,CallOk E0 Tryz.prog 107 [] H (slV false 4 (Za lvs)) H:=Ys tOk follows fOk zOk Zvf
theorem Zfw (k m:Nat) (hm:m≠0):Xo E0 .rem 3 (.int .i64 (k:Int)) (.int .i64 (m:Int))=some (.int .i64 ((k % m:Nat):Int)):=by
 show (if (m:Int)=0 then none else some (PV.int .i64 ((k:Int).tmod (m:Int))))=_
 rw [if_neg (by omega)]
 rfl
theorem ZqC (k m:Nat) (hk:k<100000) (hm:m≠0):Xo E0 .quo 3 (.int .i64 (k:Int)) (.int .i64 (m:Int))=some (.int .i64 ((k / m:Nat):Int)):=by
 show (if (m:Int)=0 then none else some (PV.int .i64 (IntKind.i64.wrap ((k:Int).tdiv (m:Int)))))=_
 rw [if_neg (by omega)]
 have:((k:Int).tdiv (m:Int))=((k / m:Nat):Int):=rfl
 rw [this,Zd (by have:=Nat.div_le_self k m;omega)]
theorem Zeq (k:Nat) (hk:k<256):QJ E0 5 3 (.int .u8 (k:Int))=some (.int .i64 (k:Int)):=by
 show some (PV.int .i64 (IntKind.i64.wrap (k:Int)))=_
 rw [Zd (by omega)]
theorem Zue (a b:Nat):Xo E0 .eql 3 (.int .i64 (a:Int)) (.int .i64 (b:Int))=some (.bool (decide (a=b))):=by
 rw [Z6]
 congr 2
 rw [decide_eq_decide];omega
theorem ZdH (a b:Nat) (h:a+b<100000):Xo E0 .add 3 (.int .i64 (a:Int)) (.int .i64 (b:Int))=some (.int .i64 ((a+b:Nat):Int)):=by
 show some (PV.int .i64 (IntKind.i64.wrap ((a:Int)+(b:Int))))=_
 rw [← Int.natCast_add,Zd (by omega)]
theorem Zas (h:i<b.length):(byC b)[i]? = some [.int .u8 ((b.getD i 0:Nat):Int)]:=by
 simp [byC,List.getElem?_eq_getElem h]
theorem Ug (b:List Nat):(byC b).length=b.length:=by simp [byC]
theorem ZoE (n:Nat):(Za lvs)[n % 10]? = some (lvT n).cells:=by
 have h:n % 10<10:=Nat.mod_lt _ (by omega)
 unfold lvT
 generalize n % 10=k at h ⊢
 have:k=0∨k=1∨k=2∨k=3∨k=4∨k=5∨k=6∨k=7∨k=8∨k=9:=by omega
 rcases this with rfl|rfl|rfl|rfl|rfl|rfl|rfl|rfl|rfl|rfl<;>rfl
theorem ZnK (hb:∀ x,x∈b→x<256) (bb:Bool) {f:Nat} {d:Nat} (hi:i<10000) (hd:d+f=4) (hc:f=0∨b.getD i 0 % 3=0):∀ H,CallOk E0 Tryz.prog 104 [slV bb 1 (byC b),.int .i64 (i:Int),.int .i64 (d:Int),.bool true] H (.tup [.agg (lvT (b.getD i 0 / 3)).cells,.int .i64 ((i+1:Nat):Int)]) H:=by
 have hl:=Zt7
 have hlt:b.getD i 0<256:=by
  by_cases h:i<b.length
  · exact hb _ (by simp [h])
  · simp [List.getElem?_eq_none (Nat.not_lt.1 h)]
 have q1:=Zq (i:Int) ((byC b).length:Int)
 have q2:=Y0 (d:Int) 4
 have q4:=ZdH i 1 (by omega)
 have q3:=Zfw (b.getD i 0) 3 (by omega)
 have q5:=Zue (b.getD i 0 % 3) 0
 have q6:=ZqC (b.getD i 0) 3 (by omega) (by omega)
 have q7:Xo E0 .rem 3 (.int .i64 ((b.getD i 0 / 3:Nat):Int)) (.int .i64 (((Za lvs).length:Nat):Int))=some (.int .i64 ((b.getD i 0 / 3 % 10:Nat):Int)):=Zfw (b.getD i 0 / 3) 10 (by decide)
 have hlv:=ZoE (b.getD i 0 / 3)
 have q8:=Zeq _ hlt
 have hj:i<b.length→_:=Zas (b:=b)
 by_cases h:i<b.length
 · rw [decide_eq_true (by rw [Ug]; omega)] at q1
   have hj:=hj h
   clear hb hlt
   generalize b.getD i 0=c at q3 q5 q6 q7 q8 hlv hj hc ⊢
   generalize byC b=B at q1 hj ⊢
   generalize lvT (c / 3)=L at hlv ⊢
   obtain ⟨k1,n1,s1,f1,l1⟩:=L
   simp only [Tm.cells] at hlv ⊢
   by_cases h4:4≤d
   · rw [decide_eq_true (by omega)] at q2
     refine Jw tOk fe104.ok (Xk _ _ _ _ _ _ _ _) ?_
     repeat' first|refine Jk ?_|refine Jc (hl _) ?_|refine Ji ?_|(apply qCv;rfl;rfl;rfl;assumption;exact IsV.any _)|refine Jl ?_|refine Jx ?_|refine Jt ?_|refine Jo ?_|fail
     all_goals exact Xk _ _ _ _ _ _ _ _
   · rw [decide_eq_false (by omega)] at q2
     rw [decide_eq_true (by omega)] at q5
     refine Jw tOk fe104.ok (Xk _ _ _ _ _ _ _ _) ?_
     repeat' first|refine Jc (hl _) ?_|refine Ji ?_|(apply qCv;rfl;rfl;rfl;assumption;exact IsV.any _)|refine Jl ?_|refine Jx ?_|refine Jt ?_|refine Jo ?_|fail
     all_goals exact Xk _ _ _ _ _ _ _ _
 · rw [decide_eq_false (by rw [Ug]; omega)] at q1
   have e:b.getD i 0=0:=by simp [List.getElem?_eq_none (Nat.not_lt.1 h)]
   rw [e] at q3 q5 q6 q7 hlv ⊢
   clear hb hlt hj hc q8
   generalize byC b=B at q1 ⊢
   generalize lvT (0 / 3)=L at hlv ⊢
   obtain ⟨k1,n1,s1,f1,l1⟩:=L
   simp only [Tm.cells] at hlv ⊢
   by_cases h4:4≤d
   · rw [decide_eq_true (by omega)] at q2
     refine Jw tOk fe104.ok (Xk _ _ _ _ _ _ _ _) ?_
     repeat' first|refine Jk ?_|refine Jc (hl _) ?_|refine Ji ?_|refine Jl ?_|refine Jx ?_|refine Jt ?_|refine Jo ?_|fail
     all_goals exact Xk _ _ _ _ _ _ _ _
   · rw [decide_eq_false (by omega)] at q2
     refine Jw tOk fe104.ok (Xk _ _ _ _ _ _ _ _) ?_
     repeat' first|refine Jc (hl _) ?_|refine Ji ?_|refine Jl ?_|refine Jx ?_|refine Jt ?_|refine Jo ?_|fail
     all_goals exact Xk _ _ _ _ _ _ _ _
theorem ZoK {n:Nat} (h:n<11):n=0∨n=1∨n=2∨n=3∨n=4∨n=5∨n=6∨n=7∨n=8∨n=9∨n=10:=by omega
theorem Zky {b:List Nat} (hb:∀ x,x∈b→x<256) (bb:Bool):∀ (f i d:Nat),d+f=4→i+2 ^ (f+1)<10000→∀ H,CallOk E0 Tryz.prog 104 [slV bb 1 (byC b),.int .i64 (i:Int),.int .i64 (d:Int),.bool true] H (.tup [.agg (grT b f i).1.cells,.int .i64 ((grT b f i).2:Int)]) H
 | 0, i, d, hd, hi => by
   have:=ZnK hb bb (f:=0) (i:=i) (d:=d) (by omega) hd (.inl rfl)
   rw [ZfM rfl (.inl rfl)]
   exact this
 | f + 1, i, d, hd, hi => by
   have e2:2 ^ (f+1+1)=2 ^ (f+1)*2:=Nat.pow_succ ..
   have e3:=Nat.one_le_two_pow (n:=f+1)
   by_cases h3:b.getD i 0 % 3=0
   · have := ZnK hb bb (f := f + 1) (i := i) (d := d) (by omega) hd (.inr h3)
     rw [ZfM rfl (.inr h3)]
     exact this
   have h1:=Zky hb bb f (i+1) (d+1) (by omega) (by omega)
   have hle:=Ziv b f (i+1)
   have h2:=Zky hb bb f (grT b f (i+1)).2 (d+1) (by omega) (by omega)
   have h:i<b.length:=by
    by_cases h:i<b.length
    · exact h
    · exact absurd (by simp [List.getElem?_eq_none (Nat.not_lt.1 h)]) h3
   have hlt:b.getD i 0<256:=hb _ (by simp [h])
   have hl:=Zt7
   have q1:=Zq (i:Int) ((byC b).length:Int)
   rw [decide_eq_true (by rw [Ug];omega)] at q1
   have q2:=Y0 (d:Int) 4
   rw [decide_eq_false (by omega)] at q2
   have q4:=ZdH i 1 (by omega)
   have q0:=ZdH d 1 (by omega)
   have q3:=Zfw (b.getD i 0) 3 (by omega)
   have q5:=Zue (b.getD i 0 % 3) 0
   rw [decide_eq_false h3] at q5
   have q6:=ZqC (b.getD i 0) 3 (by omega) (by omega)
   have q7:=Zfw (b.getD i 0 / 3) 11 (by decide)
   have q8:=Zeq _ hlt
   have hj:=Zas h
   have hk:b.getD i 0 / 3 % 11<11:=Nat.mod_lt _ (by omega)
   obtain ⟨c,hc⟩:∃ c,b.getD i 0=c:=⟨_,rfl⟩
   rcases ZoK hk with hk|hk|hk|hk|hk|hk|hk|hk|hk|hk|hk
   · rw [ZrE rfl h3 hk]
     rw [hk] at q7
     rw [hc] at q3 q5 q6 q7 q8 hj
     clear hb hlt hk h3 hc h2
     generalize byC b=B at q1 hj h1 ⊢
     generalize grT b f (i+1)=X at h1 ⊢
     obtain ⟨⟨k1,n1,s1,f1,l1⟩,x2⟩:=X
     have ha:=Zdt Zhs (.mk k1 n1 s1 f1 l1)
     simp only [Tm.cells,Za,Zhs] at h1 ha ⊢
     refine Jw tOk fe104.ok (Xk _ _ _ _ _ _ _ _) ?_
     repeat' first|(apply qCl;rfl;rfl;rfl;rfl;first|exact hl _|exact h1 _|exact ha _)|refine Js ?_|refine Ji ?_|(apply qCv;rfl;rfl;rfl;assumption;exact IsV.any _)|refine Jl ?_|refine Jx ?_|refine Jt ?_|refine Jo ?_|fail
     all_goals exact Xk _ _ _ _ _ _ _ _
   · rw [ZsO rfl h3 hk]
     rw [hk] at q7
     rw [hc] at q3 q5 q6 q7 q8 hj
     clear hb hlt hk h3 hc h2
     generalize byC b=B at q1 hj h1 ⊢
     generalize grT b f (i+1)=X at h1 ⊢
     obtain ⟨⟨k1,n1,s1,f1,l1⟩,x2⟩:=X
     have ha:=Zdt pkN (.mk k1 n1 s1 f1 l1)
     simp only [Tm.cells,Za,pkN] at h1 ha ⊢
     refine Jw tOk fe104.ok (Xk _ _ _ _ _ _ _ _) ?_
     repeat' first|(apply qCl;rfl;rfl;rfl;rfl;first|exact hl _|exact h1 _|exact ha _)|refine Js ?_|refine Ji ?_|(apply qCv;rfl;rfl;rfl;assumption;exact IsV.any _)|refine Jl ?_|refine Jx ?_|refine Jt ?_|refine Jo ?_|fail
     all_goals exact Xk _ _ _ _ _ _ _ _
   all_goals
    rw [ZsT rfl h3 (by omega) (by omega)]
    rw [hk] at q7 ⊢
    rw [hc] at q3 q5 q6 q7 q8 hj
    clear hb hlt hk h3 hc
    generalize byC b=B at q1 hj h1 h2 ⊢
    generalize (grT b f (grT b f (i+1)).2)=Y at h2 ⊢
    generalize grT b f (i+1)=X at h1 h2 ⊢
    obtain ⟨⟨k1,n1,s1,f1,l1⟩,x2⟩:=X
    obtain ⟨⟨k2,n2,s2,f2,l2⟩,y2⟩:=Y
    have a1:=ZgB Zb8 (.mk k1 n1 s1 f1 l1) (.mk k2 n2 s2 f2 l2)
    have a2:=ZgB Y9 (.mk k1 n1 s1 f1 l1) (.mk k2 n2 s2 f2 l2)
    have a3:=ZgB Xf (.mk k1 n1 s1 f1 l1) (.mk k2 n2 s2 f2 l2)
    have a4:=Zdt pkN (.mk k2 n2 s2 f2 l2)
    have a5:=ZgB Wy (.mk k1 n1 s1 f1 l1) (.mk 3 pkN 0 true [.mk k2 n2 s2 f2 l2])
    simp only [Zm3,Nat.reduceEqDiff,or_true,or_false,if_true,if_false,Tm.cells,Za,pkN,Zb8,Y9,Xf,Wy] at h1 h2 a1 a2 a3 a4 a5 ⊢
    refine Jw tOk fe104.ok (Xk _ _ _ _ _ _ _ _) ?_
    repeat' first|refine Jk ?_|(apply qCl;rfl;rfl;rfl;rfl;first|exact hl _|exact h1 _|exact h2 _|exact a1 _|exact a2 _|exact a3 _)|refine Js ?_|refine Ji ?_|(apply qCv;rfl;rfl;rfl;assumption;exact IsV.any _)|refine Jl ?_|refine Jx ?_|refine Jt ?_|refine Jo ?_|refine Jd (a4 _) ?_|refine Jd (a5 _) ?_|refine JB ?_|refine Jh ?_|(apply Wp.drawS tOk follows;kernel_rfl;rfl)|fail
    all_goals exact Xk _ _ _ _ _ _ _ _
