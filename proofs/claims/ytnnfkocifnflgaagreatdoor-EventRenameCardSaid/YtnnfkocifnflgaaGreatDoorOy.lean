/-
  Two sessions are exchanged in a trace (the program's text): what is read and wri
-/
import Derived.Test.YtnnfkocifnflgaaGreatDoorOx
set_option maxHeartbeats 0
set_option maxRecDepth 100000
namespace Go.Vm.Seat
variable {l:List Mo}
open Go.Proofs
theorem c6s (hl : l.length ≤ 420) (hok : ∀ m, m ∈ l → m.Ok) (hsz : ∀ m, m ∈ l → ∀ t, t ∈ m.terms → t.size < 4611686018427387904) (b b' : Bool) :
  ∀ H,CallOk E0 Tryz.prog 6 [slV b 6 (moC l),slV b' 6 (moC l)] H (.bool true) H:=by
 refine Jw tOk fe6.ok rfl ?_
 repeat' first|refine Jk ?_|refine Ji ?_|refine JJ ?_|refine Jl ?_|refine Jx ?_|refine Jt ?_|refine Jb ?_ ?_|refine Jo ?_|(apply dK;rfl;rfl;rfl)|refine JD ?_|refine JK ?_|(apply dLn;rfl;rfl;rfl;rfl;rfl)|refine JI ?_|(apply dT (ty:=4);rfl;rfl;rfl;rfl)|(apply dF (ty:=4);rfl;rfl;rfl;rfl)|(apply dB (ty:=4);rfl;rfl;rfl;rfl)|refine Jh ?_|(apply Wp.draw tOk follows;kernel_rfl)|intro hb
 · exfalso;simp at hb
 refine Wp.while (fun m tm H => ∃ (i : Nat) (base : TM), i + m = l.length ∧
   tm=ovr base [(0,slV b 6 (moC l)),(1,slV b' 6 (moC l)),(5,.int .i64 (i:Int))]∧H=hNil)
  (fun m tm H hI=>Wp.drop ?_) l.length _ _ ⟨0,_,by omega,Zf ⟨rfl,rfl,rfl,trivial⟩,rfl⟩
 obtain ⟨i,base,hi,rfl,rfl⟩:=hI
 by_cases hlt:i<l.length
 · obtain ⟨x, hx⟩ : ∃ x, l[i]? = some x := ⟨l[i], by simp⟩
   have hm:x∈l:=List.mem_of_getElem? hx
   have ho:=hok x hm
   have hz:=hsz x hm
   have hj:=WD hx
   have hc:=ZoN ho.ts hz ho.tl x.tn x.tn
   have hag:=ho.al
   unfold maxLen at hag
   obtain ⟨kd,nu,ro,an,ag,go,tn,te⟩:=x
   simp only [Mo.cells] at hj hc hag
   repeat' first|refine Jk ?_|refine Jc (hc _) ?_|refine Ji ?_|refine JJ ?_|refine Jl ?_|refine Jx ?_|refine Jt ?_|refine Jb ?_ ?_|refine Jo ?_|(apply dK;rfl;rfl;rfl)|refine Jd (hc _) ?_|refine JD ?_|refine JK ?_|(apply dLn;rfl;rfl;rfl;rfl;rfl)|refine JI ?_|(apply dT (ty:=4);rfl;rfl;rfl;rfl)|(apply dF (ty:=4);rfl;rfl;rfl;rfl)|(apply dB (ty:=4);rfl;rfl;rfl;rfl)|refine Jh ?_|(apply Wp.draw tOk follows;kernel_rfl)|intro hb
   all_goals first
    | (exfalso;simp at hb;done)
    | skip
   · refine Wp.while (fun m2 tm H => ∃ (k : Nat) (base : TM), k + m2 = ag.length ∧
         tm=ovr base [(0,slV b 6 (moC l)),(1,slV b' 6 (moC l)),(5,.int .i64 (i:Int)),(6,.ptr 0 6 0 0),(7,.ptr 1 6 0 0),(8,.int .i64 (k:Int))]∧
         H=⟨[.cells 6 [[.int .i64 kd,.int .i64 nu,.int .i64 ro,slV an 1 (Xk ag),.int .i64 go,slV tn 4 (Za te)]],.cells 6 [[.int .i64 kd,.int .i64 nu,.int .i64 ro,slV an 1 (Xk ag),.int .i64 go,slV tn 4 (Za te)]]],0,[],0⟩)
       (fun m2 tm H hI=>?_) ag.length _ _ ⟨0,_,by omega,Zf ⟨rfl,rfl,rfl,rfl,rfl,rfl,trivial⟩,rfl⟩
     obtain ⟨k,base,hk2,rfl,rfl⟩:=hI
     by_cases hlk:k<ag.length
     · obtain ⟨y, hy⟩ : ∃ y, ag[k]? = some y := ⟨ag[k], by simp⟩
       have hj2:=ZaL hy
       repeat' first|refine Jk ?_|refine Ji ?_|refine JJ ?_|refine Jl ?_|refine Jx ?_|refine Jt ?_|refine Jb ?_ ?_|refine Jo ?_|(apply dK;rfl;rfl;rfl)|refine JD ?_|refine JK ?_|(apply dLn;rfl;rfl;rfl;rfl;rfl)|refine JI ?_|(apply dT (ty:=4);rfl;rfl;rfl;rfl)|(apply dF (ty:=4);rfl;rfl;rfl;rfl)|(apply dB (ty:=4);rfl;rfl;rfl;rfl)|refine Jh ?_|(apply Wp.draw tOk follows;kernel_rfl)|intro hb
       all_goals first
        | exact LoopI.go (m2-1) (by omega) ⟨k+1,_,by omega,Zf ⟨rfl,rfl,rfl,rfl,rfl,Ze (Zc (n:=k+1) (by omega)),trivial⟩,rfl⟩
        | (exfalso;rw [XA] at hb;simp at hb<;>omega)
        | (exfalso;simp at hb;done)
     · have e : k = ag.length := by omega
       subst e
       repeat' first|refine Jk ?_|refine Ji ?_|refine JJ ?_|refine Jl ?_|refine Jx ?_|refine Jt ?_|refine Jb ?_ ?_|refine Jo ?_|(apply dK;rfl;rfl;rfl)|refine JD ?_|refine JK ?_|(apply dLn;rfl;rfl;rfl;rfl;rfl)|refine JI ?_|(apply dT (ty:=4);rfl;rfl;rfl;rfl)|(apply dF (ty:=4);rfl;rfl;rfl;rfl)|(apply dB (ty:=4);rfl;rfl;rfl;rfl)|refine Jh ?_|(apply Wp.draw tOk follows;kernel_rfl)|intro hb
       · exfalso;rw [XA] at hb;simp at hb
       · exact DropQ.go [(0, slV b 6 (moC l)), (1, slV b' 6 (moC l)), (5, .int .i64 ((i + 1 : Nat) : Int))] ⟨rfl, rfl, Ze (Zc (n := i + 1) (by omega)), trivial⟩
           (by simp [Zj,under]) rfl rfl (LoopI.go (m-1) (by omega) ⟨i+1,_,by omega,rfl,rfl⟩)
   · exfalso;rw [YA] at hb;simp at hb<;>omega
 · have e : i = l.length := by omega
   subst e
   repeat' first|refine Jk ?_|refine Ji ?_|refine JJ ?_|refine Jl ?_|refine Jx ?_|refine Jt ?_|refine Jb ?_ ?_|refine Jo ?_|(apply dK;rfl;rfl;rfl)|refine JD ?_|refine JK ?_|(apply dLn;rfl;rfl;rfl;rfl;rfl)|refine JI ?_|(apply dT (ty:=4);rfl;rfl;rfl;rfl)|(apply dF (ty:=4);rfl;rfl;rfl;rfl)|(apply dB (ty:=4);rfl;rfl;rfl;rfl)|refine Jh ?_|(apply Wp.draw tOk follows;kernel_rfl)|intro hb
   · rw [YA] at hb;simp at hb
   · rfl
theorem fewM_lens {m:Mo}:Zg8 m=true↔m.agents.length≤8∧m.terms.length≤14∧∀ s,s∈m.agents→s.length≤40:=by
 simp only [Zg8,Bool.and_eq_true,Bool.not_eq_true',decide_eq_false_iff_not,List.all_eq_true,Nat.not_lt]
theorem ZeR {i:Nat} {x:Mo} (h:l[i]? = some x):(l.take (i+1)).flatMap (·.terms)=(l.take i).flatMap (·.terms)++x.terms:=by
 simp only [List.take_add_one,h,Option.toList_some,List.flatMap_append,List.flatMap_cons,List.flatMap_nil,List.append_nil]
theorem Zbx (h:∀ m,m∈l→Zg8 m=true):(l.flatMap (·.terms)).length≤14*l.length:=by
 induction l with
 |nil=>simp
 | cons a r ih =>
   have h1:=(fewM_lens.1 (h a List.mem_cons_self)).2.1
   have h2:=ih fun m hm=>h m (List.mem_cons_of_mem _ hm)
   simp only [List.flatMap_cons,List.length_append,List.length_cons] at h2 ⊢
   omega
theorem ZgQ {m:Mo} (hm:m∈l) (h:Zg8 m=false):Qf l=false:=by
 unfold Qf
 split
 · rfl
 · rw [if_neg]
   intro ha
   rw [List.all_eq_true] at ha
   have:=ha m hm
   rw [h] at this
   cases this
theorem c5 (hok : ∀ m, m ∈ l → m.Ok) (b : Bool) :
  ∀ H,CallOk E0 Tryz.prog 5 [slV b 6 (moC l)] H (.bool (Qf l)) H:=by
 refine Jw tOk fe5.ok rfl ?_
 repeat' first|refine Jk ?_|refine JA ?_|refine Ji ?_|refine JJ ?_|refine Jl ?_|refine Jx ?_|refine Jt ?_|refine Jb ?_ ?_|refine Jo ?_|intro hb
 · rw [YA] at hb
   have:420<l.length:=by simp at hb<;>omega
   simp only [Qf,if_pos this]
 rw [YA] at hb
 have hl:l.length≤420:=by simp at hb<;>omega
 clear hb
 refine Wp.while (fun m tm H => ∃ (i : Nat) (base : TM) (out : PV) (lv : List Nat) (nt : Nat), i + m = l.length ∧ (∀ m, m ∈ l.take i → Zg8 m = true) ∧ ApV true 4 (Za ((l.take i).flatMap (·.terms))) out lv nt ∧
   tm=ovr base [(0,slV b 6 (moC l)),(3,out),(4,.int .i64 (i:Int))]∧H=⟨[],0,lv,nt⟩)
  (fun m tm H hI=>?_) l.length _ _ ⟨0,_,_,_,_,by omega,by simp,.nil _ _ rfl,Zf ⟨rfl,rfl,rfl,trivial⟩,rfl⟩
 obtain ⟨i,base,out,lv,nt,hi,hF,hA,rfl,rfl⟩:=hI
 by_cases hlt:i<l.length
 · obtain ⟨x, hx⟩ : ∃ x, l[i]? = some x := ⟨l[i], by simp⟩
   have hm:x∈l:=List.mem_of_getElem? hx
   have ho:=hok x hm
   have hs:=ZeR hx
   have hsl:=Zbx hF
   rw [List.length_take] at hsl
   have hnot:=fun h=>ZgQ hm h
   have hj:=WD hx
   have hfw:=@fewM_lens x
   have htk:∀ (h:Zg8 x=true) m,m∈l.take (i+1)→Zg8 m=true:=fun h m hm=>by
    rw [List.take_add_one,hx] at hm
    rcases List.mem_append.1 hm with hm|hm
    · exact hF m hm
    · simp at hm;rw [hm];exact h
   by_cases h8:x.agents.length≤8∧x.terms.length≤14
   · obtain ⟨out', lv', nt', hap, hA', -⟩ := hA.app YX (.slV x.tn 4 (Za x.terms)) (Zr _) (ZX (by simp only [Zb]; omega) (by decide)) (ZU _)
     rw [← ZG] at hA'
     obtain ⟨kd,nu,ro,an,ag,go,tn,te⟩:=x
     simp only [Mo.cells] at hj hs hap hA' hfw h8
     repeat' first|refine Jk ?_|refine JA ?_|refine Ji ?_|refine JJ ?_|refine Jl ?_|refine Jx ?_|refine Jt ?_|refine Jb ?_ ?_|refine Jo ?_|intro hb
     · exfalso;rw [XA] at hb;simp at hb<;>omega
     · exfalso;rw [Zb] at hb;simp at hb<;>omega
     · refine Wp.while (fun m2 tm H => ∃ (k : Nat) (base : TM), k + m2 = ag.length ∧ (∀ s, s ∈ ag.take k → s.length ≤ 40) ∧
           tm=ovr base [(0,slV b 6 (moC l)),(3,out),(4,.int .i64 (i:Int)),(5,.int .i64 (k:Int))]∧H=⟨[],0,lv,nt⟩)
         (fun m2 tm H hI=>?_) ag.length _ _ ⟨0,_,by omega,by simp,Zf ⟨rfl,rfl,rfl,rfl,trivial⟩,rfl⟩
       obtain ⟨k,base,hk2,hks,rfl,rfl⟩:=hI
       by_cases hlk:k<ag.length
       · obtain ⟨y, hy⟩ : ∃ y, ag[k]? = some y := ⟨ag[k], by simp⟩
         have hj2:=ZaL hy
         repeat' first|refine Jk ?_|refine JA ?_|refine Ji ?_|refine JJ ?_|refine Jl ?_|refine Jx ?_|refine Jt ?_|refine Jb ?_ ?_|refine Jo ?_|intro hb
         · have hb' : 40 < y.length := by simp at hb <;> omega
           rw [hnot (by
            rw [← Bool.not_eq_true,hfw]
            rintro ⟨-, -,h⟩
            have:=h y (List.mem_of_getElem? hy)
            omega)]
         · have hb' : y.length ≤ 40 := by simp at hb <;> omega
           refine LoopI.go (m2-1) (by omega) ⟨k+1,_,by omega,fun s hs=>?_,Zf ⟨rfl,rfl,rfl,Ze (Zc (n:=k+1) (by omega)),trivial⟩,rfl⟩
           rw [List.take_add_one,hy] at hs
           rcases List.mem_append.1 hs with hs|hs
           · exact hks s hs
           · simp at hs;rw [hs];exact hb'
         · exfalso;rw [XA] at hb;simp at hb<;>omega
       · have e : k = ag.length := by omega
         subst e
         rw [List.take_length] at hks
         repeat' first|refine Jk ?_|refine JA ?_|refine Ji ?_|refine JJ ?_|refine Jl ?_|refine Jx ?_|refine Jt ?_|refine Jb ?_ ?_|refine Jo ?_|intro hb
         · exfalso;rw [XA] at hb;simp at hb
         · exact LoopI.go (m-1) (by omega) ⟨i+1,_,out',lv',nt',by omega,htk (hfw.2 ⟨h8.1,h8.2,hks⟩),by rw [hs];exact hA',Zf ⟨rfl,rfl,Ze (Zc (n:=i+1) (by omega)),trivial⟩,rfl⟩
     · exfalso;rw [YA] at hb;simp at hb<;>omega
   · have hnf := hnot (by rw [← Bool.not_eq_true, hfw]; rintro ⟨h1, h2, -⟩; exact h8 ⟨h1, h2⟩)
     obtain ⟨kd,nu,ro,an,ag,go,tn,te⟩:=x
     simp only [Mo.cells] at hj h8
     rw [hnf]
     repeat' first|refine Jk ?_|refine JA ?_|refine Ji ?_|refine JJ ?_|refine Jl ?_|refine Jx ?_|refine Jt ?_|refine Jb ?_ ?_|refine Jo ?_|intro hb
     all_goals first
      | rfl
      | (exfalso;rw [YA] at hb;simp at hb<;>omega)
      | skip
     rename_i hb0
     exfalso
     rw [XA] at hb0
     rw [Zb] at hb
     simp at hb hb0
     omega
 · have e : i = l.length := by omega
   subst e
   rw [List.take_length] at hA hF
   have hsl:=Zbx hF
   have hc:∀ H,CallOk E0 Tryz.prog 13 [slV true 4 (Za (l.flatMap (·.terms))),.int .i64 1000,.int .i64 800] H (.bool (Zha (l.flatMap (·.terms)) 1000 800)) H:=
    c13 (fun t ht=>by
     obtain ⟨m,hm,ht⟩:=List.mem_flatMap.1 ht
     exact (hok m hm).ts t ht) (by unfold maxLen;omega) true (by omega) (by omega)
   have hr:Qf l=Zha (l.flatMap (·.terms)) 1000 800:=by
    unfold Qf
    rw [if_neg (by omega),if_pos (List.all_eq_true.2 hF)]
   rw [hr]
   have hc2:∀ H,CallOk E0 Tryz.prog 13 [out,.int .i64 1000,.int .i64 800] H (.bool (Zha (l.flatMap (·.terms)) 1000 800)) H:=fun H=>
    Wd (hc hNil) (by simp only [ZP,hA.frzG];rfl) rfl H
   repeat' first|refine Jk ?_|refine Jc (hc2 _) ?_|refine JA ?_|refine Ji ?_|refine JJ ?_|refine Jl ?_|refine Jx ?_|refine Jt ?_|refine Jb ?_ ?_|refine Jo ?_|intro hb
   all_goals first
    | (exfalso;rw [YA] at hb;simp at hb;done)
    | (rw [hb];done)
theorem Qi:∀ (l:List Tm) (n:Int),Zg5 l n=true→∀ t,t∈l→(t.size:Int)≤n
 | [],_,_,t,ht=>absurd ht (by simp)
 | a :: r, n, h, t, ht => by
   simp only [Zg5] at h
   split at h
   · cases h
   · rename_i hb
     have:=a.budget_eq n (by omega)
     rcases List.mem_cons.1 ht with rfl|ht
     · omega
     · have:=Qi r _ h t ht;omega
theorem fewMo_size {l:List Mo} (h:Qf l=true):l.length≤420∧(∀ m,m∈l→Zg8 m=true)∧∀ m,m∈l→∀ t,t∈m.terms→t.size<4611686018427387904:=by
 unfold Qf at h
 split at h
 · cases h
 · split at h
   · rename_i h1 h2
     refine ⟨by omega,List.all_eq_true.1 h2,fun m hm t ht=>?_⟩
     unfold Zha at h
     split at h
     · cases h
     · have := Qi _ _ h t (List.mem_flatMap.2 ⟨m, hm, ht⟩)
       omega
   · cases h
end Go.Vm.Seat
namespace Go.Vm
variable {α:Type} {i:Nat}
theorem Zat {f u:Int} (hf:0≤f∧f≤9) (hu:0≤u∧u≤9) {s:Bs} (hs:s.length≤40):(nmP f u s).length≤41:=by
 have a1:(Lib.itoa (Yo f u f)).length=1:=by
  have:=U5 hf hu hf
  rw [WG this.1 this.2];rfl
 have a2:(Lib.itoa (Yo f u u)).length=1:=by
  have:=U5 hf hu hu
  rw [WG this.1 this.2];rfl
 have h:=List.length_take (i:=(Ym s).toNat+1) (l:=s)
 unfold nmP
 split
 · omega
 · split
   · rw [List.length_append];omega
   · split
     · rw [List.length_append];omega
     · omega
theorem ZfH {g:Bs→Bs} (hg:∀ s:Bs,s.length≤40→(g s).length≤41) {t:Tm} (ht:t.Ok):t.nb=true→(t.xt g).Ok:=by
 induction ht with
 | @mk k nm s b kz hk hs hn hl hok ih=>
 intro hnb
 rw [Tm.nb,Bool.and_eq_true,decide_eq_true_eq] at hnb
 have h2:=ZaG hnb.2
 rw [Tm.xt,U2]
 refine .mk hk hs ?_ (by rw [List.length_map];exact hl) fun z hz=>?_
 · have := hg nm hnb.1
   split
   · exact Nat.le_trans this (by decide)
   · exact hn
 · obtain ⟨x, hx, rfl⟩ := List.mem_map.1 hz
   exact ih x hx (h2 x hx)
mutual
theorem V4 (g:Bs→Bs):∀ t:Tm,(t.xt g).size=t.size
 | .mk k nm s b kz=>by rw [Tm.xt,Tm.size,Tm.size,ZdH g kz]
theorem ZdH (g:Bs→Bs):∀ l:List Tm,Zl (xtL g l)=Zl l
 | []=>rfl
 |t::r=>by rw [xtL,Zl,Zl,V4 g t,ZdH g r]
end
theorem ZT (l:List α) (x:α):(l++ [x])[l.length]? = some x:=by
 rw [List.getElem?_append_right (Nat.le_refl _),Nat.sub_self];rfl
theorem Zi {l:List α} {x y:α} (h:l[i]? = some y):(l++ [x])[i]? = some y:=by
 rw [List.getElem?_append_left (Zu h)];exact h
theorem Z1 {l:List α} {y z:α} (h:l[i]? = some z):(l.set i y)[i]? = some y:=List.getElem?_set_self (Zu h)
theorem Z8 {l:List α} {y z:α} {j:Nat} (hij:i≠j) (h:l[j]? = some z):(l.set i y)[j]? = some z:=by
 rw [List.getElem?_set_ne hij];exact h
structure TrOk (l:List Mo):Prop where
 len:l.length≤420
 tl:∀ m,m∈l→m.terms.length≤14
 ts:∀ m,m∈l→∀ t,t∈m.terms→t.Ok∧t.nb=true∧t.size≤1000
end Go.Vm
namespace Go.Vm.Seat
variable {b bx:List Box} {i j len off p:Nat} {x:Tm} {L:List Mo} {cs:List (List PV)} {c:List PV} {av tv v:PV} {go kd nu ro:Int} {tn:Bool} {ts:List Tm}
open Go.Proofs
theorem Ul (h:b[p]? = some (.cells 4 [x.cells])):YB E0 34 (.ptr p 4 0 0) ⟨b,0,[],0⟩=some (.agg x.cells):=by
 obtain ⟨k,nm,s,f,kz⟩:=x
 exact Zaa rfl rfl (el:=[(Tm.mk k nm s f kz).cells]) ((Zn _ _).trans h) rfl rfl
theorem ZnA {y:Tm} (h:b[p]? = some (.cells 4 [x.cells])):Heap.wr ⟨b,0,[],0⟩ (.ptr p 4 0 0) y.cells=some ⟨b.set p (.cells 4 [y.cells]),0,[],0⟩:=by
 obtain ⟨k,nm,s,f,kz⟩:=x
 obtain ⟨k',nm',s',f',kz'⟩:=y
 have:=ZbX (H:=⟨b,0,[],0⟩) (id:=p) (es:=4) (ix:=0) (off:=0) (el:=[(Tm.mk k nm s f kz).cells]) (cs:=(Tm.mk k' nm' s' f' kz').cells) ((Zn _ _).trans h) rfl (Nat.le_refl 4) (Nat.zero_le _)
 rw [this]
 simp [Tm.cells]
theorem ZiE {L:List Tm} {t u:Tm} (h:b[p]? = some (.cells 4 (Za L))) (hj:L[j]? = some u):Heap.wr ⟨b,0,[],0⟩ (.ptr p 4 j 0) t.cells=some ⟨b.set p (.cells 4 (Za (L.set j t))),0,[],0⟩:=
 Zlf (H:=⟨b,0,[],0⟩) ((Zn _ _).trans h) hj (Nat.zero_le _)
theorem ZaR {f u:Int} (h:b[0]? = some (.cells 2 [[.int .i64 f,.int .i64 u]])):YB E0 46 (.ptr 0 2 0 0) ⟨b,0,[],0⟩=some (.agg [.int .i64 f,.int .i64 u]):=
 Zaa rfl rfl ((Zn _ _).trans h) rfl rfl
def mcl (kd nu ro:Int) (av:PV) (go:Int) (tv:PV):List PV:=[.int .i64 kd,.int .i64 nu,.int .i64 ro,av,.int .i64 go,tv]
def zcM:List PV:=[.int .i64 0,.int .i64 0,.int .i64 0,.nils,.int .i64 0,.nils]
theorem Zlw {v:Int} (h:b[p]? = some (.cells 6 cs)) (hc:cs[i]? = some c) (hv:c[off]? = some (.int .i64 v)):YB E0 3 (.ptr p 6 i off) ⟨b,0,[],0⟩=some (.int .i64 v):=
 Zec (ti:=⟨.int .i64,1,8,.int .i64 0⟩) rfl rfl ((Zn _ _).trans h) ((Zn _ _).trans hc) ((Zn _ _).trans hv)
theorem Qv (h:b[p]? = some (.cells 6 cs)) (hc:cs[i]? = some c) (hv:c[off]? = some v):YB E0 29 (.ptr p 6 i off) ⟨b,0,[],0⟩=some v:=
 Zec (ti:=⟨.slice 34,1,24,.nils⟩) rfl rfl ((Zn _ _).trans h) ((Zn _ _).trans hc) ((Zn _ _).trans hv)
theorem Znq {nu':Int} (h:b[1]? = some (.cells 6 cs)) (hc:cs[i]? = some (mcl kd nu ro av go tv)):Heap.wr ⟨b,0,[],0⟩ (.ptr 1 6 i 1) [.int .i64 nu']=some ⟨b.set 1 (.cells 6 (cs.set i (mcl kd nu' ro av go tv))),0,[],0⟩:=by
 rw [ZbX (H:=⟨b,0,[],0⟩) ((Zn _ _).trans h) ((Zn _ _).trans hc) (by simp [mcl]) (Nat.zero_le _)]
 rfl
theorem ZkC {tv':PV} (h:b[1]? = some (.cells 6 cs)) (hc:cs[i]? = some (mcl kd nu ro av go tv)):Heap.wr ⟨b,0,[],0⟩ (.ptr 1 6 i 5) [tv']=some ⟨b.set 1 (.cells 6 (cs.set i (mcl kd nu ro av go tv'))),0,[],0⟩:=by
 rw [ZbX (H:=⟨b,0,[],0⟩) ((Zn _ _).trans h) ((Zn _ _).trans hc) (by simp [mcl]) (Nat.zero_le _)]
 rfl
theorem ZjQ (b:List Box) (kd nu ro go:Int) (av tv:PV):Heap.wr ⟨b++ [.cells 6 [zcM]],0,[],0⟩ (.ptr b.length 6 0 0) (mcl kd nu ro av go tv)=some ⟨b++ [.cells 6 [mcl kd nu ro av go tv]],0,[],0⟩:=by
 have h:=ZbX (H:=⟨b++ [.cells 6 [zcM]],0,[],0⟩) (id:=b.length) (es:=6) (ix:=0) (off:=0) (el:=[zcM]) (cs:=mcl kd nu ro av go tv) (old:=zcM) (Vc _ _) rfl (Nat.le_refl 6) (Nat.zero_le _)
 rw [h]
 simp [mcl,zcM]
theorem Zl4 {id:Nat} (hj:j<len):ZB E0 22 (.own id 6 0 len) (.int .i64 (j:Int))=some (.ptr id 6 j 0):=by
 have:ZB E0 22 (.own id 6 0 len) (.int .i64 (j:Int))=some (.ptr id 6 (0+j) 0):=ZfB rfl rfl rfl rfl hj
 rwa [Nat.zero_add] at this
theorem Zk2 {id:Nat} (hj:j<len):ZB E0 29 (.own id 4 0 len) (.int .i64 (j:Int))=some (.ptr id 4 j 0):=by
 have:=Zlb (id:=id) (ix:=0) hj
 rwa [Nat.zero_add] at this
theorem ZdB:∀ l:List Mo,Yc (moC l)=some (moC l)
 | []=>rfl
 | ⟨kd, nu, ro, an, ag, go, tn, te⟩ :: l => by
   have:=ZdB l
   unfold moC at this ⊢
   simp only [List.map_cons,Yc,this,Mo.cells,Uq,Yq]
   rfl
theorem ZfQ {l:List Mo} (h:l≠ []) (b:Bool):slV b 6 (moC l)= .sl .none 6 (moC l):=by
 cases l with
 |nil=>exact absurd rfl h
 | cons a r =>
   obtain ⟨kd,nu,ro,an,ag,go,tn,te⟩:=a
   exact Zp _ _ _ _
theorem Zla (hL:L≠ []) (hl:L.length≤1000) (H:Heap):ZO E0 22 22 (.sl .full 6 []) (.sl .none 6 (moC L)) H=some (.own H.bx.length 6 0 L.length,H.push (.cells 6 (moC L))):=by
 have he:=Z7 (s:= .sl .full 6 []) ZdU (ElV.slV true 6 (moC L)) (ZdV _) rfl rfl H
 rw [ZfQ hL] at he
 have hn:=YA L
 cases hE:moC L with
 |nil=>rw [hE] at hn;exact absurd (List.length_eq_zero_iff.1 hn.symm) hL
 | cons y yr =>
   rw [hE] at hn he
   simp only [ZO,he,YQ,List.nil_append]
   rw [if_pos (ZX (by rw [hn];simp;omega) (by decide))]
   simp only [List.length_nil,Nat.zero_add]
   rw [hn]
theorem ZjZ (hL:L≠ []) (hl:L.length≤1000):CallOk E0 Tryz.prog 8 [.sl .none 6 (moC L)] hNil (.own 0 6 0 L.length) ⟨[.cells 6 (moC L)],0,[],0⟩:=by
 have hap:=Zla hL hl hNil
 refine Yy (own:=fun d=>Nat.beq d 7) tOk fe8.ok ?_
 refine Wp.seq ?_
 repeat' first|refine Js ?_|refine JA ?_|refine Jt ?_|refine Jb ?_ ?_|refine Jo ?_|intro hb
 refine ZlF rfl rfl rfl rfl rfl hap ?_
 repeat' first|refine Js ?_|refine JA ?_|refine Jt ?_|refine Jb ?_ ?_|refine Jo ?_|intro hb
 all_goals exact RetE.ret rfl rfl rfl
theorem Zku (hL:L≠ []) (hl:L.length≤1000) (H:Heap):CallOk E0 Tryz.prog 8 [.sl .none 6 (moC L)] H (.own H.bx.length 6 0 L.length) {H with bx:=H.bx++ [.cells 6 (moC L)]}:=
 (ZjZ hL hl).slot (L:=[]) (k:=0) (B:= .cells 6 (moC L)) (j:=0) (.inl rfl) (fun g g0 l hS _ x=>ZbR hS rfl x) (.inr ⟨6,moC L,[],rfl,by simp,ZdB L⟩) (fun g1 g2 v hS hs x=>VD hs.1 hs.2 x)
def TV (bx:List Box) (tn:Bool) (ts:List Tm) (v:PV):Prop:=(ts= []∧v=slV tn 4 [])∨(ts≠ []∧∃ k,v= .own k 4 0 ts.length∧bx[k]? = some (.cells 4 (Za ts)))
def MoW (bx:List Box) (m:Mo) (c:List PV):Prop:=∃ tv,TV bx m.tn m.terms tv∧c=mcl m.kind m.num m.role (slV m.an 1 (Xk m.agents)) m.goal tv
theorem TV.mono {bx':List Box} (h:TV bx tn ts v) (h1:bx[1]? = some (.cells 6 cs)) (hk:∀ k,k<bx.length→k≠1→bx'[k]? = bx[k]?):TV bx' tn ts v:=by
 rcases h with h|⟨h2,k,h3,h4⟩
 · exact .inl h
 · refine .inr ⟨h2, k, h3, ?_⟩
   rw [hk k (Zu h4) fun e=>?_]
   · exact h4
   · subst e
     rw [h1] at h4
     cases h4
theorem MoW.mono {bx bx':List Box} {cs:List (List PV)} {m:Mo} {c:List PV} (h:MoW bx m c) (h1:bx[1]? = some (.cells 6 cs)) (hk:∀ k,k<bx.length→k≠1→bx'[k]? = bx[k]?):MoW bx' m c:=by
 obtain ⟨tv,a,b⟩:=h
 exact ⟨tv,a.mono h1 hk,b⟩
theorem WL (m:Nat) (H:Heap) (b:Bool) (es:Nat) (el:List (List PV)):frzC m H (slV b es el)=some (slV b es el):=by
 cases el with
 | nil =>
   cases b
   · rw [Zq];rfl
   · rw [Zk];rfl
 |cons c r=>rw [Zp];rfl
theorem TV.frz (h:TV bx tn ts v):frzC 0 ⟨bx,0,[],0⟩ v=some (slV tn 4 (Za ts)):=by
 rcases h with ⟨rfl,rfl⟩|⟨h2,k,rfl,h4⟩
 · exact WL _ _ _ _ _
 · have hn : nth bx k = some (.cells 4 (Za ts)) := (Zn _ _).trans h4
   simp only [frzC,Nat.not_lt_zero,if_false,hn]
   rw [if_pos ⟨trivial,by rw [Zb];omega⟩,List.drop_zero, ← Zb ts,List.take_length,XR,QY h2]
theorem MoW.frz {bx:List Box} {m:Mo} {c:List PV} (h:MoW bx m c):X4 0 ⟨bx,0,[],0⟩ c=some m.cells:=by
 obtain ⟨tv,a,rfl⟩:=h
 have ha:=a.frz
 have h3:=WL 0 ⟨bx,0,[],0⟩ m.an 1 (Xk m.agents)
 simp only [mcl,X4,ha,h3]
 rfl
