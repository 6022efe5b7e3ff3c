/-
  Traces that are the same but for nil-ness; the statement's function of EventRena
-/
import Derived.Test.YtnnfkocifnflgaaGreatDoorOz
import Derived.Test.YtnnfkocifnflgaaGreatDoorPc
set_option maxHeartbeats 0
set_option maxRecDepth 100000
namespace Go.Vm
def Zm0 (h:Tm→Tm) (f u:Int) (l:List Mo):List Mo:=if f<0∨9<f∨u<0∨9<u then l else l.map (·.rn f u h)
end Go.Vm
namespace Go.Vm.Seat
open Go.Proofs
theorem c7 {l:List Mo} (hl:TrOk l) (f u:Int) (b:Bool):∀ H,CallOk E0 Tryz.prog 7 [slV b 6 (moC l),.int .i64 f,.int .i64 u] H (slV b 6 (moC (Zm0 (rnP f u) f u l))) H:=by
 unfold Zm0
 by_cases h:f<0∨9<f∨u<0∨9<u
 · rw [if_pos h]
   exact Zpa h l b
 · rw [if_neg h]
   have hf:0≤f∧f≤9:=by omega
   have hu:0≤u∧u≤9:=by omega
   by_cases hne:l= []
   · subst hne
     exact Zoz hf hu b
   · obtain ⟨cs, bx, h1, h2, h3, h4⟩ := Zo4 hf hu hl hne b
     have hne2:l.map (·.rn f u (rnP f u))≠ []:=fun e=>hne (by simpa using e)
     rw [ZfQ hne2 b]
     rw [← h2] at h1
     intro H
     refine ZcK h1 (by simp only [ZP,Xd];rfl) h3 (by rw [YA,List.length_map,h2]) (fun i q1 q2=>?_) H
     obtain ⟨m,hm⟩:∃ m,l[i]? = some m:=⟨l[i]'(by omega),by simp⟩
     have:=(h4 i m cs[i] hm (by simp)).frz
     rw [this]
     congr 1
     have hg:(moC (l.map (·.rn f u (rnP f u))))[i]? = some ((m.rn f u (rnP f u)).cells):=WD (by rw [List.getElem?_map,hm];rfl)
     rw [List.getElem?_eq_getElem q2] at hg
     exact (Option.some.inj hg).symm
end Go.Vm.Seat
namespace Go.Vm
variable {t:Tm}
mutual
theorem Zcb:∀ (t:Tm) (n:Int),0≤t.budget n→t.nb=true
 | .mk k nm s b kz, n, h => by
   rw [Tm.budget] at h
   split at h
   · exact absurd h (by decide)
   · rename_i h1
     rw [Tm.nb,Q9 kz (n-1) h,decide_eq_true (by omega)]
     rfl
theorem Q9:∀ (l:List Tm) (n:Int),0≤Xg l n→nbL l=true
 | [],n,_=>rfl
 | t :: r, n, h => by
   rw [Xg] at h
   split at h
   · exact absurd h (by decide)
   · rename_i h1
     rw [nbL,Zcb t n (by omega),Q9 r _ h]
     rfl
end
theorem Zix:∀ (l:List Tm) (n:Int),Zg5 l n=true→∀ t,t∈l→t.nb=true
 | [],_,_,t,ht=>absurd ht (by simp)
 | a :: r, n, h, t, ht => by
   simp only [Zg5] at h
   split at h
   · cases h
   · rename_i hb
     rcases List.mem_cons.1 ht with rfl|ht
     · exact Zcb t n (by omega)
     · exact Zix r _ h t ht
theorem Zme {c:Bool} (ht:t.Ok) (h:(t.nf c).2=0):(t.nf c).1.Ok∧(t.nf c).1.size≤400:=by
 revert h
 unfold Tm.nf
 split
 · rename_i h1;intro h;exact absurd h h1
 rename_i h1
 split
 · rename_i h2;intro h;exact absurd h h2
 rename_i h2
 split
 · rename_i h3;intro h;exact absurd h h3
 split
 · rename_i h4;intro h;exact absurd h h4
 rename_i h4
 intro _
 have hs:=Y7 (Classical.not_not.1 h1)
 exact ⟨cls_ok.nrm t (Classical.not_not.1 h2) (by omega) ht,Y7 (Classical.not_not.1 h4)⟩
theorem ZkG {g:Bs→Bs} (hg:∀ s:Bs,s.length≤40→(g s).length≤41) (c:Bool) (ht:t.Ok∧t.nb=true∧t.size≤1000):(t.rn g c).Ok∧(t.rn g c).size≤1000:=by
 have hx:=ZfH hg ht.1 ht.2.1
 have hs:=V4 g t
 unfold Tm.rn
 split
 · rename_i h
   have:=Zme hx h.2
   exact ⟨this.1,by omega⟩
 · exact ⟨hx,by omega⟩
end Go.Vm
namespace Go.Vm.Seat
variable {l:List Mo}
open Go.Proofs
theorem tr_ok {l:List Mo} (hok:∀ m,m∈l→m.Ok) (h:Qf l=true):TrOk l:=by
 obtain ⟨h1,h2, -⟩:=fewMo_size h
 refine ⟨h1,fun m hm=>(fewM_lens.1 (h2 m hm)).2.1,fun m hm t ht=>?_⟩
 unfold Qf at h
 rw [if_neg (by omega),if_pos (List.all_eq_true.2 h2)] at h
 unfold Zha at h
 split at h
 · cases h
 · have hmem : t ∈ l.flatMap (·.terms) := List.mem_flatMap.2 ⟨m, hm, ht⟩
   have a1:=Qi _ _ h t hmem
   exact ⟨(hok m hm).ts t ht,Zix _ _ h t hmem,by omega⟩
theorem Zlx {l m:List Tm} (hl:∀ t,t∈l→t.Ok∧t.size≤200000) (hm:∀ t,t∈m→t.Ok∧t.size≤200000) (hll:l.length≤1000000) (he:l.map Tm.cl=m.map Tm.cl) (b c:Bool):∀ H,CallOk E0 Tryz.prog 14 [slV b 4 (Za l),slV c 4 (Za m)] H (.bool true) H:=by
 have hlm:l.length=m.length:=by simpa using congrArg List.length he
 have g1':=Zb l
 have g2':=Zb m
 have hn:=UA ((Za l).length:Int) ((Za m).length:Int)
 rw [decide_eq_true (by omega),Bool.not_true] at hn
 refine Jw tOk fe14.ok rfl ?_
 repeat' first|refine Ji ?_|refine JJ ?_|refine Jl ?_|refine Jx ?_|refine Jt ?_|refine Jb ?_ ?_|refine Jo ?_|refine JD ?_|refine JK ?_|(apply dLn;rfl;rfl;rfl;rfl;rfl)|refine JI ?_|(apply dT (ty:=4);rfl;rfl;rfl;rfl)|(apply dF (ty:=4);rfl;rfl;rfl;rfl)|(apply dB (ty:=4);rfl;rfl;rfl;rfl)|refine Jh ?_|(apply Wp.draw tOk follows;kernel_rfl)|intro hb
 refine Wp.while (fun k tm H=>∃ (i:Nat) (base:TM),i+k=l.length∧tm=ovr base [(0,slV b 4 (Za l)),(1,slV c 4 (Za m)),(5,.int .i64 (i:Int))]∧H=⟨[],0,[],0⟩)
  (fun k tm H hI=>?_) l.length _ _ ⟨0,_,by omega,Zf ⟨rfl,rfl,rfl,trivial⟩,rfl⟩
 obtain ⟨i,base,hi,rfl,rfl⟩:=hI
 by_cases hlt:i<l.length
 · obtain ⟨t', ht'⟩ : ∃ t', l[i]? = some t' := ⟨l[i], by simp⟩
   obtain ⟨u',hu'⟩:∃ u',m[i]? = some u':=⟨m[i]'(by omega),by simp⟩
   have hc:=Zcg (hl t' (List.mem_of_getElem? ht')) (hm u' (List.mem_of_getElem? hu'))
   have hcl:t'.cl=u'.cl:=by
    have:=congrArg (·[i]?) he
    simpa [ht',hu'] using this
   rw [decide_eq_true (Vl.2 hcl)] at hc
   have hlx:=Zt (i:Int) ((Za l).length:Int)
   rw [decide_eq_true (by omega)] at hlx
   clear hcl
   obtain ⟨k',nm',s',b',kz'⟩:=t'
   obtain ⟨k2,nm2,s2,b2,kz2⟩:=u'
   have hj1:=Zh ht'
   have hj2:=Zh hu'
   simp only [Tm.cells] at hc
   repeat' first|refine Jc (hc _) ?_|refine Ji ?_|refine JJ ?_|refine Jl ?_|refine Jx ?_|refine Jt ?_|refine Jb ?_ ?_|refine Jo ?_|refine Jd (hc _) ?_|refine JD ?_|refine JK ?_|(apply dLn;rfl;rfl;rfl;rfl;rfl)|refine JI ?_|(apply dT (ty:=4);rfl;rfl;rfl;rfl)|(apply dF (ty:=4);rfl;rfl;rfl;rfl)|(apply dB (ty:=4);rfl;rfl;rfl;rfl)|refine Jh ?_|(apply Wp.draw tOk follows;kernel_rfl)|intro hb
   exact LoopI.go (k-1) (by omega) ⟨i+1,_,by omega,Zf ⟨rfl,rfl,Ze (Zc (n:=i+1) (by omega)),trivial⟩,rfl⟩
 · have e : i = l.length := by omega
   subst e
   have hlx:=Zt (l.length:Int) ((Za l).length:Int)
   rw [decide_eq_false (by omega)] at hlx
   repeat' first|refine Ji ?_|refine JJ ?_|refine Jl ?_|refine Jx ?_|refine Jt ?_|refine Jb ?_ ?_|refine Jo ?_|refine JD ?_|refine JK ?_|(apply dLn;rfl;rfl;rfl;rfl;rfl)|refine JI ?_|(apply dT (ty:=4);rfl;rfl;rfl;rfl)|(apply dF (ty:=4);rfl;rfl;rfl;rfl)|(apply dB (ty:=4);rfl;rfl;rfl;rfl)|refine Jh ?_|(apply Wp.draw tOk follows;kernel_rfl)|intro hb
   all_goals rfl
structure MoP (x y:Mo):Prop where
 s:x.same y
 tx:∀ t,t∈x.terms→t.Ok∧t.size≤200000
 ty:∀ t,t∈y.terms→t.Ok∧t.size≤200000
 tl:x.terms.length≤1000
 al:x.agents.length≤1000
theorem Zl7 {A B:List Mo} (hA:A.length≤420) (hlm:A.length=B.length) (hp:∀ (i:Nat) x y,A[i]? = some x→B[i]? = some y→MoP x y) (b c:Bool):∀ H,CallOk E0 Tryz.prog 6 [slV b 6 (moC A),slV c 6 (moC B)] H (.bool true) H:=by
 have g1':=YA A
 have g2':=YA B
 have hn:=UA ((moC A).length:Int) ((moC B).length:Int)
 rw [decide_eq_true (by omega),Bool.not_true] at hn
 refine Jw tOk fe6.ok rfl ?_
 repeat' first|refine Jk ?_|refine Ji ?_|refine JJ ?_|refine Jl ?_|refine Jx ?_|refine Jt ?_|refine Jb ?_ ?_|refine Jo ?_|(apply dK;rfl;rfl;rfl)|refine JD ?_|refine JK ?_|(apply dLn;rfl;rfl;rfl;rfl;rfl)|refine JI ?_|(apply dT (ty:=4);rfl;rfl;rfl;rfl)|(apply dF (ty:=4);rfl;rfl;rfl;rfl)|(apply dB (ty:=4);rfl;rfl;rfl;rfl)|refine Jh ?_|(apply Wp.draw tOk follows;kernel_rfl)|intro hb
 refine Wp.while (fun m tm H => ∃ (i : Nat) (base : TM), i + m = A.length ∧
   tm=ovr base [(0,slV b 6 (moC A)),(1,slV c 6 (moC B)),(5,.int .i64 (i:Int))]∧H=hNil)
  (fun m tm H hI=>Wp.drop ?_) A.length _ _ ⟨0,_,by omega,Zf ⟨rfl,rfl,rfl,trivial⟩,rfl⟩
 obtain ⟨i,base,hi,rfl,rfl⟩:=hI
 by_cases hlt:i<A.length
 · obtain ⟨x, hx⟩ : ∃ x, A[i]? = some x := ⟨A[i], by simp⟩
   obtain ⟨y,hy⟩:∃ y,B[i]? = some y:=⟨B[i]'(by omega),by simp⟩
   obtain ⟨hs,htx,hty,htl,hal⟩:=hp i x y hx hy
   obtain ⟨p1,p2,p3,p4,p5,p6⟩:=hs
   have hc:=Zlx htx hty (by omega) p6 x.tn y.tn
   have hj:=WD hx
   have hj2:=WD hy
   have hlx:=Zt (i:Int) ((moC A).length:Int)
   rw [decide_eq_true (by omega)] at hlx
   obtain ⟨kd,nu,ro,an,ag,go,tn,te⟩:=x
   obtain ⟨kd2,nu2,ro2,an2,ag2,go2,tn2,te2⟩:=y
   simp only at p1 p2 p3 p4 p5
   subst p1 p2 p3 p4 p5
   simp only [Mo.cells] at hj hj2 hc hal
   clear p6 htx hty hp
   have r1:=UA kd kd
   have r2:=UA nu nu
   have r3:=UA ro ro
   have r4:=UA go go
   have r5:=UA ((Xk ag).length:Int) ((Xk ag).length:Int)
   rw [decide_eq_true rfl,Bool.not_true] at r1 r2 r3 r4 r5
   have hsl:=XA ag
   repeat' first|refine Jk ?_|refine Jc (hc _) ?_|refine Ji ?_|refine JJ ?_|refine Jl ?_|refine Jx ?_|refine Jt ?_|refine Jb ?_ ?_|refine Jo ?_|(apply dK;rfl;rfl;rfl)|refine Jd (hc _) ?_|refine JD ?_|refine JK ?_|(apply dLn;rfl;rfl;rfl;rfl;rfl)|refine JI ?_|(apply dT (ty:=4);rfl;rfl;rfl;rfl)|(apply dF (ty:=4);rfl;rfl;rfl;rfl)|(apply dB (ty:=4);rfl;rfl;rfl;rfl)|refine Jh ?_|(apply Wp.draw tOk follows;kernel_rfl)|intro hb
   refine Wp.while (fun m2 tm H => ∃ (k : Nat) (base : TM), k + m2 = ag.length ∧
         tm=ovr base [(0,slV b 6 (moC A)),(1,slV c 6 (moC B)),(5,.int .i64 (i:Int)),(6,.ptr 0 6 0 0),(7,.ptr 1 6 0 0),(8,.int .i64 (k:Int))]∧
         H=⟨[.cells 6 [[.int .i64 kd,.int .i64 nu,.int .i64 ro,slV an 1 (Xk ag),.int .i64 go,slV tn 4 (Za te)]],.cells 6 [[.int .i64 kd,.int .i64 nu,.int .i64 ro,slV an2 1 (Xk ag),.int .i64 go,slV tn2 4 (Za te2)]]],0,[],0⟩)
     (fun m2 tm H hI=>?_) ag.length _ _ ⟨0,_,by omega,Zf ⟨rfl,rfl,rfl,rfl,rfl,rfl,trivial⟩,rfl⟩
   obtain ⟨k,base,hk2,rfl,rfl⟩:=hI
   by_cases hlk:k<ag.length
   · obtain ⟨z, hz⟩ : ∃ z, ag[k]? = some z := ⟨ag[k], by simp⟩
     have hjz:=ZaL hz
     have hly:=Zt (k:Int) ((Xk ag).length:Int)
     rw [decide_eq_true (by omega)] at hly
     have r6:=Zkt z z
     rw [decide_eq_true rfl,Bool.not_true] at r6
     repeat' first|refine Jk ?_|refine Ji ?_|refine JJ ?_|refine Jl ?_|refine Jx ?_|refine Jt ?_|refine Jb ?_ ?_|refine Jo ?_|(apply dK;rfl;rfl;rfl)|refine JD ?_|refine JK ?_|(apply dLn;rfl;rfl;rfl;rfl;rfl)|refine JI ?_|(apply dT (ty:=4);rfl;rfl;rfl;rfl)|(apply dF (ty:=4);rfl;rfl;rfl;rfl)|(apply dB (ty:=4);rfl;rfl;rfl;rfl)|refine Jh ?_|(apply Wp.draw tOk follows;kernel_rfl)|intro hb
     exact LoopI.go (m2-1) (by omega) ⟨k+1,_,by omega,Zf ⟨rfl,rfl,rfl,rfl,rfl,Ze (Zc (n:=k+1) (by omega)),trivial⟩,rfl⟩
   · have e : k = ag.length := by omega
     subst e
     have hly:=Zt (ag.length:Int) ((Xk ag).length:Int)
     rw [decide_eq_false (by omega)] at hly
     repeat' first|refine Jk ?_|refine Ji ?_|refine JJ ?_|refine Jl ?_|refine Jx ?_|refine Jt ?_|refine Jb ?_ ?_|refine Jo ?_|(apply dK;rfl;rfl;rfl)|refine JD ?_|refine JK ?_|(apply dLn;rfl;rfl;rfl;rfl;rfl)|refine JI ?_|(apply dT (ty:=4);rfl;rfl;rfl;rfl)|(apply dF (ty:=4);rfl;rfl;rfl;rfl)|(apply dB (ty:=4);rfl;rfl;rfl;rfl)|refine Jh ?_|(apply Wp.draw tOk follows;kernel_rfl)|intro hb
     refine DropQ.go [(0,slV b 6 (moC A)),(1,slV c 6 (moC B)),(5,.int .i64 ((i+1:Nat):Int))] ?_ ?_ rfl rfl ?_
     · exact ⟨rfl,rfl,Ze (Zc (n:=i+1) (by omega)),trivial⟩
     · simp [Zj,under]
     · exact LoopI.go (m-1) (by omega) ⟨i+1,_,by omega,rfl,rfl⟩
 · have e : i = A.length := by omega
   subst e
   have hlx:=Zt (A.length:Int) ((moC A).length:Int)
   rw [decide_eq_false (by omega)] at hlx
   repeat' first|refine Jk ?_|refine Ji ?_|refine JJ ?_|refine Jl ?_|refine Jx ?_|refine Jt ?_|refine Jb ?_ ?_|refine Jo ?_|(apply dK;rfl;rfl;rfl)|refine JD ?_|refine JK ?_|(apply dLn;rfl;rfl;rfl;rfl;rfl)|refine JI ?_|(apply dT (ty:=4);rfl;rfl;rfl;rfl)|(apply dF (ty:=4);rfl;rfl;rfl;rfl)|(apply dB (ty:=4);rfl;rfl;rfl;rfl)|refine Jh ?_|(apply Wp.draw tOk follows;kernel_rfl)|intro hb
   all_goals rfl
theorem ZjK {f u:Int} (hf:0≤f∧f≤9) (hu:0≤u∧u≤9) (hl:TrOk l) (hfm:∀ m,m∈l→Zg8 m=true) (i:Nat) (x y:Mo) (hx:(l.map (·.rn f u (rnP f u)))[i]? = some x) (hy:(l.map (Mo.rnT f u))[i]? = some y):MoP x y:=by
 rw [List.getElem?_map] at hx hy
 cases hz:l[i]? with
 |none=>rw [hz] at hx;cases hx
 | some z =>
   rw [hz] at hx hy
   cases hx
   cases hy
   have hm:z∈l:=List.mem_of_getElem? hz
   have hts:=hl.ts z hm
   have hg:∀ s,nmP f u s=nmR f u s:=Zgm hf hu
   have hcl:∀ t,(rnP f u t).cl=(rnQ f u t).cl:=fun t=>by
    have e:nmP f u=nmR f u:=funext hg
    unfold rnP rnQ
    rw [e]
    exact ZjL (nmR f u) t
   refine ⟨⟨rfl,rfl,rfl,rfl,rfl,?_⟩,fun t ht=>?_,fun t ht=>?_,?_,?_⟩
   · show (z.terms.map (rnP f u)).map Tm.cl = (z.terms.map (rnQ f u)).map Tm.cl
     rw [List.map_map,List.map_map]
     exact List.map_congr_left fun t _=>hcl t
   · obtain ⟨v, hv, rfl⟩ := List.mem_map.1 (show t ∈ z.terms.map (rnP f u) from ht)
     have:=ZkG (g:=nmP f u) (fun s hs=>Zat hf hu hs) true (hts v hv)
     exact ⟨this.1,by have:=this.2;show (v.rn (nmP f u) true).size≤200000;omega⟩
   · obtain ⟨v, hv, rfl⟩ := List.mem_map.1 (show t ∈ z.terms.map (rnQ f u) from ht)
     have:=ZkG (g:=nmR f u) (fun s hs=>ZcS hf hu hs) false (hts v hv)
     exact ⟨this.1,by have:=this.2;show (v.rn (nmR f u) false).size≤200000;omega⟩
   · have := hl.tl z hm
     show (z.terms.map (rnP f u)).length≤1000
     rw [List.length_map];omega
   · have := (fewM_lens.1 (hfm z hm)).1
     show z.agents.length≤1000
     omega
theorem c3 (awakeOk : ∀ H, CallOk E0 Tryz.prog 4 [] H (.bool true) H) (hok : ∀ m, m ∈ l → m.Ok) (f u : Int) (b : Bool) :
  ∀ H,CallOk E0 Tryz.prog 3 [slV b 6 (moC l),.int .i64 f,.int .i64 u] H (.bool true) H:=by
 have hfew:=c5 hok b
 have hsz:=@fewMo_size l
 have htr:=@tr_ok l hok
 obtain ⟨F,hF⟩:∃ F,F=Qf l:=⟨_,rfl⟩
 rw [← hF] at hfew hsz htr
 refine Jw tOk fe3.ok rfl ?_
 cases F with
 | false =>
   repeat' first|refine Jk ?_|refine Jc (awakeOk _) ?_|refine Jc (hfew _) ?_|refine Jt ?_|refine Jb ?_ ?_|refine Jo ?_|intro hb
   all_goals rfl
 | true =>
   obtain ⟨hl,hfm,hts⟩:=hsz rfl
   have hT:=htr rfl
   have k1:=c8 (l:=l) (by omega) b
   have k2:=c7 hT f u b
   unfold Zm0 at k2
   by_cases h:f<0∨9<f∨u<0∨9<u
   · rw [if_pos h] at k2
     have k3:=rrO h l b
     have k4:=c6s hl hok hts b b
     repeat' first|refine Jk ?_|(apply qCl;rfl;rfl;rfl;rfl;first|exact awakeOk _|exact hfew _|exact k1 _|exact k2 _|exact k3 _|exact k4 _)|refine Jt ?_|refine Jb ?_ ?_|refine Jo ?_|intro hb
     all_goals rfl
   · rw [if_neg h] at k2
     have hf:0≤f∧f≤9:=by omega
     have hu:0≤u∧u≤9:=by omega
     have k3:=rrC hf hu hT b
     have k4:=Zl7 (A:=l.map (·.rn f u (rnP f u))) (B:=l.map (Mo.rnT f u)) (by rw [List.length_map];exact hl) (by rw [List.length_map,List.length_map]) (ZjK hf hu hT hfm) b true
     repeat' first|refine Jk ?_|(apply qCl;rfl;rfl;rfl;rfl;first|exact awakeOk _|exact hfew _|exact k1 _|exact k2 _|exact k3 _|exact k4 _)|refine Jt ?_|refine Jb ?_ ?_|refine Jo ?_|intro hb
     all_goals rfl
