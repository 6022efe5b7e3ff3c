/-
  Powers in the second text: a power is added to a list.
-/
import Derived.Test.YtnnfkocifnflgaaGreatDoorNf
set_option maxHeartbeats 0
set_option maxRecDepth 100000
namespace Go.Vm.Seat
variable {a t:Tm}
open Go.Proofs
theorem isR (t:Tm) (w:Bs):∀ H,CallOk E0 Tryz.prog 125 [.agg t.cells,.str w] H (.bool (isA t w)) H:=by
 obtain ⟨k,nm,s,b,kz⟩:=t
 have e:isF k nm w=isA (.mk k nm s b kz) w:=rfl
 rw [← e]
 exact Zpq k nm s b kz w
theorem Z5 (m:Nat) (H:Heap) (k:Int) (nm:Bs) (s:Int) (b:Bool) (l:List (List PV)) (x:Bool):frz3 m H (.tup [.agg [.int .i64 k,.str nm,.int .i64 s,slV b 4 l],.bool x])=some (.tup [.agg [.int .i64 k,.str nm,.int .i64 s,slV b 4 l],.bool x]):=by
 rw [Wb]
 simp only [VZ,frz2,X4,WL]
 rfl
theorem Zid (ha:a.okA=true) (b:Bool):∀ H,CallOk E0 Tryz.prog 78 [.agg (Tm.mk 3 Vb 0 b [a]).cells] H (.tup [.agg (Xc (.mk 3 Vb 0 b [a])).cells,.bool (isA a Xf)]) H:=by
 have hi:=isR a Xf
 have hd:Xc (.mk 3 Vb 0 b [a])=if isA a Xf=true then a.kd 0 else .mk 3 Vb 0 b [a]:=by
  unfold Xc Zbf
  simp [Zcn,Tm.nm,Tm.kd,Vb,WZ,WV,Yu,Ys,YI]
 rw [hd]
 cases hp:isA a Xf with
 | true =>
   rw [hp] at hi
   obtain ⟨b1,x,y,rfl⟩:=Y1 ha hp rfl
   rw [if_pos rfl]
   show ∀ H,CallOk E0 Tryz.prog 78 _ H (.tup [.agg (Tm.cells x),.bool true]) H
   obtain ⟨k1,n1,s1,f1,l1⟩:=x
   obtain ⟨k2,n2,s2,f2,l2⟩:=y
   simp only [Tm.cells,WN,QX,Vb,Xf] at hi ⊢
   refine Jw tOk fe78.ok (Z5 _ _ _ _ _ _ _ _) ?_
   repeat' first|refine Jk ?_|refine Jc (hi _) ?_|refine Js ?_|refine JJ ?_|refine Jx ?_|refine Jt ?_|refine Jb ?_ ?_|refine Jo ?_|(apply dK;rfl;rfl;rfl)|refine Jd (hi _) ?_|refine JB ?_|refine JK ?_|refine JI ?_|(apply dT (ty:=4);rfl;rfl;rfl;rfl)|(apply dF (ty:=4);rfl;rfl;rfl;rfl)|(apply dB (ty:=4);rfl;rfl;rfl;rfl)|refine Jh ?_|(apply Wp.draw tOk follows;kernel_rfl)|intro hb
   all_goals first
    | exact Z5 _ _ _ _ _ _ _ _
    | (exfalso;simp at hb;done)
 | false =>
   rw [hp] at hi
   rw [if_neg (by decide)]
   obtain ⟨k1,n1,s1,f1,l1⟩:=a
   simp only [Tm.cells,QX,Vb] at hi ⊢
   refine Jw tOk fe78.ok rfl ?_
   repeat' first|refine Jk ?_|refine Jc (hi _) ?_|refine Js ?_|refine JJ ?_|refine Jx ?_|refine Jt ?_|refine Jb ?_ ?_|refine Jo ?_|(apply dK;rfl;rfl;rfl)|refine Jd (hi _) ?_|refine JB ?_|refine JK ?_|refine JI ?_|(apply dT (ty:=4);rfl;rfl;rfl;rfl)|(apply dF (ty:=4);rfl;rfl;rfl;rfl)|(apply dB (ty:=4);rfl;rfl;rfl;rfl)|refine Jh ?_|(apply Wp.draw tOk follows;kernel_rfl)|intro hb
   all_goals first
    | rfl
    | (exfalso;simp at hb;done)
theorem ZhF (ha:a.okA=true) (b:Bool):∀ H,CallOk E0 Tryz.prog 78 [.agg (Tm.mk 3 WZ 0 b [a]).cells] H (.tup [.agg (Xc (.mk 3 WZ 0 b [a])).cells,.bool (isA a Xf)]) H:=by
 have hi:=isR a Xf
 have hd:Xc (.mk 3 WZ 0 b [a])=if isA a Xf=true then a.kd 1 else .mk 3 WZ 0 b [a]:=by
  unfold Xc Zbf
  simp [Zcn,Tm.nm,Tm.kd,Vb,WZ,WV,Yu,Ys,YI]
 rw [hd]
 cases hp:isA a Xf with
 | true =>
   rw [hp] at hi
   obtain ⟨b1,x,y,rfl⟩:=Y1 ha hp rfl
   rw [if_pos rfl]
   show ∀ H,CallOk E0 Tryz.prog 78 _ H (.tup [.agg (Tm.cells y),.bool true]) H
   obtain ⟨k1,n1,s1,f1,l1⟩:=x
   obtain ⟨k2,n2,s2,f2,l2⟩:=y
   simp only [Tm.cells,WN,QX,WZ,Xf] at hi ⊢
   refine Jw tOk fe78.ok (Z5 _ _ _ _ _ _ _ _) ?_
   repeat' first|refine Jk ?_|refine Jc (hi _) ?_|refine Js ?_|refine JJ ?_|refine Jx ?_|refine Jt ?_|refine Jb ?_ ?_|refine Jo ?_|(apply dK;rfl;rfl;rfl)|refine Jd (hi _) ?_|refine JB ?_|refine JK ?_|refine JI ?_|(apply dT (ty:=4);rfl;rfl;rfl;rfl)|(apply dF (ty:=4);rfl;rfl;rfl;rfl)|(apply dB (ty:=4);rfl;rfl;rfl;rfl)|refine Jh ?_|(apply Wp.draw tOk follows;kernel_rfl)|intro hb
   all_goals first
    | exact Z5 _ _ _ _ _ _ _ _
    | (exfalso;simp at hb;done)
 | false =>
   rw [hp] at hi
   rw [if_neg (by decide)]
   obtain ⟨k1,n1,s1,f1,l1⟩:=a
   simp only [Tm.cells,QX,WZ] at hi ⊢
   refine Jw tOk fe78.ok rfl ?_
   repeat' first|refine Jk ?_|refine Jc (hi _) ?_|refine Js ?_|refine JJ ?_|refine Jx ?_|refine Jt ?_|refine Jb ?_ ?_|refine Jo ?_|(apply dK;rfl;rfl;rfl)|refine Jd (hi _) ?_|refine JB ?_|refine JK ?_|refine JI ?_|(apply dT (ty:=4);rfl;rfl;rfl;rfl)|(apply dF (ty:=4);rfl;rfl;rfl;rfl)|(apply dB (ty:=4);rfl;rfl;rfl;rfl)|refine Jh ?_|(apply Wp.draw tOk follows;kernel_rfl)|intro hb
   all_goals first
    | rfl
    | (exfalso;simp at hb;done)
theorem Zgy (ha:a.okA=true) (b:Bool):∀ H,CallOk E0 Tryz.prog 78 [.agg (Tm.mk 3 YI 0 b [a]).cells] H (.tup [.agg (Xc (.mk 3 YI 0 b [a])).cells,.bool (isA a Y4)]) H:=by
 have hi:=isR a Y4
 have hd:Xc (.mk 3 YI 0 b [a])=if isA a Y4=true then a.kd 0 else .mk 3 YI 0 b [a]:=by
  unfold Xc Zbf
  simp [Zcn,Tm.nm,Tm.kd,Vb,WZ,WV,Yu,Ys,YI]
 rw [hd]
 cases hp:isA a Y4 with
 | true =>
   rw [hp] at hi
   obtain ⟨b1,x,y,rfl⟩:=Y1 ha hp rfl
   rw [if_pos rfl]
   show ∀ H,CallOk E0 Tryz.prog 78 _ H (.tup [.agg (Tm.cells x),.bool true]) H
   obtain ⟨k1,n1,s1,f1,l1⟩:=x
   obtain ⟨k2,n2,s2,f2,l2⟩:=y
   simp only [Tm.cells,WN,QX,YI,Y4] at hi ⊢
   refine Jw tOk fe78.ok (Z5 _ _ _ _ _ _ _ _) ?_
   repeat' first|refine Jk ?_|refine Jc (hi _) ?_|refine Js ?_|refine JJ ?_|refine Jx ?_|refine Jt ?_|refine Jb ?_ ?_|refine Jo ?_|(apply dK;rfl;rfl;rfl)|refine Jd (hi _) ?_|refine JB ?_|refine JK ?_|refine JI ?_|(apply dT (ty:=4);rfl;rfl;rfl;rfl)|(apply dF (ty:=4);rfl;rfl;rfl;rfl)|(apply dB (ty:=4);rfl;rfl;rfl;rfl)|refine Jh ?_|(apply Wp.draw tOk follows;kernel_rfl)|intro hb
   all_goals first
    | exact Z5 _ _ _ _ _ _ _ _
    | (exfalso;simp at hb;done)
 | false =>
   rw [hp] at hi
   rw [if_neg (by decide)]
   obtain ⟨k1,n1,s1,f1,l1⟩:=a
   simp only [Tm.cells,QX,YI] at hi ⊢
   refine Jw tOk fe78.ok rfl ?_
   repeat' first|refine Jk ?_|refine Jc (hi _) ?_|refine Js ?_|refine JJ ?_|refine Jx ?_|refine Jt ?_|refine Jb ?_ ?_|refine Jo ?_|(apply dK;rfl;rfl;rfl)|refine Jd (hi _) ?_|refine JB ?_|refine JK ?_|refine JI ?_|(apply dT (ty:=4);rfl;rfl;rfl;rfl)|(apply dF (ty:=4);rfl;rfl;rfl;rfl)|(apply dB (ty:=4);rfl;rfl;rfl;rfl)|refine Jh ?_|(apply Wp.draw tOk follows;kernel_rfl)|intro hb
   all_goals first
    | rfl
    | (exfalso;simp at hb;done)
theorem Zcg {u:Tm} (ht:t.Ok∧t.size≤200000) (hu:u.Ok∧u.size≤200000):∀ H,CallOk E0 Tryz.prog 21 [.agg t.cells,.agg u.cells] H (.bool (decide (t.cmp u=0))) H:=by
 have hc:∀ H,CallOk E0 Tryz.prog 41 [.agg t.cells,.agg u.cells] H (.int .i64 (t.cmp u)) H:=fun H=>ZlK (d41 ht.1 hu.1 (by have:=ht.2;omega) (by have:=hu.2;omega) H)
 generalize t.cmp u=c at hc ⊢
 obtain ⟨k,nm,s,b,kz⟩:=t
 obtain ⟨k',nm',s',b',kz'⟩:=u
 simp only [Tm.cells] at hc ⊢
 refine Jw tOk fe21.ok rfl ?_
 repeat' first|refine Jc (hc _) ?_|refine Jt ?_|refine Jb ?_ ?_|refine Jo ?_|intro hb
 all_goals simp_all
theorem up2 (h:t.Ok∧t.size≤100000):t.Ok∧t.size≤200000:=⟨h.1,Nat.le_trans h.2 (by decide)⟩
theorem Zik {key:Tm} (ha:a.okA=true) (ha':a.Ok∧a.size≤100000) (hk':key.Ok∧key.size≤100000) (b:Bool):∀ H,CallOk E0 Tryz.prog 78 [.agg (Tm.mk 3 WV 0 b [a,key]).cells] H (.tup [.agg (Xc (.mk 3 WV 0 b [a,key])).cells,.bool (isA a ZcE&&decide ((a.kd 1).cmp key=0))]) H:=by
 have hi:=isR a ZcE
 have hd:Xc (.mk 3 WV 0 b [a,key])=if (isA a ZcE&&decide ((a.kd 1).cmp key=0))=true then a.kd 0 else .mk 3 WV 0 b [a,key]:=by
  unfold Xc Zbf
  simp [Zcn,Tm.nm,Tm.kd,Vb,WZ,WV,Yu,Ys,YI]
 rw [hd]
 cases hp:isA a ZcE with
 | false =>
   rw [hp] at hi
   rw [if_neg (by simp),Bool.false_and]
   obtain ⟨k1,n1,s1,f1,l1⟩:=a
   obtain ⟨k2,n2,s2,f2,l2⟩:=key
   simp only [Tm.cells,WN,WV] at hi ⊢
   refine Jw tOk fe78.ok rfl ?_
   repeat' first|refine Jk ?_|refine Jc (hi _) ?_|refine Js ?_|refine JJ ?_|refine Jx ?_|refine Jt ?_|refine Jb ?_ ?_|refine Jo ?_|(apply dK;rfl;rfl;rfl)|refine Jd (hi _) ?_|refine JB ?_|refine JK ?_|refine JI ?_|(apply dT (ty:=4);rfl;rfl;rfl;rfl)|(apply dF (ty:=4);rfl;rfl;rfl;rfl)|(apply dB (ty:=4);rfl;rfl;rfl;rfl)|refine Jh ?_|(apply Wp.draw tOk follows;kernel_rfl)|intro hb
   all_goals first
    | exact Z5 _ _ _ _ _ _ _ _
    | rfl
    | (exfalso;simp at hb;done)
 | true =>
   rw [hp] at hi
   obtain ⟨b1,x,y,rfl⟩:=Y1 ha hp rfl
   have hs:=Zcg (up2 (W4 ha' (x:=y) (by simp))) (up2 hk')
   show ∀ H,CallOk E0 Tryz.prog 78 _ H (.tup [.agg (Tm.cells (if (true&&decide (y.cmp key=0))=true then x else _)),.bool (true&&decide (y.cmp key=0))]) H
   rw [Bool.true_and]
   generalize decide (y.cmp key=0)=c at hs ⊢
   obtain ⟨k1,n1,s1,f1,l1⟩:=x
   obtain ⟨k2,n2,s2,f2,l2⟩:=y
   obtain ⟨k3,n3,s3,f3,l3⟩:=key
   cases c
   · rw [if_neg (by decide)]
     simp only [Tm.cells,WN,WV,ZcE] at hi hs ⊢
     refine Jw tOk fe78.ok rfl ?_
     repeat' first|refine Jk ?_|refine Jc (hi _) ?_|refine Jc (hs _) ?_|refine Js ?_|refine JJ ?_|refine Jx ?_|refine Jt ?_|refine Jb ?_ ?_|refine Jo ?_|(apply dK;rfl;rfl;rfl)|refine Jd (hi _) ?_|refine Jd (hs _) ?_|refine JB ?_|refine JK ?_|refine JI ?_|(apply dT (ty:=4);rfl;rfl;rfl;rfl)|(apply dF (ty:=4);rfl;rfl;rfl;rfl)|(apply dB (ty:=4);rfl;rfl;rfl;rfl)|refine Jh ?_|(apply Wp.draw tOk follows;kernel_rfl)|intro hb
     all_goals first
      | exact Z5 _ _ _ _ _ _ _ _
      | rfl
      | (exfalso;simp at hb;done)
   · rw [if_pos rfl]
     simp only [Tm.cells,WN,WV,ZcE] at hi hs ⊢
     refine Jw tOk fe78.ok (Z5 _ _ _ _ _ _ _ _) ?_
     repeat' first|refine Jk ?_|refine Jc (hi _) ?_|refine Jc (hs _) ?_|refine Js ?_|refine JJ ?_|refine Jx ?_|refine Jt ?_|refine Jb ?_ ?_|refine Jo ?_|(apply dK;rfl;rfl;rfl)|refine Jd (hi _) ?_|refine Jd (hs _) ?_|refine JB ?_|refine JK ?_|refine JI ?_|(apply dT (ty:=4);rfl;rfl;rfl;rfl)|(apply dF (ty:=4);rfl;rfl;rfl;rfl)|(apply dB (ty:=4);rfl;rfl;rfl;rfl)|refine Jh ?_|(apply Wp.draw tOk follows;kernel_rfl)|intro hb
     all_goals first
      | exact Z5 _ _ _ _ _ _ _ _
      | rfl
      | (exfalso;simp at hb;done)
end Go.Vm.Seat
namespace Go.Vm
variable {B:Int} {l:List Pw}
def PwB (B:Int) (l:List Pw):Prop:=∀ x,x∈l→(x.1.Ok∧x.1.size≤100000)∧ -B≤x.2∧x.2≤B
theorem PwB.tail {x:Pw} {r:List Pw} (h:PwB B (x::r)):PwB B r:=fun t ht=>h t (List.mem_cons_of_mem _ ht)
theorem PwB.mono {C:Int} (h:PwB B l) (hc:B≤C):PwB C l:=fun x hx=>⟨(h x hx).1,by have:=(h x hx).2;omega,by have:=(h x hx).2;omega⟩
theorem PwB.nil (B:Int):PwB B []:=fun x hx=>by simp at hx
theorem PwB.ins {c:Int} {t:Tm} {n:Int} (h:PwB B l) (ht:t.Ok∧t.size≤100000) (hn: -c≤n∧n≤c) (hB:0≤B) (hc:0≤c):PwB (B+c) (Wh l t n):=by
 induction l with
 | nil =>
   intro x hx
   simp only [Wh,List.mem_singleton] at hx
   subst hx
   exact ⟨ht,by show -(B+c)≤n;omega,by show n≤B+c;omega⟩
 | cons y r ih =>
   have hy:=h y List.mem_cons_self
   have hr:PwB (B+c) r:=h.tail.mono (by omega)
   have hyc:(y.1.Ok∧y.1.size≤100000)∧ -(B+c)≤y.2∧y.2≤B+c:=⟨hy.1,by omega,by omega⟩
   intro x hx
   simp only [Wh] at hx
   split at hx
   · rcases List.mem_cons.1 hx with rfl | hx
     · exact hyc
     · exact ih h.tail x hx
   · split at hx
     · rcases List.mem_cons.1 hx with rfl | hx
       · exact ⟨ht,by show -(B+c)≤n;omega,by show n≤B+c;omega⟩
       · rcases List.mem_cons.1 hx with rfl | hx
         · exact hyc
         · exact hr x hx
     · split at hx
       · exact hr x hx
       · rcases List.mem_cons.1 hx with rfl | hx
         · exact ⟨hy.1,by show -(B+c)≤y.2+n;omega,by show y.2+n≤B+c;omega⟩
         · exact hr x hx
theorem Zja (t : Tm) (n : Int) (o : List Pw) (d : Bool) (x : Pw) (L Z M : Bool) (m : Int) (hL : L = decide (t.cmp x.1 < 0)) (hZ : Z = decide (t.cmp x.1 = 0)) (hm : m = if Z = true then x.2 + n else x.2) (hM : M = !decide (m = 0)) :
  Yn t n (o,d) x=(if M=true then (if (!d&&L)=true then o++ [(t,n)] else o)++ [(x.1,m)] else (if (!d&&L)=true then o++ [(t,n)] else o),d||(L||Z)):=by
 subst hL hZ hM
 unfold Yn
 by_cases h1:t.cmp x.1<0
 · have h2 : ¬ t.cmp x.1 = 0 := by omega
   simp only [h2,decide_false,Bool.false_eq_true,if_false] at hm
   subst hm
   cases d<;>simp [h1,h2]<;>split<;>simp_all
 · by_cases h2 : t.cmp x.1 = 0
   · simp only [h2, decide_true, if_true] at hm
     subst hm
     cases d<;>simp [h2]<;>split<;>simp_all
   · simp only [h2, decide_false, Bool.false_eq_true, if_false] at hm
     subst hm
     cases d<;>simp [h1,h2]<;>split<;>simp_all
theorem ZbB (t:Tm) (n:Int):∀ (l:List Pw) (s:List Pw×Bool),(l.foldl (Yn t n) s).1.length≤s.1.length+2*l.length
 | [],s=>by simp
 | x :: r, s => by
   have h:=ZbB t n r (Yn t n s x)
   have h2:(Yn t n s x).1.length≤s.1.length+2:=by
    unfold Yn
    dsimp only
    repeat' split
    all_goals first
     | omega
     | (simp only [List.length_append,List.length_singleton];omega)
   rw [List.foldl_cons,List.length_cons]
   omega
end Go.Vm
namespace Go.Vm.Seat
variable {l:List Pw} {t:Tm}
open Go.Proofs
def pwL (l:List Pw):List (List PV):=l.map pwC
theorem ZK (l:List Pw):(pwL l).length=l.length:=by simp [pwL]
theorem YY {i:Nat} {x:Pw} (h:l[i]? = some x):(pwL l)[i]? = some (pwC x):=by simp [pwL,h]
theorem Zcp (l m:List Pw):pwL (l++m)=pwL l++pwL m:=by simp [pwL]
theorem Qa (l:List Pw):(pwL l).all (fun c=>c.all Z3)=true:=by
 rw [pwL,List.all_map,List.all_eq_true]
 rintro ⟨⟨k,nm,s,b,kz⟩,n⟩ _
 simp [pwC,Tm.cells,ZD]
 exact ⟨rfl,rfl,rfl,rfl⟩
theorem Zgb (l:List Pw):noB (pwL l)=true:=by
 simp only [pwL,noB,List.all_map,List.all_eq_true]
 rintro ⟨⟨k,nm,s,b,kz⟩,n⟩ _
 rfl
theorem apT_pw:ApT E0 106 106 5 64:=⟨_,_,_,_,_,rfl,rfl,rfl,rfl,rfl,rfl,rfl,by decide,rfl⟩
theorem ZlA {L:List Pw} {out:PV} {lv:List Nat} {nt:Nat} (hA:ApV true 5 (pwL L) out lv nt) (x:Pw) (hL:L.length≤1000000):∃ out' lv' nt',(∀ bx ro,ZN E0 106 106 out (.sl .full 5 [pwC x]) ⟨bx,ro,lv,nt⟩=some (out',⟨bx,ro,lv',nt'⟩))∧ApV true 5 (pwL (L++ [x])) out' lv' nt':=by
 obtain ⟨out',lv',nt',hap,hA', -⟩:=hA.app apT_pw (.sl .full 5 (pwL [x])) (Qa _) (ZX (by simp only [ZK,List.length_cons,List.length_nil];omega) (by decide)) (Zgb _)
 rw [← Zcp] at hA'
 exact ⟨out',lv',nt',hap,hA'⟩
theorem Zt (a b:Int):Xs E0 .lss 3 (.int .i64 a) (.int .i64 b)=some (.bool (decide (a<b))):=rfl
theorem Uf (a b:Int):Xs E0 .eql 3 (.int .i64 a) (.int .i64 b)=some (.bool (decide (a=b))):=by
 show some (PV.bool (a==b))=_
 by_cases h:a=b<;>simp [h]
theorem UA (a b:Int):Xs E0 .neq 3 (.int .i64 a) (.int .i64 b)=some (.bool (!decide (a=b))):=by
 show some (PV.bool (!(a==b)))=_
 by_cases h:a=b<;>simp [h]
theorem ZhC {a b:Int} (h: -9223372036854775808≤a+b) (h':a+b≤9223372036854775807):Xs E0 .add 3 (.int .i64 a) (.int .i64 b)=some (.int .i64 (a+b)):=by
 show some (PV.int .i64 (IntKind.i64.wrap (a+b)))=_
 rw [IntWalk.i64_in _ (by omega)]
theorem ZnB {u:Tm} (ht:t.Ok∧t.size≤100000) (hu:u.Ok∧u.size≤100000):∀ H,CallOk E0 Tryz.prog 41 [.agg t.cells,.agg u.cells] H (.int .i64 (t.cmp u)) H:=fun H=>
 ZlK (d41 ht.1 hu.1 (by have:=ht.2;omega) (by have:=hu.2;omega) H)
theorem ZnJ {n:Int} (hl:PwB 1000000000 l) (ht:t.Ok∧t.size≤100000) (hn: -1000000000≤n∧n≤1000000000) (hlen:l.length≤100000) (b:Bool):∀ H,CallOk E0 Tryz.prog 165 [slV b 5 (pwL l),.agg t.cells,.int .i64 n] H (slV true 5 (pwL (Zg7 l t n))) H:=by
 have hcmp:∀ x,x∈l→∀ H,CallOk E0 Tryz.prog 41 [.agg t.cells,.agg x.1.cells] H (.int .i64 (t.cmp x.1)) H:=fun x hx=>ZnB ht (hl x hx).1
 have hlen0:=fun i=>ZbB t n (l.take i) ([],false)
 have hadd : Zg7 l t n = match l.foldl (Yn t n) ([], false) with
       | (o,true)=>o
       | (o,false)=>o++ [(t,n)]:=rfl
 rw [hadd]
 clear hadd
 obtain ⟨T,hT⟩:∃ T,T=t:=⟨_,rfl⟩
 rw [← hT] at hcmp hlen0 ⊢
 have hTc:pwC (T,n)=t.cells++ [.int .i64 n]:=by rw [hT];rfl
 have hTc2:T.cells=t.cells:=by rw [hT]
 rw [hTc2]
 rw [hTc2] at hcmp
 clear ht hT hTc2
 obtain ⟨k,nm,s,tb,kz⟩:=t
 simp only [Tm.cells,List.cons_append,List.nil_append] at hcmp hTc ⊢
 refine Jw tOk fe165.ok (Zv _ _ _ _ _) ?_ (by simp only [ZP,Xd];simp [frzG,Xv];rfl)
 repeat' first|refine Jk ?_|refine Js ?_|refine JA ?_|refine Ji ?_|refine JJ ?_|refine Jl ?_|refine Jx ?_|refine Jt ?_|refine Jb ?_ ?_|refine Jo ?_|(apply dK;rfl;rfl;rfl)|refine JB ?_|(apply dAq;rfl;rfl;rfl;rfl;rfl;rfl;(first|assumption|solve_by_elim))|(apply dAp;rfl;rfl;rfl;rfl;rfl;(first|assumption|solve_by_elim);rfl)|refine JD ?_|refine JK ?_|(apply dLn;rfl;rfl;rfl;rfl;rfl)|refine JI ?_|(apply dT (ty:=4);rfl;rfl;rfl;rfl)|(apply dF (ty:=4);rfl;rfl;rfl;rfl)|(apply dB (ty:=4);rfl;rfl;rfl;rfl)|refine Jh ?_|(apply Wp.draw tOk follows;kernel_rfl)|intro hb
 refine Wp.while (fun m tm H => ∃ (i : Nat) (base : TM) (out : PV) (lv : List Nat) (nt : Nat), i + m = l.length ∧ ApV true 5 (pwL ((l.take i).foldl (Yn T n) ([], false)).1) out lv nt ∧
   tm=ovr base [(7,out),(0,slV b 5 (pwL l)),(2,.int .i64 n),(4,.ptr 0 4 0 0),(8,.bool ((l.take i).foldl (Yn T n) ([],false)).2),(9,.int .i64 (i:Int))]∧H=⟨[.cells 4 [[.int .i64 k,.str nm,.int .i64 s,slV tb 4 (Za kz)]]],0,lv,nt⟩)
  (fun m tm H hI=>Wp.drop ?_) l.length _ _ ⟨0,_,_,_,_,by omega,.nil _ _ rfl,Zf ⟨rfl,rfl,rfl,rfl,rfl,rfl,trivial⟩,rfl⟩
 obtain ⟨i,base,out,lv,nt,hi,hA,rfl,rfl⟩:=hI
 have hl1:=hlen0 i
 have hl2:(l.take i).length≤l.length:=by rw [List.length_take];omega
 have hBU:Yb 1 (.cells 4 [[.int .i64 k,.str nm,.int .i64 s,slV tb 4 (Za kz)]])=true:=by simp [Yb,ZA,under,Zj]
 by_cases hlt:i<l.length
 · obtain ⟨x, hx⟩ : ∃ x, l[i]? = some x := ⟨l[i], by simp⟩
   have hm:x∈l:=List.mem_of_getElem? hx
   have hs:=XZ (f:=Yn T n) (b:=([],false)) hx
   generalize (l.take i).foldl (Yn T n) ([],false)=S at hA hs hl1 ⊢
   obtain ⟨o,d⟩:=S
   have hc:=hcmp x hm
   have hxb:=(hl x hm).2
   have hlo:o.length≤200000:=by simp only [List.length_nil] at hl1;omega
   obtain ⟨L,hL⟩:∃ L,L=decide (T.cmp x.1<0):=⟨_,rfl⟩
   obtain ⟨Z,hZ⟩:∃ Z,Z=decide (T.cmp x.1=0):=⟨_,rfl⟩
   obtain ⟨m',hm'⟩:∃ m',m'=if Z=true then x.2+n else x.2:=⟨_,rfl⟩
   obtain ⟨M,hM⟩:∃ M,M= !decide (m'=0):=⟨_,rfl⟩
   rw [Zja T n o d x L Z M m' hL hZ hm' hM] at hs
   obtain ⟨o1,v1,n1,hap1,hA1⟩:=ZlA hA (T,n) (by show o.length≤1000000;omega)
   obtain ⟨o2,v2,n2,hap2,hA2⟩:=ZlA hA (x.1,m') (by show o.length≤1000000;omega)
   obtain ⟨o3,v3,n3,hap3,hA3⟩:=ZlA hA1 (x.1,m') (by simp;omega)
   rw [hTc] at hap1
   have hbL:=Zt (T.cmp x.1) 0
   have hbZ:=Uf (T.cmp x.1) 0
   have hbM:=UA m' 0
   have hadd:=ZhC (a:=x.2) (b:=n) (by omega) (by omega)
   rw [← hL] at hbL
   rw [← hZ] at hbZ
   rw [← hM] at hbM
   have hLZ:¬ (L=true∧Z=true):=fun h=>by
    rw [hL,hZ] at h
    simp only [decide_eq_true_eq] at h
    omega
   have hlx:=Zt (i:Int) ((pwL l).length:Int)
   rw [decide_eq_true (by rw [ZK];omega)] at hlx
   clear hM hL
   generalize T.cmp x.1=c at hc hbL hbZ hZ
   clear hZ
   have hj:=YY hx
   obtain ⟨⟨k',nm',s',b',kz'⟩,xn⟩:=x
   simp only [pwC,Tm.cells,List.cons_append,List.nil_append] at hc hap2 hap3 hj
   cases Z
   · have hmx : m' = xn := by simpa using hm'
     subst hmx
     cases L<;>cases d<;>cases M
     all_goals
      simp only [Bool.not_false,Bool.not_true,Bool.and_true,Bool.and_false,Bool.false_eq_true,if_true,if_false,Bool.or_false,Bool.or_true] at hs
      repeat' first|refine Jk ?_|refine Jc (hc _) ?_|refine Js ?_|refine JA ?_|refine Ji ?_|refine JJ ?_|refine Jl ?_|refine Jx ?_|refine Jt ?_|refine Jb ?_ ?_|refine Jo ?_|(apply dK;rfl;rfl;rfl)|refine Jd (hc _) ?_|refine JB ?_|(apply dAq;rfl;rfl;rfl;rfl;rfl;rfl;(first|assumption|solve_by_elim))|(apply dAp;rfl;rfl;rfl;rfl;rfl;(first|assumption|solve_by_elim);rfl)|refine JD ?_|refine JK ?_|(apply dLn;rfl;rfl;rfl;rfl;rfl)|refine JI ?_|(apply dT (ty:=4);rfl;rfl;rfl;rfl)|(apply dF (ty:=4);rfl;rfl;rfl;rfl)|(apply dB (ty:=4);rfl;rfl;rfl;rfl)|refine Jh ?_|(apply Wp.draw tOk follows;kernel_rfl)|intro hb
      first
       | exact DropQ.go [(7, out), (0, slV b 5 (pwL l)), (2, .int .i64 n), (4, .ptr 0 4 0 0), (8, .bool ((l.take (i + 1)).foldl (Yn T n) ([], false)).2), (9, .int .i64 ((i + 1 : Nat) : Int))] ⟨rfl, rfl, rfl, rfl, (by rw [hs]; rfl), Ze (Zc (n := i + 1) (by omega)), trivial⟩
           (by simp [hA.under,Zj,under]) rfl (by simpa using hBU) (LoopI.go (m-1) (by omega) ⟨i+1,_,out,lv,nt,by omega,by rw [hs];exact hA,rfl,rfl⟩)
       | exact DropQ.go [(7, o2), (0, slV b 5 (pwL l)), (2, .int .i64 n), (4, .ptr 0 4 0 0), (8, .bool ((l.take (i + 1)).foldl (Yn T n) ([], false)).2), (9, .int .i64 ((i + 1 : Nat) : Int))] ⟨rfl, rfl, rfl, rfl, (by rw [hs]; rfl), Ze (Zc (n := i + 1) (by omega)), trivial⟩
           (by simp [hA2.under,Zj,under]) rfl (by simpa using hBU) (LoopI.go (m-1) (by omega) ⟨i+1,_,o2,v2,n2,by omega,by rw [hs];exact hA2,rfl,rfl⟩)
       | exact DropQ.go [(7, o1), (0, slV b 5 (pwL l)), (2, .int .i64 n), (4, .ptr 0 4 0 0), (8, .bool ((l.take (i + 1)).foldl (Yn T n) ([], false)).2), (9, .int .i64 ((i + 1 : Nat) : Int))] ⟨rfl, rfl, rfl, rfl, (by rw [hs]; rfl), Ze (Zc (n := i + 1) (by omega)), trivial⟩
           (by simp [hA1.under,Zj,under]) rfl (by simpa using hBU) (LoopI.go (m-1) (by omega) ⟨i+1,_,o1,v1,n1,by omega,by rw [hs];exact hA1,rfl,rfl⟩)
       | exact DropQ.go [(7, o3), (0, slV b 5 (pwL l)), (2, .int .i64 n), (4, .ptr 0 4 0 0), (8, .bool ((l.take (i + 1)).foldl (Yn T n) ([], false)).2), (9, .int .i64 ((i + 1 : Nat) : Int))] ⟨rfl, rfl, rfl, rfl, (by rw [hs]; rfl), Ze (Zc (n := i + 1) (by omega)), trivial⟩
           (by simp [hA3.under,Zj,under]) rfl (by simpa using hBU) (LoopI.go (m-1) (by omega) ⟨i+1,_,o3,v3,n3,by omega,by rw [hs];exact hA3,rfl,rfl⟩)
   · have hLf : L = false := by
       cases L
       · rfl
       · exact absurd ⟨rfl,rfl⟩ hLZ
     subst hLf
     have hmx:m'=xn+n:=by simpa using hm'
     rw [hmx] at hbM hap2 hap3 hA2 hs
     cases d<;>cases M
     all_goals
      simp only [Bool.not_false,Bool.not_true,Bool.and_false,Bool.false_eq_true,if_true,if_false,Bool.or_true] at hs
      repeat' first|refine Jk ?_|refine Jc (hc _) ?_|refine Js ?_|refine JA ?_|refine Ji ?_|refine JJ ?_|refine Jl ?_|refine Jx ?_|refine Jt ?_|refine Jb ?_ ?_|refine Jo ?_|(apply dK;rfl;rfl;rfl)|refine Jd (hc _) ?_|refine JB ?_|(apply dAq;rfl;rfl;rfl;rfl;rfl;rfl;(first|assumption|solve_by_elim))|(apply dAp;rfl;rfl;rfl;rfl;rfl;(first|assumption|solve_by_elim);rfl)|refine JD ?_|refine JK ?_|(apply dLn;rfl;rfl;rfl;rfl;rfl)|refine JI ?_|(apply dT (ty:=4);rfl;rfl;rfl;rfl)|(apply dF (ty:=4);rfl;rfl;rfl;rfl)|(apply dB (ty:=4);rfl;rfl;rfl;rfl)|refine Jh ?_|(apply Wp.draw tOk follows;kernel_rfl)|intro hb
      first
       | exact DropQ.go [(7, out), (0, slV b 5 (pwL l)), (2, .int .i64 n), (4, .ptr 0 4 0 0), (8, .bool ((l.take (i + 1)).foldl (Yn T n) ([], false)).2), (9, .int .i64 ((i + 1 : Nat) : Int))] ⟨rfl, rfl, rfl, rfl, (by rw [hs]; rfl), Ze (Zc (n := i + 1) (by omega)), trivial⟩
           (by simp [hA.under,Zj,under]) rfl (by simpa using hBU) (LoopI.go (m-1) (by omega) ⟨i+1,_,out,lv,nt,by omega,by rw [hs];exact hA,rfl,rfl⟩)
       | exact DropQ.go [(7, o2), (0, slV b 5 (pwL l)), (2, .int .i64 n), (4, .ptr 0 4 0 0), (8, .bool ((l.take (i + 1)).foldl (Yn T n) ([], false)).2), (9, .int .i64 ((i + 1 : Nat) : Int))] ⟨rfl, rfl, rfl, rfl, (by rw [hs]; rfl), Ze (Zc (n := i + 1) (by omega)), trivial⟩
           (by simp [hA2.under,Zj,under]) rfl (by simpa using hBU) (LoopI.go (m-1) (by omega) ⟨i+1,_,o2,v2,n2,by omega,by rw [hs];exact hA2,rfl,rfl⟩)
 · have e : i = l.length := by omega
   subst e
   have hlx:=Zt (l.length:Int) ((pwL l).length:Int)
   rw [decide_eq_false (by rw [ZK];omega)] at hlx
   rw [List.take_length] at hA hl1 ⊢
   generalize l.foldl (Yn T n) ([],false)=S at hA hl1 ⊢
   obtain ⟨o,d⟩:=S
   have hlo:o.length≤200000:=by simp only [List.length_nil] at hl1;omega
   obtain ⟨o1,v1,n1,hap1,hA1⟩:=ZlA hA (T,n) (by show o.length≤1000000;omega)
   rw [hTc] at hap1
   cases d
   all_goals
    repeat' first|refine Jk ?_|refine Js ?_|refine JA ?_|refine Ji ?_|refine JJ ?_|refine Jl ?_|refine Jx ?_|refine Jt ?_|refine Jb ?_ ?_|refine Jo ?_|(apply dK;rfl;rfl;rfl)|refine JB ?_|(apply dAq;rfl;rfl;rfl;rfl;rfl;rfl;(first|assumption|solve_by_elim))|(apply dAp;rfl;rfl;rfl;rfl;rfl;(first|assumption|solve_by_elim);rfl)|refine JD ?_|refine JK ?_|(apply dLn;rfl;rfl;rfl;rfl;rfl)|refine JI ?_|(apply dT (ty:=4);rfl;rfl;rfl;rfl)|(apply dF (ty:=4);rfl;rfl;rfl;rfl)|(apply dB (ty:=4);rfl;rfl;rfl;rfl)|refine Jh ?_|(apply Wp.draw tOk follows;kernel_rfl)|intro hb
    all_goals first
     | exact hA1.frz3 _ _
     | exact hA.frz3 _ _
