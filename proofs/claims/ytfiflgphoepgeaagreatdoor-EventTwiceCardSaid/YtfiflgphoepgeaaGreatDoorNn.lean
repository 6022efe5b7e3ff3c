/-
  Sums in the second text: a term is put in or taken out.
-/
import Derived.Test.YtfiflgphoepgeaaGreatDoorOe
set_option maxHeartbeats 0
set_option maxRecDepth 100000
namespace Go.Vm
variable {l:List Pw} {t:Tm} {B n:Int}
theorem Zbw (n:Nat):arB Vi n= !decide (n<2):=by simp [arB,Vi,WJ,VF]
theorem ZbX (n:Nat):arB WJ n=decide (n=1):=by simp [arB,Vi,WJ,VF]
theorem Za5 (n:Nat):arB VF n=decide (n=0):=by simp [arB,Vi,WJ,VF]
theorem X7 {k:Int} {nm:Bs} (h:Zab k nm=true):k=3∧(nm=Vi∨nm=WJ∨nm=VF):=by
 simpa [Zab] using h
theorem Zin {l:List Tm} {i:Nat} (h:l[i]? = some t):Zd1 (l.drop i)=(t.ari&&Zd1 (l.drop (i+1))):=by
 rw [ZC h];rfl
theorem ZbH:∀ l:List Tm,Zd1 l=true↔∀ x,x∈l→x.ari=true
 | []=>by simp [Zd1]
 |t::r=>by simp [Zd1,ZbH r]
mutual
def Tm.colFl:Tm→Bool→Bool
 | .mk k nm _ _ kz,b=>if Zab k nm=true then UQ kz b else true
def UQ:List Tm→Bool→Bool
 | [],b=>b
 |t::r,b=>UQ r (t.colFl b)
end
theorem Qq:∀ {l:List Tm} {i:Nat} {t:Tm} (b:Bool),l[i]? = some t→UQ (l.take (i+1)) b=t.colFl (UQ (l.take i) b)
 | [],i,t,b,h=>by simp at h
 | x :: r, 0, t, b, h => by
   have e:x=t:=by simpa using h
   subst e
   simp only [List.take_succ_cons,List.take_zero,UQ]
 | x :: r, i + 1, t, b, h => by
   simp only [List.take_succ_cons,UQ]
   exact Qq _ (by simpa using h)
theorem ZaS:∀ {l:List Tm} {i:Nat} {t:Tm} (n:Int) (o:List Pw),l[i]? = some t→VH (l.take (i+1)) n o=t.colR n (VH (l.take i) n o)
 | [],i,t,n,o,h=>by simp at h
 | x :: r, 0, t, n, o, h => by
   have e:x=t:=by simpa using h
   subst e
   simp only [List.take_succ_cons,List.take_zero,VH]
 | x :: r, i + 1, t, n, o, h => by
   simp only [List.take_succ_cons,VH]
   exact ZaS n _ (by simpa using h)
theorem sgn {p:Prop} [Decidable p] (h: -1≤n∧n≤1): -1≤(if p then -n else n)∧(if p then -n else n)≤1:=by split<;>omega
mutual
theorem Zm7:∀ (t:Tm) (n:Int) (l l':List Pw) (B:Int),0≤B→(-1≤n∧n≤1)→t.Ok→t.size≤100000→PwB B l→t.col n l=some l'→PwB (B+t.size) l'
 | .mk k nm s b kz, n, l, l', B, hB, hn, ht, hs, hl, h => by
   rw [Tm.col] at h
   rw [Tm.size] at hs ⊢
   split at h
   · split at h
     · exact (ZgP kz _ l l' B hB (sgn hn) (fun x hx=>ht.kid hx) (by omega) hl h).mono (by omega)
     · exact absurd h (by simp)
   · cases h
     exact (hl.ins (c:=1) ⟨ht,by rw [Tm.size];exact hs⟩ hn hB (by omega)).mono (by omega)
theorem ZgP:∀ (ts:List Tm) (n:Int) (l l':List Pw) (B:Int),0≤B→(-1≤n∧n≤1)→(∀ x,x∈ts→x.Ok)→Zl ts≤100000→PwB B l→colL ts n l=some l'→PwB (B+Zl ts) l'
 | [], n, l, l', B, _, _, _, _, hl, h => by
   rw [colL] at h
   cases h
   rw [Zl]
   exact hl.mono (by omega)
 | t :: r, n, l, l', B, hB, hn, ht, hs, hl, h => by
   rw [colL] at h
   rw [Zl] at hs ⊢
   cases e:t.col n l with
   | none=>rw [e] at h;exact absurd h (by simp)
   | some m =>
     rw [e] at h
     have h1:=Zm7 t n l m B hB hn (ht t List.mem_cons_self) (by omega) hl e
     exact (ZgP r n m l' (B+t.size) (by omega) hn (fun x hx=>ht x (List.mem_cons_of_mem _ hx)) (by omega) h1 h).mono (by omega)
end
theorem ZdG {ts : List Tm} (ha : Zd1 ts = true) (hA : Vb l) (hn : n = 1 ∨ n = -1) (hB : 0 ≤ B) (ht : ∀ x, x ∈ ts → x.Ok) (hs : Zl ts ≤ 100000) (hl : PwB B l) :
  Vb (VH ts n l)∧PwB (B+Zl ts) (VH ts n l)∧(VH ts n l).length≤l.length+Zl ts:=by
 obtain ⟨h1,h2⟩:=(Q3 ts n l hA (by omega)).1 ha
 exact ⟨h2,ZgP ts n l _ B hB (by omega) ht hs hl h1,ZbZ ts n l _ h1⟩
theorem Zgg (ha : t.ari = true) (hA : Vb l) (hn : n = 1 ∨ n = -1) (hB : 0 ≤ B) (ht : t.Ok) (hs : t.size ≤ 100000) (hl : PwB B l) :
  Vb (t.colR n l)∧PwB (B+t.size) (t.colR n l)∧(t.colR n l).length≤l.length+t.size:=by
 obtain ⟨h1,h2⟩:=(U4 t n l hA (by omega)).1 ha
 exact ⟨h2,Zm7 t n l _ B hB (by omega) ht hs hl h1,ZdU t n l _ h1⟩
end Go.Vm
namespace Go.Vm.Seat
variable {a key t x:Tm} {l:List Tm} {i:Nat}
open Go.Proofs
theorem Ztq (ht:t.Ok):t.size≤100000→∀ H,CallOk E0 Tryz.prog 210 [.agg t.cells] H (.bool t.ari) H:=by
 induction ht with
 | @mk k nm s b kz hk hs hn hl hok ih=>
 intro hsz
 simp only [Tm.size] at hsz
 have hsp:=Zqo (.mk k nm s b kz)
 have hkl:=Yj kz
 rw [Tm.ari]
 simp only [Tm.sym,Tm.cells] at hsp ⊢
 refine Jw tOk fe210.ok rfl ?_
 by_cases he:Zab k nm=true
 · rw [if_pos he]
   rw [he] at hsp
   have hlen:=Zb kz
   have key:∀ w:Bs,nm=w→arB nm kz.length=arB w kz.length:=fun w h=>by rw [h]
   obtain ⟨rfl,hnm⟩:=X7 he
   by_cases har:arB nm kz.length=true
   · rw [if_pos har]
     rcases hnm with rfl|rfl|rfl
     all_goals
      simp only [Zbw,ZbX,Za5,Bool.not_eq_true',decide_eq_false_iff_not,decide_eq_true_eq] at har
      simp only [Vi,WJ,VF] at hsp ⊢
      repeat' first|refine Jk ?_|refine Jc (hsp _) ?_|refine Jl ?_|refine Jt ?_|refine Jb ?_ ?_|refine Jo ?_|intro hb
      all_goals try first
       | (exfalso;simp at hb<;>omega)
       | (exfalso;rw [hlen] at hb;revert hb;simp only [bne_iff_ne,ne_eq];omega)
      refine Wp.while (fun m tm H => ∃ (i : Nat) (base : TM), i + m = kz.length ∧ Zd1 kz = Zd1 (kz.drop i) ∧
        tm=ovr base [(1,.ptr 0 4 0 0),(3,.int .i64 (kz.length:Int)),(4,.int .i64 (i:Int))]∧H=⟨[.cells 4 [[.int .i64 3,.str _,.int .i64 s,slV b 4 (Za kz)]]],0,[],0⟩)
       (fun m tm H hI=>?_) kz.length _ _ ⟨0,_,by omega,by rw [List.drop_zero],Zf ⟨rfl,Zd (by rw [Zb]),rfl,trivial⟩,rfl⟩
      obtain ⟨i,base,hi,hgo,rfl,rfl⟩:=hI
      rw [hgo]
      by_cases hlt:i<kz.length
      · obtain ⟨t', ht'⟩ : ∃ t', kz[i]? = some t' := ⟨kz[i], by simp⟩
        have hm:t'∈kz:=List.mem_of_getElem? ht'
        have hle:=ZR hm
        have hc:=ih t' hm (by omega)
        have hd:=Zin ht'
        generalize t'.ari=A at hc hd
        obtain ⟨k',nm',s',b',kz'⟩:=t'
        have hj:=Zk ht'
        simp only [Tm.cells] at hc
        clear ih
        have hlx:=Zt (i:Int) (kz.length:Int)
        rw [decide_eq_true (by omega)] at hlx
        cases A
        · rw [Bool.false_and] at hd
          repeat' first|refine Jc (hc _) ?_|refine Ji ?_|refine Jx ?_|refine Jt ?_|refine Jo ?_|fail
          all_goals first
           | rw [hd]
           | (exfalso;simp at hb;done)
        · rw [Bool.true_and] at hd
          repeat' first|refine Jc (hc _) ?_|refine Ji ?_|refine Jx ?_|refine Jt ?_|refine Jo ?_|fail
          all_goals first
           | exact LoopI.go (m-1) (by omega) ⟨i+1,_,by omega,by rw [hd],Zf ⟨rfl,rfl,Zd (Zc (n:=i+1) (by omega)),trivial⟩,rfl⟩
           | (exfalso;simp at hb;done)
      · have e : i = kz.length := by omega
        subst e
        clear ih
        have hlx:=Zt (kz.length:Int) (kz.length:Int)
        rw [decide_eq_false (by omega)] at hlx
        repeat' first|refine Ji ?_|refine Jt ?_|refine Jo ?_|fail
        all_goals first
         | (rw [List.drop_length];rfl)
         | (exfalso;simp at hb;done)
   · rw [if_neg har]
     clear ih
     rcases hnm with rfl|rfl|rfl
     all_goals
      simp only [Zbw,ZbX,Za5,Bool.not_eq_true',decide_eq_false_iff_not,decide_eq_true_eq] at har
      simp only [Vi,WJ,VF] at hsp ⊢
      repeat' first|refine Jk ?_|refine Jc (hsp _) ?_|refine Jl ?_|refine Jt ?_|refine Jb ?_ ?_|refine Jo ?_|intro hb
      all_goals first
       | rfl
       | (exfalso;simp at hb<;>omega)
       | (exfalso;rw [hlen] at hb;revert hb;simp only [bne_eq_false_iff_eq];omega)
 · rw [if_neg he]
   rw [Bool.eq_false_iff.2 he] at hsp
   clear ih
   repeat' first|refine Jc (hsp _) ?_|refine Jt ?_|refine Jo ?_|fail
   all_goals rfl
theorem Ze6 {es:Nat} {L:List (List PV)} {out:PV} {lv:List Nat} {nt:Nat} (h:ApV false es L out lv nt):∃ tl,out= .sl tl es L:=by
 cases h with
 |nil _ _ h=>cases h
 |full=>exact ⟨_,rfl⟩
 |tok=>exact ⟨_,rfl⟩
theorem Zlt (nm:Bs) (hlen:l.length≤10000) (b:Bool):∀ H,CallOk E0 Tryz.prog 104 [.str nm,slV b 4 (Za l)] H (.agg (Tm.mk 3 nm 0 false l).cells) H:=by
 have hA0:ApV false 4 [] (.sl .full 4 []) [] 0:= .full [] _ _ rfl rfl
 obtain ⟨out',lv',nt',hap,hA', -⟩:=hA0.app YZ (.slV b 4 (Za l)) (Zs _) (ZS (by simp only [Zb,List.length_nil];omega) (by decide)) (ZW _)
 rw [List.nil_append] at hA'
 have hco:=Qt hA' 3 nm 0
 have hfr:=fun m H=>ZiZ hA' m H 3 nm 0
 simp only [Tm.cells]
 obtain ⟨tl,rfl⟩:=Ze6 hA'
 refine Jw tOk fe104.ok (ZN _ _ _ _ _ _ _) ?_
 repeat' first|refine Js ?_|refine JA ?_|refine Jo ?_|fail
 exact hfr _ _
theorem Zgk (nm:Bs) (x:Tm):∀ H,CallOk E0 Tryz.prog 104 [.str nm,.sl .full 4 [x.cells]] H (.agg (Tm.mk 3 nm 0 true [x]).cells) H:=fun H=>by
 have:=Zlt nm (l:=[x]) (by simp) true H
 simp only [Tm.cells,Za,Zm] at this ⊢
 exact Zr this rfl
theorem Zou (h:x.Ok∧x.size≤100000):(Tm.mk 3 pkN 0 true [x]).Ok∧(Tm.mk 3 pkN 0 true [x]).size≤200000:=⟨cls_ok.app (by decide) (by simp) rfl (fun y hy=>by
 rw [List.mem_singleton] at hy
 rw [hy]
 exact h.1),by
 simp only [Tm.size,Zl]
 have:=h.2
 omega⟩
theorem ZgO (ha:a.okA=true) (hk:key.okA=true) (ha':a.Ok∧a.size≤100000) (hk':key.Ok∧key.size≤100000) (b:Bool):∀ H,CallOk E0 Tryz.prog 150 [.agg (Tm.mk 3 Yx 0 b [a,key]).cells] H (.tup [.agg (Xl (.mk 3 Yx 0 b [a,key])).cells,.bool (isA a Wa&&decide ((a.kd 1).cmp (.mk 3 pkN 0 true [key])=0))]) H:=by
 have hi:=isR a Wa
 have hd:Xl (.mk 3 Yx 0 b [a,key])=if (isA a Wa&&decide ((a.kd 1).cmp (.mk 3 pkN 0 true [key])=0))=true then a.kd 0 else .mk 3 Yx 0 b [a,key]:=by
  rw [← ZfJ (t:= .mk 3 Yx 0 b [a,key]) (by simp only [Tm.okA,if_pos,Zgm,ha,hk];rfl)]
  unfold Zb3
  simp [Zog,Tm.nm,Tm.kd,Vw,Vg,W6,Yx,Yz,YU,pkN]
 rw [hd]
 cases hp:isA a Wa with
 | false =>
   rw [hp] at hi
   rw [if_neg (by simp),Bool.false_and]
   obtain ⟨k1,n1,s1,f1,l1⟩:=a
   obtain ⟨k2,n2,s2,f2,l2⟩:=key
   simp only [Tm.cells,W4,Yx] at hi ⊢
   refine Jw tOk fe150.ok rfl ?_
   repeat' first|refine Jk ?_|refine Jt ?_|refine Jo ?_|(apply dK;rfl;rfl;rfl)|refine Jd (hi _) ?_|(apply dT (ty:=4);rfl;rfl;rfl;rfl)|(apply dF (ty:=4);rfl;rfl;rfl;rfl)|refine Jh ?_|(apply Wp.draw tOk follows;kernel_rfl)|fail
   all_goals first
    | exact Z5 _ _ _ _ _ _ _ _
    | rfl
    | (exfalso;simp at hb;done)
 | true =>
   rw [hp] at hi
   obtain ⟨b1,x,y,rfl⟩:=Y7 ha hp rfl
   have hs:=Zd3 (up2 (Vj ha' (x:=y) (by simp))) (Zou hk')
   have hj:=Zgk pkN key
   show ∀ H,CallOk E0 Tryz.prog 150 _ H (.tup [.agg (Tm.cells (if (true&&decide (y.cmp (.mk 3 pkN 0 true [key])=0))=true then x else _)),.bool (true&&decide (y.cmp (.mk 3 pkN 0 true [key])=0))]) H
   rw [Bool.true_and]
   generalize decide (y.cmp (.mk 3 pkN 0 true [key])=0)=c at hs ⊢
   obtain ⟨k1,n1,s1,f1,l1⟩:=x
   obtain ⟨k2,n2,s2,f2,l2⟩:=y
   obtain ⟨k3,n3,s3,f3,l3⟩:=key
   cases c
   · rw [if_neg (by decide)]
     simp only [Tm.cells,W4,ZaA,Yx,Wa,pkN] at hi hj hs ⊢
     refine Jw tOk fe150.ok rfl ?_
     repeat' first|refine Jk ?_|refine Jt ?_|refine Jo ?_|(apply dK;rfl;rfl;rfl)|(apply dCl;rfl;rfl;rfl;rfl;rfl;first|exact hi _|exact hj _|exact hs _)|refine JB ?_|(apply dT (ty:=4);rfl;rfl;rfl;rfl)|(apply dF (ty:=4);rfl;rfl;rfl;rfl)|refine Jh ?_|(apply Wp.draw tOk follows;kernel_rfl)|fail
     all_goals first
      | exact Z5 _ _ _ _ _ _ _ _
      | rfl
      | (exfalso;simp at hb;done)
   · rw [if_pos rfl]
     simp only [Tm.cells,W4,ZaA,Yx,Wa,pkN] at hi hj hs ⊢
     refine Jw tOk fe150.ok (Z5 _ _ _ _ _ _ _ _) ?_
     repeat' first|refine Jk ?_|refine Jt ?_|refine Jo ?_|(apply dK;rfl;rfl;rfl)|(apply dCl;rfl;rfl;rfl;rfl;rfl;first|exact hi _|exact hj _|exact hs _)|refine JB ?_|(apply dT (ty:=4);rfl;rfl;rfl;rfl)|(apply dF (ty:=4);rfl;rfl;rfl;rfl)|refine Jh ?_|(apply Wp.draw tOk follows;kernel_rfl)|fail
     all_goals first
      | exact Z5 _ _ _ _ _ _ _ _
      | rfl
      | (exfalso;simp at hb;done)
theorem ZgR (ha:a.okA=true) (hk:key.okA=true) (ha':a.Ok∧a.size≤100000) (hk':key.Ok∧key.size≤100000) (b:Bool):∀ H,CallOk E0 Tryz.prog 150 [.agg (Tm.mk 3 Yz 0 b [a,key]).cells] H (.tup [.agg (Xl (.mk 3 Yz 0 b [a,key])).cells,.bool (isA a YT&&decide (key.cmp (.mk 3 pkN 0 true [a.kd 1])=0))]) H:=by
 have hi:=isR a YT
 have hd:Xl (.mk 3 Yz 0 b [a,key])=if (isA a YT&&decide (key.cmp (.mk 3 pkN 0 true [a.kd 1])=0))=true then a.kd 0 else .mk 3 Yz 0 b [a,key]:=by
  rw [← ZfJ (t:= .mk 3 Yz 0 b [a,key]) (by simp only [Tm.okA,if_pos,Zgm,ha,hk];rfl)]
  unfold Zb3
  simp [Zog,Tm.nm,Tm.kd,Vw,Vg,W6,Yx,Yz,YU,pkN]
 rw [hd]
 cases hp:isA a YT with
 | false =>
   rw [hp] at hi
   rw [if_neg (by simp),Bool.false_and]
   obtain ⟨k1,n1,s1,f1,l1⟩:=a
   obtain ⟨k2,n2,s2,f2,l2⟩:=key
   simp only [Tm.cells,W4,Yz] at hi ⊢
   refine Jw tOk fe150.ok rfl ?_
   repeat' first|refine Jk ?_|refine Jt ?_|refine Jo ?_|(apply dK;rfl;rfl;rfl)|refine Jd (hi _) ?_|(apply dT (ty:=4);rfl;rfl;rfl;rfl)|(apply dF (ty:=4);rfl;rfl;rfl;rfl)|refine Jh ?_|(apply Wp.draw tOk follows;kernel_rfl)|fail
   all_goals first
    | exact Z5 _ _ _ _ _ _ _ _
    | rfl
    | (exfalso;simp at hb;done)
 | true =>
   rw [hp] at hi
   obtain ⟨b1,x,y,rfl⟩:=Y7 ha hp rfl
   have hs:=Zd3 (up2 hk') (Zou (Vj ha' (x:=y) (by simp)))
   have hj:=Zgk pkN y
   show ∀ H,CallOk E0 Tryz.prog 150 _ H (.tup [.agg (Tm.cells (if (true&&decide (key.cmp (.mk 3 pkN 0 true [y])=0))=true then x else _)),.bool (true&&decide (key.cmp (.mk 3 pkN 0 true [y])=0))]) H
   rw [Bool.true_and]
   generalize decide (key.cmp (.mk 3 pkN 0 true [y])=0)=c at hs ⊢
   obtain ⟨k1,n1,s1,f1,l1⟩:=x
   obtain ⟨k2,n2,s2,f2,l2⟩:=y
   obtain ⟨k3,n3,s3,f3,l3⟩:=key
   cases c
   · rw [if_neg (by decide)]
     simp only [Tm.cells,W4,ZaA,Yz,YT,pkN] at hi hj hs ⊢
     refine Jw tOk fe150.ok rfl ?_
     repeat' first|refine Jk ?_|refine Jt ?_|refine Jo ?_|(apply dK;rfl;rfl;rfl)|(apply dCl;rfl;rfl;rfl;rfl;rfl;first|exact hi _|exact hj _|exact hs _)|refine JB ?_|(apply dT (ty:=4);rfl;rfl;rfl;rfl)|(apply dF (ty:=4);rfl;rfl;rfl;rfl)|refine Jh ?_|(apply Wp.draw tOk follows;kernel_rfl)|fail
     all_goals first
      | exact Z5 _ _ _ _ _ _ _ _
      | rfl
      | (exfalso;simp at hb;done)
   · rw [if_pos rfl]
     simp only [Tm.cells,W4,ZaA,Yz,YT,pkN] at hi hj hs ⊢
     refine Jw tOk fe150.ok (Z5 _ _ _ _ _ _ _ _) ?_
     repeat' first|refine Jk ?_|refine Jt ?_|refine Jo ?_|(apply dK;rfl;rfl;rfl)|(apply dCl;rfl;rfl;rfl;rfl;rfl;first|exact hi _|exact hj _|exact hs _)|refine JB ?_|(apply dT (ty:=4);rfl;rfl;rfl;rfl)|(apply dF (ty:=4);rfl;rfl;rfl;rfl)|refine Jh ?_|(apply Wp.draw tOk follows;kernel_rfl)|fail
     all_goals first
      | exact Z5 _ _ _ _ _ _ _ _
      | rfl
      | (exfalso;simp at hb;done)
theorem ZrQ {nm:Bs} {ks:List Tm} (h0:(Yo nm).kind=3) (h1:(Yo nm).least≤ks.length) (h2:(ks.length:Int)≤(Yo nm).most) (hA:∀ x,x∈ks→x.okA=true) (hS:SmL ks) (b:Bool):∃ f,∀ H,CallOk E0 Tryz.prog 150 [.agg (Tm.mk 3 nm 0 b ks).cells] H (.tup [.agg (Xl (.mk 3 nm 0 b ks)).cells,.bool f]) H:=by
 rcases Za2 h0 with ⟨hn,e1,e2⟩|⟨hn,e1,e2⟩
 · rw [e1] at h1
   rw [e2] at h2
   obtain ⟨a,rfl⟩:=ZrA (l:=ks) (by omega)
   have ha:=hA a (by simp)
   rcases hn with rfl|rfl|rfl
   · exact ⟨_,Zj9 ha b⟩
   · exact ⟨_,ZjQ ha b⟩
   · exact ⟨_,Ziz ha b⟩
 · rw [e1] at h1
   rw [e2] at h2
   obtain ⟨a,key,rfl⟩:=Zpk (l:=ks) (by omega)
   have ha:=hA a (by simp)
   have hk:=hA key (by simp)
   have ha':=hS a (by simp)
   have hk':=hS key (by simp)
   rcases hn with rfl|rfl|rfl
   · exact ⟨_,Zkg ha ha' hk' b⟩
   · exact ⟨_,ZgO ha hk ha' hk' b⟩
   · exact ⟨_,ZgR ha hk ha' hk' b⟩
theorem Zi2 (t:Tm) (h:l[i]? = some x):Zeh (l.drop i) t=(decide (x.cmp t=0)||Zeh (l.drop (i+1)) t):=by
 rw [ZC h]
 rfl
theorem Zsr (hl:SmL l) (ht:t.Ok∧t.size≤100000) (hlen:l.length≤1000000) (b:Bool):∀ H,CallOk E0 Tryz.prog 225 [slV b 4 (Za l),.agg t.cells] H (.bool (Zeh l t)) H:=by
 have hcs:∀ x,x∈l→∀ H,CallOk E0 Tryz.prog 44 [.agg x.cells,.agg t.cells] H (.bool (decide (x.cmp t=0))) H:=fun x hx=>Zd3 (up2 (hl x hx)) (up2 ht)
 obtain ⟨k,nm,s,f,kz⟩:=t
 simp only [Tm.cells] at hcs ⊢
 refine Jw tOk fe225.ok rfl ?_ (by rw [show ZM [slV b 4 (Za l),.agg [.int .i64 k,.str nm,.int .i64 s,slV f 4 (Za kz)]]=some [slV b 4 (Za l),.agg [.int .i64 k,.str nm,.int .i64 s,slV f 4 (Za kz)]] from by simp only [ZM,YP];simp only [frzG,Xr]])
 repeat' first|refine Jt ?_|refine Jo ?_|fail
 refine Wp.while (fun m tm H => ∃ (i : Nat) (base : TM), i + m = l.length ∧ Zeh l (.mk k nm s f kz) = Zeh (l.drop i) (.mk k nm s f kz) ∧
   tm=ovr base [(0,slV b 4 (Za l)),(3,.ptr 0 4 0 0),(5,.int .i64 (i:Int))]∧H=⟨[.cells 4 [[.int .i64 k,.str nm,.int .i64 s,slV f 4 (Za kz)]]],0,[],0⟩)
  (fun m tm H hI=>?_) l.length _ _ ⟨0,_,by omega,by rw [List.drop_zero],Zf ⟨rfl,rfl,rfl,trivial⟩,rfl⟩
 obtain ⟨i,base,hi,hgo,rfl,rfl⟩:=hI
 rw [hgo]
 by_cases hlt:i<l.length
 · obtain ⟨x, hx⟩ : ∃ x, l[i]? = some x := ⟨l[i], by simp⟩
   have hc:=hcs x (List.mem_of_getElem? hx)
   have hd:=Zi2 (.mk k nm s f kz) hx
   generalize decide (x.cmp (.mk k nm s f kz)=0)=c at hc hd
   obtain ⟨k',nm',s',f',kz'⟩:=x
   have hj:=Zk hx
   simp only [Tm.cells] at hc
   cases c
   · rw [Bool.false_or] at hd
     repeat' first|refine Jl ?_|refine Jt ?_|refine Jb ?_ ?_|refine Jo ?_|refine Jd (hc _) ?_|refine JI ?_|refine Jh ?_|(apply Wp.draw tOk follows;kernel_rfl)|intro hb
     all_goals first
      | exact LoopI.go (m-1) (by omega) ⟨i+1,_,by omega,by rw [hd],Zf ⟨rfl,rfl,Zd (Zc (n:=i+1) (by omega)),trivial⟩,rfl⟩
      | (exfalso;simp at hb;done)
      | (exfalso;simp only [Zb,decide_eq_false_iff_not] at hb;omega)
   · rw [Bool.true_or] at hd
     repeat' first|refine Jl ?_|refine Jt ?_|refine Jb ?_ ?_|refine Jo ?_|refine Jd (hc _) ?_|refine JI ?_|refine Jh ?_|(apply Wp.draw tOk follows;kernel_rfl)|intro hb
     all_goals first
      | (exfalso;simp at hb;done)
      | (exfalso;simp only [Zb,decide_eq_false_iff_not] at hb;omega)
      | rw [hd]
 · have e : i = l.length := by omega
   subst e
   repeat' first|refine Jl ?_|refine Jt ?_|refine Jb ?_ ?_|refine Jo ?_|refine Jh ?_|(apply Wp.draw tOk follows;kernel_rfl)|intro hb
   · exfalso;rw [Zb] at hb;simp at hb
   · rw [List.drop_length]
     rfl
def Zk3 (t:Tm) (l:List Tm):List Tm:=l.filter fun x=> !decide (x.cmp t=0)
theorem Zim (t:Tm) (h:l[i]? = some x):Zk3 t (l.take (i+1))=Zk3 t (l.take i)++if decide (x.cmp t=0)=true then [] else [x]:=by
 have e:l.take (i+1)=l.take i++ [x]:=by rw [List.take_add_one,h];rfl
 rw [e]
 unfold Zk3
 rw [List.filter_append,List.filter_cons,List.filter_nil]
 cases decide (x.cmp t=0)<;>rfl
theorem Zkt (t:Tm) (l:List Tm):(Zk3 t l).length≤l.length:=List.length_filter_le _ _
theorem ZrB (hl:SmL l) (ht:t.Ok∧t.size≤100000) (hlen:l.length≤100000) (b:Bool):∀ H,CallOk E0 Tryz.prog 209 [slV b 4 (Za l),.agg t.cells] H (slV true 4 (Za (Q7 l t))) H:=by
 have hh:=Zsr hl ht (by omega) b
 have ha:=Zq9 b hl ht.1 ht.2 hlen
 have hcs:∀ x,x∈l→∀ H,CallOk E0 Tryz.prog 44 [.agg x.cells,.agg t.cells] H (.bool (decide (x.cmp t=0))) H:=fun x hx=>Zd3 (up2 (hl x hx)) (up2 ht)
 have hns:=fun (i:Nat) (x:Tm) (h:l[i]? = some x)=>Zim t h
 have hnl:=Zkt t
 have ht8:Q7 l t=if Zeh l t=true then Zk3 t l else UP l t:=rfl
 rw [ht8]
 generalize Zeh l t=C at hh ⊢
 generalize UP l t=AL at ha ⊢
 obtain ⟨T,hT⟩:∃ T,T=t:=⟨_,rfl⟩
 rw [show Zk3 t l=Zk3 T l from by rw [hT]]
 rw [← hT] at hns hnl
 obtain ⟨k,nm,s,f,kz⟩:=t
 simp only [Tm.cells] at hh ha hcs ⊢
 refine Jw tOk fe209.ok (Zw _ _ _ _ _) ?_ (by simp only [ZM,YP];simp [frzG,Xr])
 cases C
 · rw [if_neg (by decide)]
   repeat' first|refine Jc (hh _) ?_|refine Jc (ha _) ?_|refine Jt ?_|refine Jo ?_|fail
   all_goals exact Zw _ _ _ _ _
 · rw [if_pos rfl]
   repeat' first|refine Jc (hh _) ?_|refine Jt ?_|refine Jo ?_|fail
   refine Wp.while (fun m tm H => ∃ (i : Nat) (base : TM) (out : PV) (lv : List Nat) (nt : Nat), i + m = l.length ∧ ApV true 4 (Za (Zk3 T (l.take i))) out lv nt ∧
     tm=ovr base [(5,out),(0,slV b 4 (Za l)),(3,.ptr 0 4 0 0),(6,.int .i64 (i:Int))]∧H=⟨[.cells 4 [[.int .i64 k,.str nm,.int .i64 s,slV f 4 (Za kz)]]],0,lv,nt⟩)
    (fun m tm H hI=>?_) l.length _ _ ⟨0,_,_,_,_,by omega,.nil _ _ rfl,Zf ⟨rfl,rfl,rfl,rfl,trivial⟩,rfl⟩
   obtain ⟨i,base,out,lv,nt,hi,hA,rfl,rfl⟩:=hI
   by_cases hlt:i<l.length
   · obtain ⟨x, hx⟩ : ∃ x, l[i]? = some x := ⟨l[i], by simp⟩
     have hc:=hcs x (List.mem_of_getElem? hx)
     have hd:=hns i x hx
     have hle:=hnl (l.take i)
     rw [List.length_take] at hle
     obtain ⟨o1,lv1,nt1,hap1,hA1⟩:=QS hA x (by omega)
     rw [← hT] at hc
     generalize decide (x.cmp T=0)=c at hc hd
     obtain ⟨k',nm',s',f',kz'⟩:=x
     have hj:=Zk hx
     simp only [Tm.cells] at hc hap1
     cases c
     · rw [if_neg (by decide)] at hd
       rw [← hd] at hA1
       repeat' first|refine Js ?_|refine JA ?_|refine Jl ?_|refine Jx ?_|refine Jb ?_ ?_|refine Jo ?_|refine Jd (hc _) ?_|refine JI ?_|(apply dT (ty:=4);rfl;rfl;rfl;rfl)|refine Jh ?_|(apply Wp.draw tOk follows;kernel_rfl)|intro hb
       all_goals first
        | (exfalso;simp at hb;done)
        | (exfalso;simp only [Zb,decide_eq_false_iff_not] at hb;omega)
        | exact LoopI.go (m-1) (by omega) ⟨i+1,_,o1,lv1,nt1,by omega,hA1,Zf ⟨rfl,rfl,rfl,Zd (Zc (n:=i+1) (by omega)),trivial⟩,rfl⟩
     · rw [if_pos rfl, List.append_nil] at hd
       rw [← hd] at hA
       repeat' first|refine Jl ?_|refine Jb ?_ ?_|refine Jo ?_|refine Jd (hc _) ?_|refine JI ?_|(apply dF (ty:=4);rfl;rfl;rfl;rfl)|refine Jh ?_|(apply Wp.draw tOk follows;kernel_rfl)|intro hb
       all_goals first
        | (exfalso;simp at hb;done)
        | (exfalso;simp only [Zb,decide_eq_false_iff_not] at hb;omega)
        | exact LoopI.go (m-1) (by omega) ⟨i+1,_,out,lv,nt,by omega,hA,Zf ⟨rfl,rfl,rfl,Zd (Zc (n:=i+1) (by omega)),trivial⟩,rfl⟩
   · have e : i = l.length := by omega
     subst e
     rw [List.take_length] at hA
     repeat' first|refine Jl ?_|refine Jb ?_ ?_|refine Jo ?_|refine Jh ?_|(apply Wp.draw tOk follows;kernel_rfl)|intro hb
     · exfalso;rw [Zb] at hb;simp at hb
     · exact hA.frz3 _ _
