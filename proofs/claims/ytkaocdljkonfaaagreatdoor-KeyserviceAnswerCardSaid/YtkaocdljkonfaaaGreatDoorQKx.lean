/-
  A service is valid for the program just where the document says so. New services and new readers, the program's way. A service behind changes is valid
-/
import Derived.Test.YtkaocdljkonfaaaGreatDoorQJf
set_option maxHeartbeats 64000000
set_option maxRecDepth 100000
namespace Go.Vm.Seat
variable {name:Bs} {L M r:List En} {a e:En} {l:List Tm} {key:Tm} {s:Sv}
open Go.Proofs
theorem Yt (name:Bs) (a:En) (r:List En):Z0 name (a::r)=if a.name=name then some a else Z0 name r:=by
 unfold Z0
 by_cases h:a.name=name
 · rw [List.find?_cons_of_pos (by simpa using h),if_pos h]
 · rw [List.find?_cons_of_neg (by simpa using h),if_neg h]
theorem ZbN (name:Bs) (L M:List En):Z0 name (L++M)=(Z0 name L).or (Z0 name M):=by
 unfold Z0
 exact List.find?_append
theorem ZcT (h:∀ e,e∈L→e.name≠name):Z0 name L=none:=by
 unfold Z0
 rw [List.find?_eq_none]
 intro e he
 simpa using h e he
theorem ZgY (h:Z0 name L=some e):e.name=name:=by
 unfold Z0 at h
 have:=List.find?_some h
 simpa using this
theorem Ua (name sub:Bs):∀ (L:List En),Z0 name (L.filter (Yn sub))=if name=sub then none else Z0 name L
 | []=>by simp [Z0]
 | a :: r => by
   have ih:=Ua name sub r
   by_cases ha:a.name=sub
   · rw [List.filter_cons_of_neg (by simp [Yn, ha]), ih, Yt]
     by_cases hn:name=sub
     · rw [if_pos hn,if_pos hn]
     · rw [if_neg hn,if_neg hn,if_neg (fun e=>hn (by rw [← e,ha]))]
   · rw [List.filter_cons_of_pos (by simp [Yn, ha]), Yt, Yt, ih]
     by_cases hn:name=sub
     · rw [if_pos hn,if_pos hn,if_neg (by rw [hn];exact ha)]
     · rw [if_neg hn,if_neg hn]
theorem ZeR {p:Nat} (hM:∀ u,u∈M→u.name≠e.name):Z0 name (Zaz M p e)=if name=e.name then some e else Z0 name M:=by
 have h0:Z0 name M=(Z0 name (M.take p)).or (Z0 name (M.drop p)):=by rw [← ZbN,List.take_append_drop]
 unfold Zaz
 rw [ZbN,ZbN,Yt,h0]
 by_cases hn:name=e.name
 · rw [if_pos hn, if_pos hn.symm, ZcT (L := M.take p) (fun u hu => by rw [hn]; exact hM u (List.mem_of_mem_take hu))]
   rfl
 · rw [if_neg hn, if_neg (fun h => hn h.symm)]
   cases Z0 name (M.take p)<;>rfl
def Agr (l:List Tm) (L:List En):Prop:=∀ name,Z0 name L=if (Zs name l.reverse).2.2=true then some ⟨name,(Zs name l.reverse).1.cl,((Zs name l.reverse).2.1:Int)⟩ else none
theorem ZlL:Agr [] []:=fun name=>by simp [Z0,Zs]
theorem Zcj (name:Bs) (l:List Tm) (t:Tm):Zs name (l++ [t]).reverse=if (Zj t).2=0∧(Zj t).1.sub=name then ((Zj t).1.key,l.length,decide ((Zj t).1.till≠0)) else Zs name l.reverse:=by
 rw [List.reverse_append,List.reverse_singleton,List.singleton_append]
 simp only [Zs,List.length_reverse]
theorem Zlb (h:Agr l L) (x:Cred):eqK L x=((Zs x.sub l.reverse).2.2&&decide ((Zs x.sub l.reverse).1.cmp x.key=0)):=by
 unfold eqK
 rw [h x.sub]
 cases (Zs x.sub l.reverse).2.2 with
 |false=>simp
 | true =>
   simp only [if_true,Option.isSome_some,Bool.true_and,Option.getD_some]
   rw [decide_eq_decide,YG,YG,ZbR]
theorem ZiI (h:Agr l L) (key t:Tm):(ZcV l t key=false∧XO key l.length t L=none)∨(ZcV l t key=true∧∃ L',XO key l.length t L=some L'∧Agr (l++ [t]) L'):=by
 unfold XO ZcV
 rw [Zlb h]
 by_cases h1:(Zj t).2=0
 · by_cases h2 : (Zj t).1.till ≠ 9999 ∧ (Zj t).1.till ≠ 0
   · left
     refine ⟨?_,by rw [if_pos (.inr h2)]⟩
     simp [Zj6,h1,h2]
   · have hn : ¬ ((Zj t).2 ≠ 0 ∨ ((Zj t).1.till ≠ 9999 ∧ (Zj t).1.till ≠ 0)) := fun e => e.elim (fun e => e h1) h2
     have hb4:(decide ((Zj t).1.till≠0)&&decide ((Zj t).1.till≠9999))=false:=by
      rw [Bool.eq_false_iff]
      intro e
      simp only [Bool.and_eq_true,decide_eq_true_eq] at e
      exact h2 ⟨e.2,e.1⟩
     rw [if_neg hn,hb4]
     generalize hI:(ZA (Zj t).1.sub (Zj t).1.key l.length (Zj t).1.till).issue key=I
     by_cases h3:I.2=0
     · by_cases h4 : t.cmp I.1 = 0
       · rw [if_neg (fun e => e.elim (fun e => e h3) (fun e => e h4))]
         generalize hQ:((Zs (Zj t).1.sub l.reverse).2.2&&decide ((Zs (Zj t).1.sub l.reverse).1.cmp (Zj t).1.key=0))=Q
         have hfit:Zj6 (decide ((Zj t).2≠0)) (decide (I.2≠0)) (decide (t.cmp I.1=0)) false (Zs (Zj t).1.sub l.reverse).2.2 (decide ((Zs (Zj t).1.sub l.reverse).1.cmp (Zj t).1.key=0)) (decide ((Zj t).1.till=0))=(Q==decide ((Zj t).1.till=0)):=by
          rw [← hQ]
          simp [Zj6,h1,h3,h4]
         rw [hfit]
         by_cases h5:Q=decide ((Zj t).1.till=0)
         · right
           refine ⟨by rw [h5];simp,?_⟩
           rw [if_neg (not_not_intro h5)]
           by_cases h6:(Zj t).1.till=0
           · rw [if_pos h6]
             refine ⟨_,rfl,fun name=>?_⟩
             have ls:=Zcj name l t
             rw [Ua,h name]
             by_cases hs:(Zj t).1.sub=name
             · rw [if_pos ⟨h1, hs⟩] at ls
               rw [if_pos hs.symm,ls,h6]
               simp
             · rw [if_neg (fun e => hs e.2)] at ls
               rw [if_neg (fun e=>hs e.symm),ls]
           · rw [if_neg h6]
             refine ⟨_,rfl,fun name=>?_⟩
             have ls:=Zcj name l t
             have fi:=ZeR (name:=name) (M:=L.filter (Yn (Zj t).1.sub)) (p:=Ww (Zj t).1.sub (L.filter (Yn (Zj t).1.sub))) (e:=⟨(Zj t).1.sub,(Zj t).1.key.cl,(l.length:Int)⟩) Zie
             unfold QS
             rw [fi,Ua,h name]
             by_cases hs:(Zj t).1.sub=name
             · rw [if_pos ⟨h1, hs⟩] at ls
               rw [if_pos hs.symm,ls,hs]
               simp [h6]
             · rw [if_neg (fun e => hs e.2)] at ls
               rw [if_neg (fun e=>hs e.symm),if_neg (fun e=>hs e.symm),ls]
         · left
           refine ⟨?_,by rw [if_pos h5]⟩
           cases Q<;>cases hd:decide ((Zj t).1.till=0)<;>simp_all
       · left
         refine ⟨?_,by rw [if_pos (.inr h4)]⟩
         simp [Zj6,h4]
     · left
       refine ⟨?_,by rw [if_pos (.inl h3)]⟩
       simp [Zj6,h3]
 · left
   refine ⟨?_,by rw [if_pos (.inl h1)]⟩
   simp [Zj6,h1]
theorem Zgt (key:Tm):∀ (r l:List Tm) {L:List En},Agr l L→(Zkh (l++r) key l.length r.length=false∧WY key r l.length L=none)∨(Zkh (l++r) key l.length r.length=true∧∃ L',WY key r l.length L=some L'∧Agr (l++r) L')
 | [],l,L,h=> .inr ⟨rfl,L,rfl,by rw [List.append_nil];exact h⟩
 | t :: r, l, L, h => by
   have e1:(l++t::r)[l.length]? = some t:=by simp
   have e2:(l++t::r).take l.length=l:=by simp
   have e3:l++t::r=(l++ [t])++r:=by simp
   have e4:(l++ [t]).length=l.length+1:=by simp
   simp only [Zkh,List.length_cons,e1,e2,WY]
   rcases ZiI h key t with ⟨a,b⟩|⟨a,L',b,c⟩
   · left
     rw [a,b]
     exact ⟨rfl,rfl⟩
   · rw [a, b, Bool.true_and]
     have ih:=Zgt key r (l++ [t]) c
     rw [e4, ← e3] at ih
     exact ih
theorem Uq {name:Bs}:∀ {l:List Tm},(Zs name l).2.2=true→∃ t,l.reverse[(Zs name l).2.1]? = some t∧(Zj t).1.sub=name
 | [],h=>by simp [Zs] at h
 | t :: r, h => by
   simp only [Zs] at h ⊢
   by_cases hc:(Zj t).2=0∧(Zj t).1.sub=name
   · rw [if_pos hc]
     refine ⟨t,?_,hc.2⟩
     rw [List.reverse_cons,List.getElem?_append_right (by simp)]
     simp
   · rw [if_neg hc] at h ⊢
     obtain ⟨u,h1,h2⟩:=Uq h
     refine ⟨u,?_,h2⟩
     rw [List.reverse_cons,List.getElem?_append_left (ZS h1)]
     exact h1
def KF (l:List Tm) (i:Nat) (M:List En):Prop:=∀ name,Z0 name M=if (Zs name l.reverse).2.2=true∧(Zs name l.reverse).2.1<i then some ⟨name,(Zs name l.reverse).1,((Zs name l.reverse).2.1:Int)⟩ else none
theorem ZiM (h:e∈M):(Z0 e.name M).isSome=true:=by
 unfold Z0
 rw [List.find?_isSome]
 exact ⟨e,h,by simp⟩
theorem U1 (l:List Tm):∀ i,i≤l.length→KF l i (YN l i)∧Uo (YN l i)
 |0,_=>⟨fun name=>by rw [if_neg (by omega)];rfl,fun i j a b _ h=>absurd h (by simp [YN])⟩
 | i + 1, h => by
   obtain ⟨ih,io⟩:=U1 l i (by omega)
   obtain ⟨t,ht⟩:∃ t,l[i]? = some t:=⟨l[i],by simp⟩
   simp only [YN,ht,UR]
   generalize hx:(Zj t).1.sub=x
   by_cases hc:(Zs x l.reverse).2.2=false∨(Zs x l.reverse).2.1≠i
   · rw [if_pos hc]
     refine ⟨fun name=>?_,io⟩
     rw [ih name]
     by_cases hn:(Zs name l.reverse).2.2=true∧(Zs name l.reverse).2.1<i
     · rw [if_pos hn,if_pos ⟨hn.1,by omega⟩]
     · rw [if_neg hn, if_neg]
       rintro ⟨q1,q2⟩
       have q3:(Zs name l.reverse).2.1=i:=by
        rcases Nat.lt_or_ge (Zs name l.reverse).2.1 i with q|q
        · exact absurd ⟨q1,q⟩ hn
        · omega
       obtain ⟨u,u1,u2⟩:=Uq q1
       rw [List.reverse_reverse,q3,ht] at u1
       cases u1
       rw [hx] at u2
       subst u2
       rcases hc with hc|hc
       · rw [q1] at hc;cases hc
       · exact hc q3
   · rw [if_neg hc]
     have c1:(Zs x l.reverse).2.2=true:=by
      cases e:(Zs x l.reverse).2.2 with
      | true=>rfl
      | false=>exact absurd (.inl e) hc
     have c2:(Zs x l.reverse).2.1=i:=Classical.not_not.1 fun e=>hc (.inr e)
     have hne:∀ u,u∈YN l i→u.name≠x:=fun u hu e=>by
      have h1:=ZiM hu
      rw [e,ih x,if_neg (by rw [c2];omega)] at h1
      cases h1
     have hins:Zk0 (YN l i) (Ww x (YN l i)) ⟨x,(Zs x l.reverse).1,((Zs x l.reverse).2.1:Int)⟩=Zaz (YN l i) (Ww x (YN l i)) ⟨x,(Zs x l.reverse).1,((Zs x l.reverse).2.1:Int)⟩:=rfl
     rw [hins]
     refine ⟨fun name=>?_,Zhn (e:=⟨x,(Zs x l.reverse).1,((Zs x l.reverse).2.1:Int)⟩) io hne⟩
     have fi:=ZeR (name:=name) (M:=YN l i) (p:=Ww x (YN l i)) (e:=⟨x,(Zs x l.reverse).1,((Zs x l.reverse).2.1:Int)⟩) hne
     rw [fi,ih name]
     by_cases hn:name=x
     · subst hn
       rw [if_pos rfl,if_pos ⟨c1,by omega⟩]
     · rw [if_neg hn]
       by_cases hq:(Zs name l.reverse).2.2=true∧(Zs name l.reverse).2.1<i
       · rw [if_pos hq,if_pos ⟨hq.1,by omega⟩]
       · rw [if_neg hq, if_neg]
         rintro ⟨q1,q2⟩
         have q3:(Zs name l.reverse).2.1=i:=by
          rcases Nat.lt_or_ge (Zs name l.reverse).2.1 i with q|q
          · exact absurd ⟨q1,q⟩ hq
          · omega
         obtain ⟨u,u1,u2⟩:=Uq q1
         rw [List.reverse_reverse,q3,ht] at u1
         cases u1
         exact hn (u2.symm.trans hx)
theorem Ze8 (h:Uo (a::r)):∀ u,u∈r→Xp a.name u.name<0:=(List.pairwise_cons.1 (Zan.1 h)).1
theorem Zes (h:Uo (a::r)):Uo r:=Zan.2 (List.pairwise_cons.1 (Zan.1 h)).2
theorem Zcu (a:Bs):Xp a a=0:=by
 have:=cmpB_on.anti a a trivial trivial
 omega
theorem Zct (h:Uo (a::r)) (name:Bs):Z0 name r=if a.name=name then none else Z0 name (a::r):=by
 rw [Yt]
 by_cases hn:a.name=name
 · rw [if_pos hn]
   refine ZcT fun u hu e=>?_
   have:=Ze8 h u hu
   rw [e, ← hn,Zcu] at this
   omega
 · rw [if_neg hn,if_neg hn]
def enK (e:En):Bs×Tm×Int:=(e.name,e.key.cl,e.idx)
theorem Zho:∀ {L M:List En} (K:List En),L.map enK=M.map enK→enB L K=enB M K
 | [],[],_,_=>rfl
 | [],_::_,_,h=>by simp at h
 |_::_,[],_,h=>by simp at h
 |a::r,b::s,[],_=>rfl
 | a :: r, b :: s, c :: t, h => by
   simp only [List.map_cons,List.cons.injEq,enK,Prod.mk.injEq] at h
   obtain ⟨⟨h1,h2,h3⟩,h4⟩:=h
   have hc:decide (a.key.cmp c.key=0)=decide (b.key.cmp c.key=0):=by rw [decide_eq_decide,YG,YG,h2]
   simp only [enB,h1,h3,hc,Zho t h4]
theorem Zeo:∀ {L M:List En},Uo L→Uo M→(∀ name,(Z0 name L).map enK=(Z0 name M).map enK)→L.map enK=M.map enK
 | [],[],_,_,_=>rfl
 | [], b :: s, _, _, h => by
   have:=h b.name
   rw [Yt,if_pos rfl] at this
   simp [Z0] at this
 | a :: r, [], _, _, h => by
   have:=h a.name
   rw [Yt,if_pos rfl] at this
   simp [Z0] at this
 | a :: r, b :: s, hL, hM, h => by
   have key:∀ {a b:En} {r s:List En},Uo (b::s)→(∀ name,(Z0 name (a::r)).map enK=(Z0 name (b::s)).map enK)→Xp b.name a.name≤0:=fun {a b r s} hM h=>by
    have h1:=h a.name
    rw [Yt,if_pos rfl,Yt] at h1
    by_cases hn:b.name=a.name
    · rw [hn,Zcu];omega
    · rw [if_neg hn] at h1
      cases hf:Z0 a.name s with
      | none=>rw [hf] at h1;simp at h1
      | some u =>
        have:=Ze8 hM u (Zel hf)
        rw [ZgY hf] at this
        omega
   have k1:=key hM h
   have k2:=key hL (fun n=>(h n).symm)
   have hab:Xp a.name b.name=0:=by
    have:=cmpB_on.anti a.name b.name trivial trivial
    omega
   have hnm:a.name=b.name:=by
    unfold Xp at hab
    split at hab
    · cases hab
    · split at hab
      · assumption
      · cases hab
   have h0:=h a.name
   rw [Yt,if_pos rfl,Yt,if_pos hnm.symm] at h0
   simp only [Option.map_some,Option.some.injEq] at h0
   have ht:r.map enK=s.map enK:=Zeo (Zes hL) (Zes hM) fun name=>by
    rw [Zct hL,Zct hM,hnm]
    by_cases hn:b.name=name
    · rw [if_pos hn,if_pos hn]
    · rw [if_neg hn,if_neg hn,h name]
   rw [List.map_cons,List.map_cons,h0,ht]
theorem Zbl (h:Tm) (n:Int) (key:Tm):(YI Tm.cl h.cl n key).2=(YI id h n key).2:=by
 have e1:(Wb h.cl n key).cl=(Wb h n key).cl:=by simp only [Wb,U5,U4,Tm.cl,clL,ZbR]
 have v0:=QB h
 have v:=VY ((ZbC h.cl n key).trans e1)
 unfold YI
 simp only [id,v,v0]
 split; · rfl
 split; · rfl
 split; · rfl
 split; · rfl
 rfl
theorem Zhy {t:Tm} {i:Nat} {L':List En} (hO:Uo L) (e:XO key i t L=some L'):Uo L':=by
 unfold XO at e
 split at e; · cases e
 split at e; · cases e
 split at e; · cases e
 split at e
 · cases e;exact Vx hO _
 · cases e;exact ZhC hO _ _ _
theorem ZcN {key:Tm}:∀ {log:List Tm} {i:Nat} {L L':List En},Uo L→WY key log i L=some L'→Uo L'
 | [], i, L, L', hO, e => by
   simp only [WY,Option.some.injEq] at e
   subst e
   exact hO
 | t :: r, i, L, L', hO, e => by
   simp only [WY] at e
   cases hs:XO key i t L with
   | none=>rw [hs] at e;cases e
   | some L1=>rw [hs] at e;exact ZcN (Zhy hO hs) e
theorem ZiS:Uo []:=fun i j a b _ h=>absurd h (by simp)
theorem ZkO (s:Sv):svP s=svV s:=by
 unfold svP svV
 by_cases h1:XN s.name=false
 · rw [if_pos h1,if_pos h1]
 · rw [if_neg h1, if_neg h1]
   by_cases h2:s.key.cmp (skT s.name)≠0
   · rw [if_pos h2,if_pos h2]
   · rw [if_neg h2, if_neg h2]
     have hs:=(Zgo (Zx s.log).1 s.log.length s.key).1
     have run:=Zgt s.key s.log [] ZlL
     simp only [List.nil_append,List.length_nil] at run
     have hK:∀ L,WY s.key s.log 0 []=some L→Agr s.log L→Uo L→enB L s.keys=enB (YN s.log s.log.length) s.keys:=fun L _ hA hO=>by
      obtain ⟨f1,f2⟩:=U1 s.log s.log.length (Nat.le_refl _)
      refine Zho _ (Zeo hO f2 fun name=>?_)
      rw [hA name,f1 name]
      by_cases hq:(Zs name s.log.reverse).2.2=true
      · obtain ⟨u, u1, -⟩ := Uq hq
        have:=ZS u1
        rw [if_pos hq,if_pos ⟨hq,by simpa using this⟩]
        simp only [Option.map_some,enK,ZbR]
      · rw [if_neg hq,if_neg (fun e=>hq e.1)]
     have hH:(Y7 s.log s.key).2.2=(decide ((Zx s.log).2=0)&&decide ((YI id (Zx s.log).1 s.log.length s.key).2=0)):=by
      unfold Y7
      by_cases e:(Zx s.log).2=0<;>simp [e]
     rw [hH]
     have hlen:(Zx s.log).2=0→¬ 32<s.log.length:=fun e=>by
      have:ZaA s.log=0:=by
       unfold Zx at e
       split at e
       · rename_i q;exact absurd e q
       · rename_i q;exact Classical.not_not.1 q
      have:=Wl this
      omega
     by_cases h3:(Zx s.log).2=0
     · rw [if_neg (not_not_intro h3), if_neg (hlen h3)]
       by_cases h4:(YI id (Zx s.log).1 s.log.length s.key).2=0
       · have h4' : (YI Tm.cl (Zx s.log).1.cl s.log.length s.key).2 = 0 := (Zbl _ _ _).trans h4
         rw [if_neg (not_not_intro h4'),h3,h4]
         rcases run with ⟨a,b⟩|⟨a,L',b,c⟩
         · rw [a, Zi0, b]
           simp
         · have hk := hK L' b c (ZcN ZiS b)
           rw [a,Zi0,b]
           simp [← hk]
       · have h4' : ¬ (YI Tm.cl (Zx s.log).1.cl s.log.length s.key).2 = 0 := fun e => h4 ((Zbl _ _ _).symm.trans e)
         rw [if_pos h4',if_pos (c:=(_&&_)=false) (by simp [h4])]
         split<;>rfl
     · rw [if_pos h3]
       split
       · rfl
       · rw [if_pos (c := (_ && _) = false) (by simp [h3])]
         split<;>rfl
open Go.Proofs
def Zo3 (s:Sv):Rd×Int:=if svP s≠0 then (.zero,svP s) else (⟨pkT s.key.cl,0,.zero,.zero⟩,0)
theorem Zc2 (t:Tm):(pkT t).cells= [.int .i64 3,.str [112,107],.int .i64 0,.sl .none 4 [t.cells]]:=by
 simp only [pkT,Tm.cells,Za,Zw]
theorem c9 (h:SvOk s):∀ H,CallOk E0 Tryz.prog 9 [.agg s.cells] H (.tup [.agg (Zo3 s).1.cells,.int .i64 (Zo3 s).2]) H:=by
 have c1:=c13 h
 have c2:=c33 h.k (by have:=h.ks;omega)
 have be:=YE (svP s)
 have hfz:=Zcw s
 have hbd:=ZeJ (pkT s.key.cl)
 unfold Zo3
 generalize svP s=V at c1 be ⊢
 clear h
 obtain ⟨name,key,lb,log,kb,keys⟩:=s
 simp only [Sv.cells] at c1 c2 hbd hfz ⊢
 by_cases hv:V=0
 · rw [decide_eq_false (not_not_intro hv)] at be
   rw [if_neg (not_not_intro hv)]
   have hfr:=Vy 0 hNil ⟨pkT key.cl,0,.zero,.zero⟩ 0
   have hft:=fun m H=>Vy m H ⟨pkT key.cl,0,.zero,.zero⟩ 0
   show ∀ H,CallOk E0 Tryz.prog _ _ H (.tup [.agg (Rd.mk (pkT key.cl) 0 .zero .zero).cells,.int .i64 0]) H
   rw [show (Rd.mk (pkT key.cl) 0 .zero .zero).cells=(pkT key.cl).cells++(Rd.mk .zero 0 .zero .zero).cells.drop 4 from by simp only [Rd.cells,Zq,Zc2];rfl] at hbd hfr hft ⊢
   rw [Zc2] at hbd hfr hft ⊢
   generalize key.cl=KC at c2 hbd hfr hft ⊢
   obtain ⟨k1,nm1,s1,b1,kids1⟩:=KC
   obtain ⟨k2,nm2,s2,b2,kids2⟩:=key
   simp only [Rd.cells,Zq,Tm.cells,List.cons_append,List.nil_append,List.drop_succ_cons,List.drop_zero] at c1 c2 hbd hfz hfr hft ⊢
   refine Jw tOk fe9.ok hfr ?_ hfz
   repeat' first|refine Jc (c1 _) ?_|refine Jc (c2 _) ?_|refine Js ?_|refine Ji ?_|refine Jo ?_|fail
   all_goals first|rfl|exact hft 0 hNil
 · rw [decide_eq_true hv] at be
   rw [if_pos hv]
   have hfr:=Vy 0 hNil .zero V
   show ∀ H,CallOk E0 Tryz.prog _ _ H (.tup [.agg Rd.zero.cells,.int .i64 V]) H
   rw [Zdd] at hfr ⊢
   obtain ⟨k2,nm2,s2,b2,kids2⟩:=key
   simp only [Tm.cells,List.cons_append,List.nil_append] at c1 hfz ⊢
   refine Jw tOk fe9.ok hfr ?_ hfz
   repeat' first|refine Jc (c1 _) ?_|refine Ji ?_|refine Jo ?_|fail
   all_goals rfl
open Go.Proofs
theorem ZbX {x:Cred} (he:(ZdQ s x).2=0):svV (ZdQ s x).1=0:=by
 unfold ZdQ at he ⊢
 split at he; · cases he
 split at he; · cases he
 rename_i h1 h2
 rw [if_neg h1,if_neg h2]
 exact Classical.not_not.1 h2
theorem Zjz (he:(Zi2 s name key).2=0):svV (Zi2 s name key).1=0:=by
 unfold Zi2 at he ⊢
 split at he; · rename_i h;exact absurd he h
 split at he; · rename_i h;exact absurd he h
 split at he; · cases he
 rename_i h1 h2 h3
 rw [if_neg h1,if_neg h2,if_neg h3]
 exact ZbX he
theorem ZjN (he:(Zjc s name key).2=0):svV (Zjc s name key).1=0:=by
 unfold Zjc at he ⊢
 split at he; · rename_i h;exact absurd he h
 split at he; · rename_i h;exact absurd he h
 split at he; · cases he
 split at he; · cases he
 rename_i h1 h2 h3 h4
 rw [if_neg h1,if_neg h2,if_neg h3,if_neg h4]
 exact ZbX he
theorem ZjL (he:(ZiT s name).2=0):svV (ZiT s name).1=0:=by
 unfold ZiT at he ⊢
 split at he; · rename_i h;exact absurd he h
 split at he; · cases he
 rename_i h1 h2
 rw [if_neg h1,if_neg h2]
 exact ZbX he
theorem Zk1 {o:Opp} (he:(doF s o).2=0):svV (doF s o).1=0:=by
 unfold doF at he ⊢
 split at he
 · rename_i h
   rw [if_pos h]
   exact Zjz he
 · rename_i h
   rw [if_neg h]
   split at he
   · rename_i h2
     rw [if_pos h2]
     exact ZjN he
   · rename_i h2
     rw [if_neg h2]
     exact ZjL he
theorem ZkJ:svV (V9 Zgf)=0:=by kernel_rfl
theorem ZeO (l:List Opp):∀ i,svV (Wr l i)=0
 |0=>ZkJ
 | i + 1 => by
   have ih:=ZeO l i
   simp only [Wr]
   cases l[i]? with
   | none=>exact ih
   | some o =>
     show svV (ZfM (Wr l i) o)=0
     unfold ZfM
     split
     · exact Zk1 (by assumption)
     · exact ih
theorem ZkV (h:svV s=0):enB (YN s.log s.log.length) s.keys=true:=by
 unfold svV at h
 split at h; · cases h
 split at h; · cases h
 split at h; · cases h
 split at h; · cases h
 split at h; · cases h
 split at h; · cases h
 rename_i h6
 simpa using h6
open Go.Proofs
theorem ZeF:∀ {L M:List En},enB L M=true↔L.map enK=M.map enK
 | [],[]=>by simp [enB]
 | [],_::_=>by simp [enB]
 |_::_,[]=>by simp [enB]
 | a :: r, b :: s => by
   simp only [enB,List.map_cons,List.cons.injEq,Bool.and_eq_true,decide_eq_true_eq,ZeF (L:=r) (M:=s),enK,Prod.mk.injEq,YG]
   constructor
   · rintro ⟨h1,h2,h3,h4⟩;exact ⟨⟨h1,h3,h2⟩,h4⟩
   · rintro ⟨⟨h1,h3,h2⟩,h4⟩;exact ⟨h1,h2,h3,h4⟩
theorem Za3 {name:Bs}:∀ {L M:List En},L.map enK=M.map enK→(Z0 name L).map enK=(Z0 name M).map enK
 | [],[],_=>rfl
 | [],_::_,h=>by simp at h
 |_::_,[],h=>by simp at h
 | a :: r, b :: s, h => by
   rw [List.map_cons,List.map_cons] at h
   injection h with h1 h2
   have hn:a.name=b.name:=by simp only [enK,Prod.mk.injEq] at h1;exact h1.1
   rw [Yt,Yt,hn]
   split
   · simp only [Option.map_some,h1]
   · exact Za3 h2
end Go.Vm.Seat
