/-
  Entries that are the same but for nil-ness.
-/
import Derived.Test.YtpgfeijkfmgnjaaGreatDoorJf
set_option maxHeartbeats 0
set_option maxRecDepth 100000
namespace Go.Vm.Seat
variable {name:Bs} {L M r:List En} {a e:En} {l:List Tm} {key:Tm} {i:Nat} {s:Sv}
open Go.Proofs
theorem YG (name:Bs) (a:En) (r:List En):ZY name (a::r)=if a.name=name then some a else ZY name r:=by
 unfold ZY
 by_cases h:a.name=name
 · rw [List.find?_cons_of_pos (by simpa using h),if_pos h]
 · rw [List.find?_cons_of_neg (by simpa using h),if_neg h]
theorem ZcD (name:Bs) (L M:List En):ZY name (L++M)=(ZY name L).or (ZY name M):=by
 unfold ZY
 exact List.find?_append
theorem ZcV (h:∀ e,e∈L→e.name≠name):ZY name L=none:=by
 unfold ZY
 rw [List.find?_eq_none]
 intro e he
 simpa using h e he
theorem ZiX (h:ZY name L=some e):e.name=name:=by
 unfold ZY at h
 have:=List.find?_some h
 simpa using this
theorem Um (name sub:Bs):∀ (L:List En),ZY name (L.filter (Yq sub))=if name=sub then none else ZY name L
 | []=>by simp [ZY]
 | a :: r => by
   have ih:=Um name sub r
   by_cases ha:a.name=sub
   · rw [List.filter_cons_of_neg (by simp [Yq, ha]), ih, YG]
     by_cases hn:name=sub
     · rw [if_pos hn,if_pos hn]
     · rw [if_neg hn,if_neg hn,if_neg (fun e=>hn (by rw [← e,ha]))]
   · rw [List.filter_cons_of_pos (by simp [Yq, ha]), YG, YG, ih]
     by_cases hn:name=sub
     · rw [if_pos hn,if_pos hn,if_neg (by rw [hn];exact ha)]
     · rw [if_neg hn,if_neg hn]
theorem ZfI {p:Nat} (hM:∀ u,u∈M→u.name≠e.name):ZY name (Za6 M p e)=if name=e.name then some e else ZY name M:=by
 have h0:ZY name M=(ZY name (M.take p)).or (ZY name (M.drop p)):=by rw [← ZcD,List.take_append_drop]
 unfold Za6
 rw [ZcD,ZcD,YG,h0]
 by_cases hn:name=e.name
 · rw [if_pos hn, if_pos hn.symm, ZcV (L := M.take p) (fun u hu => by rw [hn]; exact hM u (List.mem_of_mem_take hu))]
   rfl
 · rw [if_neg hn, if_neg (fun h => hn h.symm)]
   cases ZY name (M.take p)<;>rfl
def Agr (l:List Tm) (L:List En):Prop:=∀ name,ZY name L=if (Zt name l.reverse).2.2=true then some ⟨name,(Zt name l.reverse).1.cl,((Zt name l.reverse).2.1:Int)⟩ else none
theorem Znl:Agr [] []:=fun name=>by simp [ZY,Zt]
theorem ZdW (name:Bs) (l:List Tm) (t:Tm):Zt name (l++ [t]).reverse=if (Zf t).2=0∧(Zf t).1.sub=name then ((Zf t).1.key,l.length,decide ((Zf t).1.till≠0)) else Zt name l.reverse:=by
 rw [List.reverse_append,List.reverse_singleton,List.singleton_append]
 simp only [Zt,List.length_reverse]
theorem Zl9 (h:Agr l L) (x:Cred):eqK L x=((Zt x.sub l.reverse).2.2&&decide ((Zt x.sub l.reverse).1.cmp x.key=0)):=by
 unfold eqK
 rw [h x.sub]
 cases (Zt x.sub l.reverse).2.2 with
 |false=>simp
 | true =>
   simp only [if_true,Option.isSome_some,Bool.true_and,Option.getD_some]
   rw [decide_eq_decide,ZU,ZU,XR]
theorem Zke (h:Agr l L) (key t:Tm):(Zbk l t key=false∧XZ key l.length t L=none)∨(Zbk l t key=true∧∃ L',XZ key l.length t L=some L'∧Agr (l++ [t]) L'):=by
 unfold XZ Zbk
 rw [Zl9 h]
 by_cases h1:(Zf t).2=0
 · by_cases h2 : (Zf t).1.till ≠ 9999 ∧ (Zf t).1.till ≠ 0
   · left
     refine ⟨?_,by rw [if_pos (.inr h2)]⟩
     simp [ZjV,h1,h2]
   · have hn : ¬ ((Zf t).2 ≠ 0 ∨ ((Zf t).1.till ≠ 9999 ∧ (Zf t).1.till ≠ 0)) := fun e => e.elim (fun e => e h1) h2
     have hb4:(decide ((Zf t).1.till≠0)&&decide ((Zf t).1.till≠9999))=false:=by
      rw [Bool.eq_false_iff]
      intro e
      simp only [Bool.and_eq_true,decide_eq_true_eq] at e
      exact h2 ⟨e.2,e.1⟩
     rw [if_neg hn,hb4]
     generalize hI:(Zv (Zf t).1.sub (Zf t).1.key l.length (Zf t).1.till).issue key=I
     by_cases h3:I.2=0
     · by_cases h4 : t.cmp I.1 = 0
       · rw [if_neg (fun e => e.elim (fun e => e h3) (fun e => e h4))]
         generalize hQ:((Zt (Zf t).1.sub l.reverse).2.2&&decide ((Zt (Zf t).1.sub l.reverse).1.cmp (Zf t).1.key=0))=Q
         have hfit:ZjV (decide ((Zf t).2≠0)) (decide (I.2≠0)) (decide (t.cmp I.1=0)) false (Zt (Zf t).1.sub l.reverse).2.2 (decide ((Zt (Zf t).1.sub l.reverse).1.cmp (Zf t).1.key=0)) (decide ((Zf t).1.till=0))=(Q==decide ((Zf t).1.till=0)):=by
          rw [← hQ]
          simp [ZjV,h1,h3,h4]
         rw [hfit]
         by_cases h5:Q=decide ((Zf t).1.till=0)
         · right
           refine ⟨by rw [h5];simp,?_⟩
           rw [if_neg (not_not_intro h5)]
           by_cases h6:(Zf t).1.till=0
           · rw [if_pos h6]
             refine ⟨_,rfl,fun name=>?_⟩
             have ls:=ZdW name l t
             rw [Um,h name]
             by_cases hs:(Zf t).1.sub=name
             · rw [if_pos ⟨h1, hs⟩] at ls
               rw [if_pos hs.symm,ls,h6]
               simp
             · rw [if_neg (fun e => hs e.2)] at ls
               rw [if_neg (fun e=>hs e.symm),ls]
           · rw [if_neg h6]
             refine ⟨_,rfl,fun name=>?_⟩
             have ls:=ZdW name l t
             have fi:=ZfI (name:=name) (M:=L.filter (Yq (Zf t).1.sub)) (p:=WE (Zf t).1.sub (L.filter (Yq (Zf t).1.sub))) (e:=⟨(Zf t).1.sub,(Zf t).1.key.cl,(l.length:Int)⟩) Zjd
             unfold Zad
             rw [fi,Um,h name]
             by_cases hs:(Zf t).1.sub=name
             · rw [if_pos ⟨h1, hs⟩] at ls
               rw [if_pos hs.symm,ls,hs]
               simp [h6]
             · rw [if_neg (fun e => hs e.2)] at ls
               rw [if_neg (fun e=>hs e.symm),if_neg (fun e=>hs e.symm),ls]
         · left
           refine ⟨?_,by rw [if_pos h5]⟩
           cases Q<;>cases hd:decide ((Zf t).1.till=0)<;>simp_all
       · left
         refine ⟨?_,by rw [if_pos (.inr h4)]⟩
         simp [ZjV,h4]
     · left
       refine ⟨?_,by rw [if_pos (.inl h3)]⟩
       simp [ZjV,h3]
 · left
   refine ⟨?_,by rw [if_pos (.inl h1)]⟩
   simp [ZjV,h1]
theorem ZiO (key:Tm):∀ (r l:List Tm) {L:List En},Agr l L→(Zjk (l++r) key l.length r.length=false∧WZ key r l.length L=none)∨(Zjk (l++r) key l.length r.length=true∧∃ L',WZ key r l.length L=some L'∧Agr (l++r) L')
 | [],l,L,h=> .inr ⟨rfl,L,rfl,by rw [List.append_nil];exact h⟩
 | t :: r, l, L, h => by
   have e1:(l++t::r)[l.length]? = some t:=by simp
   have e2:(l++t::r).take l.length=l:=by simp
   have e3:l++t::r=(l++ [t])++r:=by simp
   have e4:(l++ [t]).length=l.length+1:=by simp
   simp only [Zjk,List.length_cons,e1,e2,WZ]
   rcases Zke h key t with ⟨a,b⟩|⟨a,L',b,c⟩
   · left
     rw [a,b]
     exact ⟨rfl,rfl⟩
   · rw [a, b, Bool.true_and]
     have ih:=ZiO key r (l++ [t]) c
     rw [e4, ← e3] at ih
     exact ih
theorem UN {name:Bs}:∀ {l:List Tm},(Zt name l).2.2=true→∃ t,l.reverse[(Zt name l).2.1]? = some t∧(Zf t).1.sub=name
 | [],h=>by simp [Zt] at h
 | t :: r, h => by
   simp only [Zt] at h ⊢
   by_cases hc:(Zf t).2=0∧(Zf t).1.sub=name
   · rw [if_pos hc]
     refine ⟨t,?_,hc.2⟩
     rw [List.reverse_cons,List.getElem?_append_right (by simp)]
     simp
   · rw [if_neg hc] at h ⊢
     obtain ⟨u,h1,h2⟩:=UN h
     refine ⟨u,?_,h2⟩
     rw [List.reverse_cons,List.getElem?_append_left (ZK h1)]
     exact h1
def KF (l:List Tm) (i:Nat) (M:List En):Prop:=∀ name,ZY name M=if (Zt name l.reverse).2.2=true∧(Zt name l.reverse).2.1<i then some ⟨name,(Zt name l.reverse).1,((Zt name l.reverse).2.1:Int)⟩ else none
theorem Zk1 (h:e∈M):(ZY e.name M).isSome=true:=by
 unfold ZY
 rw [List.find?_isSome]
 exact ⟨e,h,by simp⟩
theorem Qv (l:List Tm):∀ i,i≤l.length→KF l i (YZ l i)∧UH (YZ l i)
 |0,_=>⟨fun name=>by rw [if_neg (by omega)];rfl,fun i j a b _ h=>absurd h (by simp [YZ])⟩
 | i + 1, h => by
   obtain ⟨ih,io⟩:=Qv l i (by omega)
   obtain ⟨t,ht⟩:∃ t,l[i]? = some t:=⟨l[i],by simp⟩
   simp only [YZ,ht,Qt]
   generalize hx:(Zf t).1.sub=x
   by_cases hc:(Zt x l.reverse).2.2=false∨(Zt x l.reverse).2.1≠i
   · rw [if_pos hc]
     refine ⟨fun name=>?_,io⟩
     rw [ih name]
     by_cases hn:(Zt name l.reverse).2.2=true∧(Zt name l.reverse).2.1<i
     · rw [if_pos hn,if_pos ⟨hn.1,by omega⟩]
     · rw [if_neg hn, if_neg]
       rintro ⟨q1,q2⟩
       have q3:(Zt name l.reverse).2.1=i:=by
        rcases Nat.lt_or_ge (Zt name l.reverse).2.1 i with q|q
        · exact absurd ⟨q1,q⟩ hn
        · omega
       obtain ⟨u,u1,u2⟩:=UN q1
       rw [List.reverse_reverse,q3,ht] at u1
       cases u1
       rw [hx] at u2
       subst u2
       rcases hc with hc|hc
       · rw [q1] at hc;cases hc
       · exact hc q3
   · rw [if_neg hc]
     have c1:(Zt x l.reverse).2.2=true:=by
      cases e:(Zt x l.reverse).2.2 with
      | true=>rfl
      | false=>exact absurd (.inl e) hc
     have c2:(Zt x l.reverse).2.1=i:=Classical.not_not.1 fun e=>hc (.inr e)
     have hne:∀ u,u∈YZ l i→u.name≠x:=fun u hu e=>by
      have h1:=Zk1 hu
      rw [e,ih x,if_neg (by rw [c2];omega)] at h1
      cases h1
     have hins:ZmS (YZ l i) (WE x (YZ l i)) ⟨x,(Zt x l.reverse).1,((Zt x l.reverse).2.1:Int)⟩=Za6 (YZ l i) (WE x (YZ l i)) ⟨x,(Zt x l.reverse).1,((Zt x l.reverse).2.1:Int)⟩:=rfl
     rw [hins]
     refine ⟨fun name=>?_,Zid (e:=⟨x,(Zt x l.reverse).1,((Zt x l.reverse).2.1:Int)⟩) io hne⟩
     have fi:=ZfI (name:=name) (M:=YZ l i) (p:=WE x (YZ l i)) (e:=⟨x,(Zt x l.reverse).1,((Zt x l.reverse).2.1:Int)⟩) hne
     rw [fi,ih name]
     by_cases hn:name=x
     · subst hn
       rw [if_pos rfl,if_pos ⟨c1,by omega⟩]
     · rw [if_neg hn]
       by_cases hq:(Zt name l.reverse).2.2=true∧(Zt name l.reverse).2.1<i
       · rw [if_pos hq,if_pos ⟨hq.1,by omega⟩]
       · rw [if_neg hq, if_neg]
         rintro ⟨q1,q2⟩
         have q3:(Zt name l.reverse).2.1=i:=by
          rcases Nat.lt_or_ge (Zt name l.reverse).2.1 i with q|q
          · exact absurd ⟨q1,q⟩ hq
          · omega
         obtain ⟨u,u1,u2⟩:=UN q1
         rw [List.reverse_reverse,q3,ht] at u1
         cases u1
         exact hn (u2.symm.trans hx)
theorem ZfJ (h:UH (a::r)):∀ u,u∈r→Xx a.name u.name<0:=(List.pairwise_cons.1 (ZaV.1 h)).1
theorem ZfY (h:UH (a::r)):UH r:=ZaV.2 (List.pairwise_cons.1 (ZaV.1 h)).2
theorem ZdG (a:Bs):Xx a a=0:=by
 have:=cmpB_on.anti a a trivial trivial
 omega
theorem Zda (h:UH (a::r)) (name:Bs):ZY name r=if a.name=name then none else ZY name (a::r):=by
 rw [YG]
 by_cases hn:a.name=name
 · rw [if_pos hn]
   refine ZcV fun u hu e=>?_
   have:=ZfJ h u hu
   rw [e, ← hn,ZdG] at this
   omega
 · rw [if_neg hn,if_neg hn]
def enK (e:En):Bs×Tm×Int:=(e.name,e.key.cl,e.idx)
theorem Zij:∀ {L M:List En} (K:List En),L.map enK=M.map enK→enB L K=enB M K
 | [],[],_,_=>rfl
 | [],_::_,_,h=>by simp at h
 |_::_,[],_,h=>by simp at h
 |a::r,b::s,[],_=>rfl
 | a :: r, b :: s, c :: t, h => by
   simp only [List.map_cons,List.cons.injEq,enK,Prod.mk.injEq] at h
   obtain ⟨⟨h1,h2,h3⟩,h4⟩:=h
   have hc:decide (a.key.cmp c.key=0)=decide (b.key.cmp c.key=0):=by rw [decide_eq_decide,ZU,ZU,h2]
   simp only [enB,h1,h3,hc,Zij t h4]
theorem Zgl:∀ {L M:List En},UH L→UH M→(∀ name,(ZY name L).map enK=(ZY name M).map enK)→L.map enK=M.map enK
 | [],[],_,_,_=>rfl
 | [], b :: s, _, _, h => by
   have:=h b.name
   rw [YG,if_pos rfl] at this
   simp [ZY] at this
 | a :: r, [], _, _, h => by
   have:=h a.name
   rw [YG,if_pos rfl] at this
   simp [ZY] at this
 | a :: r, b :: s, hL, hM, h => by
   have key:∀ {a b:En} {r s:List En},UH (b::s)→(∀ name,(ZY name (a::r)).map enK=(ZY name (b::s)).map enK)→Xx b.name a.name≤0:=fun {a b r s} hM h=>by
    have h1:=h a.name
    rw [YG,if_pos rfl,YG] at h1
    by_cases hn:b.name=a.name
    · rw [hn,ZdG];omega
    · rw [if_neg hn] at h1
      cases hf:ZY a.name s with
      | none=>rw [hf] at h1;simp at h1
      | some u =>
        have:=ZfJ hM u (ZfR hf)
        rw [ZiX hf] at this
        omega
   have k1:=key hM h
   have k2:=key hL (fun n=>(h n).symm)
   have hab:Xx a.name b.name=0:=by
    have:=cmpB_on.anti a.name b.name trivial trivial
    omega
   have hnm:a.name=b.name:=by
    unfold Xx at hab
    split at hab
    · cases hab
    · split at hab
      · assumption
      · cases hab
   have h0:=h a.name
   rw [YG,if_pos rfl,YG,if_pos hnm.symm] at h0
   simp only [Option.map_some,Option.some.injEq] at h0
   have ht:r.map enK=s.map enK:=Zgl (ZfY hL) (ZfY hM) fun name=>by
    rw [Zda hL,Zda hM,hnm]
    by_cases hn:b.name=name
    · rw [if_pos hn,if_pos hn]
    · rw [if_neg hn,if_neg hn,h name]
   rw [List.map_cons,List.map_cons,h0,ht]
theorem Qo (h:Tm) (n:Int) (key:Tm):(Z5 Tm.cl h.cl n key).2=(Z5 id h n key).2:=by
 have e1:(Xn h.cl n key).cl=(Xn h n key).cl:=by simp only [Xn,Ur,Uz,Tm.cl,clL,XR]
 have v0:=U1 h
 have v:=YJ ((Zcy h.cl n key).trans e1)
 unfold Z5
 simp only [id,v,v0]
 split; · rfl
 split; · rfl
 split; · rfl
 split; · rfl
 rfl
theorem ZjI {t:Tm} {L':List En} (hO:UH L) (e:XZ key i t L=some L'):UH L':=by
 unfold XZ at e
 split at e; · cases e
 split at e; · cases e
 split at e; · cases e
 split at e
 · cases e;exact VH hO _
 · cases e;exact Zii hO _ _ _
theorem Zd1 {key:Tm}:∀ {log:List Tm} {i:Nat} {L L':List En},UH L→WZ key log i L=some L'→UH L'
 | [], i, L, L', hO, e => by
   simp only [WZ,Option.some.injEq] at e
   subst e
   exact hO
 | t :: r, i, L, L', hO, e => by
   simp only [WZ] at e
   cases hs:XZ key i t L with
   | none=>rw [hs] at e;cases e
   | some L1=>rw [hs] at e;exact Zd1 (ZjI hO hs) e
theorem Zlb:UH []:=fun i j a b _ h=>absurd h (by simp)
theorem Zi8 (s:Sv):svP s=svV s:=by
 unfold svP svV
 by_cases h1:Xq s.name=false
 · rw [if_pos h1,if_pos h1]
 · rw [if_neg h1, if_neg h1]
   by_cases h2:s.key.cmp (skT s.name)≠0
   · rw [if_pos h2,if_pos h2]
   · rw [if_neg h2, if_neg h2]
     have hs:=(UV (Zy s.log).1 s.log.length s.key).1
     have run:=ZiO s.key s.log [] Znl
     simp only [List.nil_append,List.length_nil] at run
     have hK:∀ L,WZ s.key s.log 0 []=some L→Agr s.log L→UH L→enB L s.keys=enB (YZ s.log s.log.length) s.keys:=fun L _ hA hO=>by
      obtain ⟨f1,f2⟩:=Qv s.log s.log.length (Nat.le_refl _)
      refine Zij _ (Zgl hO f2 fun name=>?_)
      rw [hA name,f1 name]
      by_cases hq:(Zt name s.log.reverse).2.2=true
      · obtain ⟨u, u1, -⟩ := UN hq
        have:=ZK u1
        rw [if_pos hq,if_pos ⟨hq,by simpa using this⟩]
        simp only [Option.map_some,enK,XR]
      · rw [if_neg hq,if_neg (fun e=>hq e.1)]
     have hH:(Wf s.log s.key).2.2=(decide ((Zy s.log).2=0)&&decide ((Z5 id (Zy s.log).1 s.log.length s.key).2=0)):=by
      unfold Wf
      by_cases e:(Zy s.log).2=0<;>simp [e]
     rw [hH]
     have hlen:(Zy s.log).2=0→¬ 32<s.log.length:=fun e=>by
      have:ZbD s.log=0:=by
       unfold Zy at e
       split at e
       · rename_i q;exact absurd e q
       · rename_i q;exact Classical.not_not.1 q
      have:=VZ this
      omega
     by_cases h3:(Zy s.log).2=0
     · rw [if_neg (not_not_intro h3), if_neg (hlen h3)]
       by_cases h4:(Z5 id (Zy s.log).1 s.log.length s.key).2=0
       · have h4' : (Z5 Tm.cl (Zy s.log).1.cl s.log.length s.key).2 = 0 := (Qo _ _ _).trans h4
         rw [if_neg (not_not_intro h4'),h3,h4]
         rcases run with ⟨a,b⟩|⟨a,L',b,c⟩
         · rw [a, Zlh, b]
           simp
         · have hk := hK L' b c (Zd1 Zlb b)
           rw [a,Zlh,b]
           simp [← hk]
       · have h4' : ¬ (Z5 Tm.cl (Zy s.log).1.cl s.log.length s.key).2 = 0 := fun e => h4 ((Qo _ _ _).symm.trans e)
         rw [if_pos h4',if_pos (c:=(_&&_)=false) (by simp [h4])]
         split<;>rfl
     · rw [if_pos h3]
       split
       · rfl
       · rw [if_pos (c := (_ && _) = false) (by simp [h3])]
         split<;>rfl
theorem c5 (name:Bs) (hn:name.length≤1000):∀ H,CallOk E0 Tryz.prog 5 [.str name] H (.tup [.agg (if Xq name=true then WW name else svZero).cells,.int .i64 (if Xq name=true then 0 else 2)]) H:=by
 have c1:=c17 name (by omega)
 have c2:=c18 name
 have hb:=ZiS name (skT name)
 unfold WW
 generalize Xq name=B at c1 ⊢
 cases B with
 | false =>
   have hfr:=Y7 0 hNil svZero 2
   have hft:=fun m H=>Y7 m H svZero 2
   show ∀ H,CallOk E0 Tryz.prog _ _ H (.tup [.agg svZero.cells,.int .i64 2]) H
   rw [ZL] at hfr hft ⊢
   refine Jw tOk fe5.ok hfr ?_
   repeat' first|refine Jc (c1 _) ?_|refine Jt ?_|refine Jo ?_|fail
   all_goals first|rfl|exact hft _ _
 | true =>
   have hfr:=Y7 0 hNil ⟨name,skT name,true,[],true,[]⟩ 0
   have hft:=fun m H=>Y7 m H ⟨name,skT name,true,[],true,[]⟩ 0
   show ∀ H,CallOk E0 Tryz.prog _ _ H (.tup [.agg (Sv.mk name (skT name) true [] true []).cells,.int .i64 0]) H
   generalize skT name=K at c2 hb hfr hft ⊢
   obtain ⟨kk,nm,z,b,kz⟩:=K
   simp only [Sv.cells,Tm.cells,List.cons_append,List.nil_append] at c2 hb hfr hft ⊢
   refine Jw tOk fe5.ok hfr ?_
   repeat' first|refine Jc (c1 _) ?_|refine Jc (c2 _) ?_|(apply qBd;rfl;rfl;rfl;assumption;exact IsV.aggN)|refine Jt ?_|refine Jo ?_|fail
   all_goals exact hft _ _
def ZoD (s:Sv):Rd×Int:=if svP s≠0 then (.zero,svP s) else (⟨pkT s.key.cl,0,.zero,.zero⟩,0)
theorem ZcU (t:Tm):(pkT t).cells= [.int .i64 3,.str [112,107],.int .i64 0,.sl .none 4 [t.cells]]:=by
 simp only [pkT,Tm.cells,Za,Zw]
theorem c6 (h:SvOk s):∀ H,CallOk E0 Tryz.prog 6 [.agg s.cells] H (.tup [.agg (ZoD s).1.cells,.int .i64 (ZoD s).2]) H:=by
 have c1:=c19 h
 have c2:=c20 h.k (by have:=h.ks;omega)
 have be:=YF (svP s)
 have hfz:=Ze6 s
 have hbd:=ZkT (pkT s.key.cl)
 unfold ZoD
 generalize svP s=V at c1 be ⊢
 clear h
 obtain ⟨name,key,lb,log,kb,keys⟩:=s
 simp only [Sv.cells] at c1 c2 hbd hfz ⊢
 by_cases hv:V=0
 · rw [decide_eq_false (not_not_intro hv)] at be
   rw [if_neg (not_not_intro hv)]
   have hfr:=Zcw 0 hNil ⟨pkT key.cl,0,.zero,.zero⟩ 0
   have hft:=fun m H=>Zcw m H ⟨pkT key.cl,0,.zero,.zero⟩ 0
   show ∀ H,CallOk E0 Tryz.prog _ _ H (.tup [.agg (Rd.mk (pkT key.cl) 0 .zero .zero).cells,.int .i64 0]) H
   rw [show (Rd.mk (pkT key.cl) 0 .zero .zero).cells=(pkT key.cl).cells++(Rd.mk .zero 0 .zero .zero).cells.drop 4 from by simp only [Rd.cells,Zk,ZcU];rfl] at hbd hfr hft ⊢
   rw [ZcU] at hbd hfr hft ⊢
   generalize key.cl=KC at c2 hbd hfr hft ⊢
   obtain ⟨k1,nm1,s1,b1,kz1⟩:=KC
   obtain ⟨k2,nm2,s2,b2,kz2⟩:=key
   simp only [Rd.cells,Zk,Tm.cells,List.cons_append,List.nil_append,List.drop_succ_cons,List.drop_zero] at c1 c2 hbd hfz hfr hft ⊢
   refine Jw tOk fe6.ok hfr ?_ hfz
   repeat' first|refine Jc (c1 _) ?_|refine Jc (c2 _) ?_|refine Js ?_|refine Ji ?_|refine Jo ?_|fail
   all_goals first|rfl|exact hft 0 hNil
 · rw [decide_eq_true hv] at be
   rw [if_pos hv]
   have hfr:=Zcw 0 hNil .zero V
   show ∀ H,CallOk E0 Tryz.prog _ _ H (.tup [.agg Rd.zero.cells,.int .i64 V]) H
   rw [Zdv] at hfr ⊢
   obtain ⟨k2,nm2,s2,b2,kz2⟩:=key
   simp only [Tm.cells,List.cons_append,List.nil_append] at c1 hfz ⊢
   refine Jw tOk fe6.ok hfr ?_ hfz
   repeat' first|refine Jc (c1 _) ?_|refine Ji ?_|refine Jo ?_|fail
   all_goals rfl
theorem Zco {x:Cred} (he:(ZcQ s x).2=0):svV (ZcQ s x).1=0:=by
 unfold ZcQ at he ⊢
 split at he; · cases he
 split at he; · cases he
 rename_i h1 h2
 rw [if_neg h1,if_neg h2]
 exact Classical.not_not.1 h2
theorem Zj4 (he:(ZjP s name key).2=0):svV (ZjP s name key).1=0:=by
 unfold ZjP at he ⊢
 split at he; · rename_i h;exact absurd he h
 split at he; · rename_i h;exact absurd he h
 split at he; · cases he
 rename_i h1 h2 h3
 rw [if_neg h1,if_neg h2,if_neg h3]
 exact Zco he
theorem ZkG (he:(ZjR s name key).2=0):svV (ZjR s name key).1=0:=by
 unfold ZjR at he ⊢
 split at he; · rename_i h;exact absurd he h
 split at he; · rename_i h;exact absurd he h
 split at he; · cases he
 split at he; · cases he
 rename_i h1 h2 h3 h4
 rw [if_neg h1,if_neg h2,if_neg h3,if_neg h4]
 exact Zco he
theorem Zj1 (he:(ZjT s name).2=0):svV (ZjT s name).1=0:=by
 unfold ZjT at he ⊢
 split at he; · rename_i h;exact absurd he h
 split at he; · cases he
 rename_i h1 h2
 rw [if_neg h1,if_neg h2]
 exact Zco he
theorem Zmh {o:Opp} (he:(doF s o).2=0):svV (doF s o).1=0:=by
 unfold doF at he ⊢
 split at he
 · rename_i h
   rw [if_pos h]
   exact Zj4 he
 · rename_i h
   rw [if_neg h]
   split at he
   · rename_i h2
     rw [if_pos h2]
     exact ZkG he
   · rename_i h2
     rw [if_neg h2]
     exact Zj1 he
theorem Zm9:svV (WW Za4)=0:=by kernel_rfl
theorem ZcM (l:List Opp):∀ i,svV (Ys l i)=0
 |0=>Zm9
 | i + 1 => by
   have ih:=ZcM l i
   simp only [Ys]
   cases l[i]? with
   | none=>exact ih
   | some o =>
     show svV (ZdY (Ys l i) o)=0
     unfold ZdY
     split
     · exact Zmh (by assumption)
     · exact ih
theorem Zli (l:List Opp) (hi:i≤31):ZoD (Ys l i)=(⟨pkT (skT Za4).cl,0,.zero,.zero⟩,0):=by
 unfold ZoD
 rw [Zi8,ZcM,if_neg (not_not_intro rfl),(U9 l hi).key]
theorem ZmL (h:svV s=0):enB (YZ s.log s.log.length) s.keys=true:=by
 unfold svV at h
 split at h; · cases h
 split at h; · cases h
 split at h; · cases h
 split at h; · cases h
 split at h; · cases h
 split at h; · cases h
 rename_i h6
 simpa using h6
theorem ZfF:∀ {L M:List En},enB L M=true↔L.map enK=M.map enK
 | [],[]=>by simp [enB]
 | [],_::_=>by simp [enB]
 |_::_,[]=>by simp [enB]
 | a :: r, b :: s => by
   simp only [enB,List.map_cons,List.cons.injEq,Bool.and_eq_true,decide_eq_true_eq,ZfF (L:=r) (M:=s),enK,Prod.mk.injEq,ZU]
   constructor
   · rintro ⟨h1,h2,h3,h4⟩;exact ⟨⟨h1,h3,h2⟩,h4⟩
   · rintro ⟨⟨h1,h3,h2⟩,h4⟩;exact ⟨h1,h2,h3,h4⟩
theorem ZbK {name:Bs}:∀ {L M:List En},L.map enK=M.map enK→(ZY name L).map enK=(ZY name M).map enK
 | [],[],_=>rfl
 | [],_::_,h=>by simp at h
 |_::_,[],h=>by simp at h
 | a :: r, b :: s, h => by
   rw [List.map_cons,List.map_cons] at h
   injection h with h1 h2
   have hn:a.name=b.name:=by simp only [enK,Prod.mk.injEq] at h1;exact h1.1
   rw [YG,YG,hn]
   split
   · simp only [Option.map_some,h1]
   · exact ZbK h2
