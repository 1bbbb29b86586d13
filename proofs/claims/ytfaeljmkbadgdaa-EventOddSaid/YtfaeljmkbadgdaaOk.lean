/- What this file proves: one part of the proof that the law answers true for every input, by an interpreter that is proved sound against the given model. -/
import Derived.Test.YtfaeljmkbadgdaaVw
import Derived.Test.YtfaeljmkbadgdaaAw
import Derived.Test.YtfaeljmkbadgdaaVn
namespace Gv
open Go
theorem tVT_ok : VTOk' (tabOf FTL) tVT := vtok_of ⟨⟨rfl, mk23⟩, ⟨⟨rfl, mk32⟩, ⟨⟨rfl, mk37⟩, ⟨⟨rfl, mk39⟩, ⟨⟨rfl, mk41⟩, ⟨⟨rfl, mk44⟩, ⟨⟨rfl, mk73⟩, ⟨⟨rfl, mk74⟩, ⟨⟨rfl, mk75⟩, ⟨⟨rfl, mk76⟩, ⟨⟨rfl, mk77⟩, ⟨⟨rfl, mk81⟩, ⟨⟨rfl, mk96⟩, ⟨⟨rfl, mk98⟩, ⟨⟨rfl, mk99⟩, ⟨⟨rfl, mk102⟩, ⟨⟨rfl, mk103⟩, ⟨⟨rfl, mk104⟩, ⟨⟨rfl, cl_ent105⟩, ⟨⟨rfl, mk106⟩, ⟨⟨rfl, mk107⟩, ⟨⟨rfl, mk114⟩, ⟨⟨rfl, mk117⟩, ⟨⟨rfl, yes_ent awakeO⟩, ⟨⟨rfl, mk122⟩, ⟨⟨rfl, mk124⟩, ⟨⟨rfl, mk125⟩, ⟨⟨rfl, mk128⟩, ⟨⟨rfl, mk129⟩, ⟨⟨rfl, mk131⟩, ⟨⟨rfl, mk132⟩, ⟨⟨rfl, mk136⟩, ⟨⟨rfl, mk137⟩, ⟨⟨rfl, mk139⟩, ⟨⟨rfl, mk140⟩, ⟨⟨rfl, mk141⟩, ⟨⟨rfl, mk144⟩, ⟨⟨rfl, mk145⟩, ⟨⟨rfl, mk150⟩, ⟨⟨rfl, mk151⟩, ⟨⟨rfl, mk152⟩, ⟨⟨rfl, mk153⟩, ⟨⟨rfl, mk154⟩, ⟨⟨rfl, mk155⟩, ⟨⟨rfl, rep_ent156⟩, ⟨⟨rfl, mk157⟩, ⟨⟨rfl, mk158⟩, ⟨⟨rfl, mk159⟩, ⟨⟨rfl, mk161⟩, ⟨⟨rfl, mk162⟩, ⟨⟨rfl, mk163⟩, ⟨⟨rfl, mk164⟩, ⟨⟨rfl, mk176⟩, ⟨⟨rfl, mk178⟩, ⟨⟨rfl, mk189⟩, ⟨⟨rfl, mk190⟩, trivial⟩⟩⟩⟩⟩⟩⟩⟩⟩⟩⟩⟩⟩⟩⟩⟩⟩⟩⟩⟩⟩⟩⟩⟩⟩⟩⟩⟩⟩⟩⟩⟩⟩⟩⟩⟩⟩⟩⟩⟩⟩⟩⟩⟩⟩⟩⟩⟩⟩⟩⟩⟩⟩⟩⟩⟩
end Gv
