/- PRINTED by gen.py: all of them. No condition. -/
import Derived.Test.YtdeihhfhcnhmfaaDen0
import Derived.Test.YtdeihhfhcnhmfaaDen1
import Derived.Test.YtdeihhfhcnhmfaaDen2
import Derived.Test.YtdeihhfhcnhmfaaDen3
